/- A part of the proof. -/
import Derived.Test.YtgjklfmnmljilaaGreatDoorZR06
namespace Go.Proofs.YtgjklfmnmljilaaGreatDoor
set_option linter.unusedVariables false
set_option linter.unusedSimpArgs false
set_option linter.unusedSectionVars false
set_option linter.unnecessarySimpa false
set_option maxRecDepth 100000
set_option maxHeartbeats 8000000
section
theorem ZF {M:List Int} {j v x:Int} (h0:0≤j) (h1:j<M.length):Q6 (M.set j.toNat v) x=if x=j then v else Q6 M x:=by
 have e:M.set j.toNat v=Qp M j v:=by unfold Qp;rw [if_pos (Jf h0 h1)]
 rw [e]
 by_cases hx:x=j
 · rw [if_pos hx,hx];exact Xb (Jf h0 h1)
 · rw [if_neg hx];exact QW h0 (Ne.symm hx)
theorem Jr {M:List Int} {j v:Int} (h0:0≤j) (h1:j<M.length):Qp M j v=M.set j.toNat v:=by unfold Qp;rw [if_pos (Jf h0 h1)]
def Vy:Q7:=⟨0,0,0,false,false,0,0,0,0⟩
def SL (c:Q0) (M:List Int) (i:Int):Q7:=(dec (Q6 M (Q5 c i))).getD Vy
def lv (s:Q7):Option (Int×Int×Int):=if s.st=3 then some (s.own,s.gen,s.str) else none
def LM (c:Q0) (M:List Int):Int→Option (Int×Int×Int):=fun i=>lv (SL c M i)
def GM (c:Q0) (M:List Int):Int→Int:=fun i=>(SL c M i).gen
def Jz (M:List Int):Prop:=Q6 M 0=2
structure Qj (c:Q0) (n:Int) (M:List Int):Prop where
 cf:c.fits
 n0:0≤n
 len:(M.length:Int)=c.cells
 sl:∀i,0≤i→i<c.sl→∃s:Q7,s.right∧Q6 M (Q5 c i)=s.enc
 ln:Ln (mQ M)
 q:Q6 M 1=(wd (mQ M):Int)
 qw:∀x∈mQ M,x<c.wo
 ep:0≤Q6 M 2∧Q6 M 2≤n
 pins:∀k,0≤k→k<c.wo→0≤Q6 M (3+k)∧Q6 M (3+k)≤n+1
 gr:∀k,0≤k→k<c.wo→ -1≤Q6 M (3+c.wo+k)∧Q6 M (3+c.wo+k)≤16
theorem Qj.mono {c:Q0} {n n':Int} {M:List Int} (h:Qj c n M) (hn:n≤n'):Qj c n' M:=
 {h with n0:=by have:=h.n0;omega,ep:=⟨h.ep.1,by have:=h.ep.2;omega⟩,pins:=fun k a b=>⟨(h.pins k a b).1,by have:=(h.pins k a b).2;omega⟩}
theorem Gu {c:Q0} (i:Int) (h:c.fits) (hi:0≤i∧i<c.sl):Q5 c i=3+2*c.wo+i:=by unfold Q5;rw [if_pos hi];rfl
theorem JU {c:Q0} (i:Int) (hi:¬(0≤i∧i<c.sl)):Q5 c i= -1:=by unfold Q5;rw [if_neg hi]
theorem YW (M:List Int):Q6 M (-1)=0:=by unfold Q6;rw [Yv Lb];rfl
theorem Q1q:dec 0=some Vy:=by decide+kernel
theorem U3:Vy.right:=by decide+kernel
theorem Q0s:Vy.enc=0:=by decide+kernel
variable {c:Q0} {n:Int} {M:List Int}
theorem Qj.at (h:Qj c n M) (i:Int):(SL c M i).right∧Q6 M (Q5 c i)=(SL c M i).enc∧dec (Q6 M (Q5 c i))=some (SL c M i):=by
 by_cases hi:0≤i∧i<c.sl
 · obtain ⟨s,hs,e⟩:=h.sl i hi.1 hi.2
   have:SL c M i=s:=by unfold SL;rw [e,QF hs];rfl
   rw [this,e];exact ⟨hs,rfl,QF hs⟩
 · have e:SL c M i=Vy:=by unfold SL;rw [JU i hi,YW,Q1q];rfl
   rw [e,JU i hi,YW,Q0s];exact ⟨U3,rfl,Q1q⟩
theorem Qj.len2 (h:Qj c n M):2≤M.length:=by have:=h.len;have:=h.cf.1;have:=h.cf.2.1;unfold Q0.cells at*;omega
theorem Qj.mOk (h:Qj c n M):MOk M:=⟨h.len2,h.ln,h.q⟩
def YO (c:Q0) (M:List Int) (i:Int) (u:Q7):List Int:=M.set (c.slot i).toNat u.enc
theorem Qj.Es (h:Qj c n M) {i:Int} (hi:0≤i∧i<c.sl):0≤c.slot i∧c.slot i<M.length:=by
 have:=h.len;have:=h.cf.1;unfold Q0.slot;unfold Q0.cells at*;omega
theorem Qj.Dy (h:Qj c n M) {i:Int} (hi:0≤i∧i<c.sl) (u:Q7) (x:Int):Q6 (YO c M i u) x=if x=c.slot i then u.enc else Q6 M x:=
 ZF (h.Es hi).1 (h.Es hi).2
theorem Qj.YV (h:Qj c n M) {i:Int} (hi:0≤i∧i<c.sl) (u:Q7) {x:Int} (hx:x<3+2*c.wo):Q6 (YO c M i u) x=Q6 M x:=by
 rw [h.Dy hi,if_neg];unfold Q0.slot;omega
theorem Qj.Dx (h:Qj c n M) {i:Int} (hi:0≤i∧i<c.sl) (u:Q7) (j:Int):Q6 (YO c M i u) (Q5 c j)=if j=i then u.enc else Q6 M (Q5 c j):=by
 rw [h.Dy hi]
 by_cases hj:j=i
 · rw [if_pos hj,if_pos];rw [hj];unfold Q5;rw [if_pos hi]
 · rw [if_neg hj,if_neg]
   unfold Q5 Q0.slot
   have:=h.cf.1
   split<;>omega
theorem VK {M M':List Int} (h:Q6 M' 1=Q6 M 1):mQ M'=mQ M:=by unfold mQ;rw [h]
theorem Qj.putS (h:Qj c n M) {i:Int} (hi:0≤i∧i<c.sl) {u:Q7} (hu:u.right):Qj c n (YO c M i u):=by
 have L:∀x,x<3+2*c.wo→Q6 (YO c M i u) x=Q6 M x:=fun x hx=>h.YV hi u hx
 have w1:=h.cf.1
 have e:=VK (L 1 Lb)
 refine ⟨h.cf,h.n0, ?_, ?_,by rw [e];exact h.ln,by rw [e,L 1 Lb];exact h.q,by rw [e];exact h.qw,by rw [L 2 Lb];exact h.ep,fun k a b=>by rw [L _ Lb];exact h.pins k a b,fun k a b=>by rw [L _ Lb];exact h.gr k a b⟩
 · unfold YO;rw [List.length_set];exact h.len
 · intro j a b
   rw [h.Dx hi]
   split
   · exact ⟨u,hu,rfl⟩
   · exact h.sl j a b
theorem Qj.Kc (h:Qj c n M) {i:Int} (hi:0≤i∧i<c.sl) {u:Q7} (hu:u.right) (j:Int):SL c (YO c M i u) j=if j=i then u else SL c M j:=by
 unfold SL
 rw [h.Dx hi]
 split
 · rw [QF hu];rfl
 · rfl
theorem Qj.Q9l (h:Qj c n M) {i:Int} (hi:0≤i∧i<c.sl) {u:Q7} (hu:u.right):LM c (YO c M i u)=upL (LM c M) i (lv u):=by
 funext j;unfold LM upL;rw [h.Kc hi hu];split<;>rfl
theorem Qj.Q9n (h:Qj c n M) {i:Int} (hi:0≤i∧i<c.sl) {u:Q7} (hu:u.right):GM c (YO c M i u)=upG (GM c M) i u.gen:=by
 funext j;unfold GM upG;rw [h.Kc hi hu];split<;>rfl
theorem Eh (L:Int→Option (Int×Int×Int)) (i:Int):upL L i (L i)=L:=by
 funext j;unfold upL;split
 · rename_i h;rw [h]
 · rfl
theorem WS (G:Int→Int) (i:Int):upG G i (G i)=G:=by
 funext j;unfold upG;split
 · rename_i h;rw [h]
 · rfl
theorem Qj.Q4g (h:Qj c n M) {i:Int} (hi:0≤i∧i<c.sl) (u:Q7):Jz (YO c M i u)=Jz M:=by
 unfold Jz;rw [h.YV hi u (by have:=h.cf.1;omega)]
theorem Z13 {P:Prop} (h:P:=by
 unfold Qx at hc
 rw [Bool.and_eq_true,decide_eq_true_eq] at hc
 unfold Q6;rw [if_pos hc.1];exact hc.2):P:=h
theorem Qj.cas (h:Qj c n M) {i w v:Int} (hc:Qx M (Q5 c i) w=true):(0≤i∧i<c.sl)∧(SL c M i).enc=w∧dec w=some (SL c M i)∧QI M (Q5 c i) w v=M.set (c.slot i).toNat v:=by
 have hi:0≤i∧i<c.sl:=by
  by_cases hi:0≤i∧i<c.sl
  · exact hi
  · rw [JU i hi] at hc;unfold Qx at hc;rw [Yv Lb] at hc;simp at hc
 have e:Q6 M (Q5 c i)=w:=by
  exact Z13
 obtain ⟨-,a,b⟩:=h.at i
 refine ⟨hi,by rw [←a,e],by rw [←e];exact b, ?_⟩
 unfold QI;rw [if_pos hc];unfold Q5;rw [if_pos hi]
theorem Qj.Y0 (h:Qj c n M) {j v:Int} (h0:0≤j) (h1:j<3+2*c.wo) (i:Int):SL c (M.set j.toNat v) i=SL c M i:=by
 unfold SL
 have:=h.len;have:=h.cf.2.1;have:=h.cf.1
 rw [ZF h0 (by unfold Q0.cells at*;omega),if_neg]
 unfold Q5 Q0.slot;split<;>omega
theorem Qj.Q7E (h:Qj c n M) {j v:Int} (h0:0≤j) (h1:j<3+2*c.wo):LM c (M.set j.toNat v)=LM c M:=by funext i;unfold LM;rw [h.Y0 h0 h1]
theorem Qj.Q7J (h:Qj c n M) {j v:Int} (h0:0≤j) (h1:j<3+2*c.wo):GM c (M.set j.toNat v)=GM c M:=by funext i;unfold GM;rw [h.Y0 h0 h1]
theorem Qj.set (h:Qj c n M) {j v:Int} (h0:0≤j) (h1:j<3+2*c.wo) (hq:j=1→∃L,Ln L∧v=(wd L:Int)∧∀x∈L,x<c.wo) (he:j=2→0≤v∧v≤n) (hp:3≤j→j<3+c.wo→0≤v∧v≤n+1)
 (hg:3+c.wo≤j→ -1≤v∧v≤16):Qj c n (M.set j.toNat v):=by
 have hl:=h.len;have s1:=h.cf.2.1;have w1:=h.cf.1
 have L:∀x,Q6 (M.set j.toNat v) x=if x=j then v else Q6 M x:=fun x=>ZF h0 (by unfold Q0.cells at*;omega)
 have Q:(Ln (mQ (M.set j.toNat v)))∧Q6 (M.set j.toNat v) 1=(wd (mQ (M.set j.toNat v)):Int)∧∀x∈mQ (M.set j.toNat v),x<c.wo:=by
  by_cases hj:j=1
  · obtain ⟨l,hl,hv,hw⟩:=hq hj
    have e:Q6 (M.set j.toNat v) 1=(wd l:Int):=by rw [L,if_pos hj.symm];exact hv
    have e2:=mQ_wd hl e
    rw [e2];exact ⟨hl,e,hw⟩
  · have e:Q6 (M.set j.toNat v) 1=Q6 M 1:=by rw [L,if_neg (Ne.symm hj)]
    rw [VK e,e];exact ⟨h.ln,h.q,h.qw⟩
 refine ⟨h.cf,h.n0,by rw [List.length_set];exact hl, ?_,Q.1,Q.2.1,Q.2.2, ?_, ?_, ?_⟩
 · intro i a b
   rw [L,if_neg (by rw [Gu i h.cf ⟨a,b⟩];omega)];exact h.sl i a b
 · rw [L];split
   · rename_i e;exact he e.symm
   · exact h.ep
 · intro k a b
   rw [L];split
   · exact hp Lb Lb
   · exact h.pins k a b
 · intro k a b
   rw [L];split
   · exact hg Lb
   · exact h.gr k a b
variable {s u:Q7} {d:Nat} {own more:Int}
theorem X7 (h:Qk s d own more=some u):(0≤own∧own≤15)∧∃t,chg d s own more=some t∧u={t with ver:=(s.ver+1) % 32768}:=by
 unfold Qk at h
 split at h
 · rename_i ho
   obtain ⟨t,ht,rfl⟩:=Option.map_eq_some_iff.1 h
   exact ⟨ho,t,ht,rfl⟩
 · cases h
theorem Q4D (h:Qk s d own more=some u):u.ver=(s.ver+1) % 32768:=by obtain ⟨-,t, -,rfl⟩:=X7 h;rfl
theorem XF (h:Qk s d own more=some u) (hd:d=0∨d=2∨d=5∨d=6∨d=7∨d=8∨d=9∨d=10∨d=12∨d=13∨d=17):lv u=lv s∧u.gen=s.gen:=by
 obtain ⟨-,t,ht,rfl⟩:=X7 h
 unfold lv
 rcases hd with rfl|rfl|rfl|rfl|rfl|rfl|rfl|rfl|rfl|rfl|rfl<;>simp only [chg] at ht<;>split at ht<;>cases ht<;>rename_i hc<;>
  simp only [isV,Jh,Jp,Bool.and_eq_true,decide_eq_true_eq,Bool.or_eq_true] at hc<;>simp [toV,Z6]<;>try omega
theorem Q2o (hs:s.right) (h:Qk s d own more=some u) (hd:d=1∨d=3∨(d=16∧u.st=3)) (hg:s.gen<4095):s.st≠3∧u.st=3∧u.own=own∧u.str=0∧u.gen=s.gen+1:=by
 obtain ⟨-,t,ht,rfl⟩:=X7 h
 have g0:=hs.gen0
 have C:s.st≠3→chg 3 s own more=chg 3 s own more→Js s own=t→s.st≠3∧t.st=3∧t.own=own∧t.str=0∧t.gen=s.gen+1:=by
  rintro a - rfl
  exact ⟨a,rfl,by simp [Js,toV],by simp [Js,toV];exact hs.strL a,by simp [Js];omega⟩
 rcases hd with rfl|rfl|⟨rfl,hd⟩<;>simp only [chg] at ht
 · split at ht
   · rename_i hc;simp only [Jh,Bool.and_eq_true,decide_eq_true_eq] at hc;exact C Lb rfl (Option.some.inj ht)
   · cases ht
 · split at ht
   · rename_i hc;simp only [Jp,Bool.and_eq_true,decide_eq_true_eq] at hc;exact C Lb rfl (Option.some.inj ht)
   · cases ht
 · split at ht
   · cases ht;simp [toV] at hd
   · split at ht
     · rename_i hc;simp only [Jh,Bool.and_eq_true,decide_eq_true_eq] at hc;exact C Lb rfl (Option.some.inj ht)
     · cases ht
theorem Q8J (hs:s.right) (h:Qk s 16 own more=some u) (hu:u.st≠3):lv u=lv s∧u.gen=s.gen:=by
 obtain ⟨-,t,ht,rfl⟩:=X7 h
 unfold lv
 simp only [chg] at ht
 split at ht
 · rename_i hc;cases ht;simp only [Jh,Bool.and_eq_true,decide_eq_true_eq] at hc;simp [toV];omega
 · split at ht
   · cases ht;simp [Js,toV] at hu
   · cases ht
theorem Q4C (h:Qk s 4 own more=some u):lv u=none∧u.gen=s.gen:=by
 obtain ⟨-,t,ht,rfl⟩:=X7 h
 simp only [chg] at ht
 split at ht
 · cases ht;exact ⟨rfl,rfl⟩
 · cases ht
theorem Q0O (h:Qk s 11 own more=some u):u.st=6∧u.gen=s.gen∧(s.st=2∨s.st=3):=by
 obtain ⟨-,t,ht,rfl⟩:=X7 h
 simp only [chg] at ht
 split at ht
 · rename_i hc;cases ht
   simp only [isV,Bool.and_eq_true,decide_eq_true_eq,Bool.or_eq_true] at hc
   exact ⟨rfl,rfl,hc.2⟩
 · cases ht
theorem ver_le (hs:s.right) (h:Qk s d own more=some u):u.gen≤s.gen+1:=by
 obtain ⟨-,t,ht,rfl⟩:=X7 h
 have G:∀x y:Int,0≤s.gen→(toV s x y).gen=s.gen∧(Js s y).gen≤s.gen+1∧(Z6 s y x).gen=s.gen:=by
  intro x y h0;refine ⟨rfl, ?_,rfl⟩;simp [Js];omega
 have g:=hs.gen0
 show t.gen≤s.gen+1
 unfold chg at ht
 split at ht<;>first
  |(split at ht<;>first|(cases ht;done)|(cases ht;have a:=(G 0 own g).1;have b:=(G 0 own g).2.1;simp only [toV,Z6] at*;omega)|(split at ht<;>first|(cases ht;done)|(cases ht;have b:=(G 0 own g).2.1;omega)))
  |(unfold VF at ht;split at ht<;>first|(cases ht;done)|(obtain ⟨i,hi,rfl⟩:=Option.map_eq_some_iff.1 ht;simp only;omega))
  |(unfold Vz at ht;split at ht<;>first|(cases ht;done)|(cases ht;simp only;omega))
  |cases ht
theorem Q61:∀x<256,∀k<8,x.testBit k=true→∀m<8,(x - 2 ^ k).testBit m=(x.testBit m ^^ decide (k=m)):=by decide+kernel
theorem Q8G:∀x<256,∀k<8,x.testBit k=false→∀m<8,(x|||2 ^ k).testBit m=(x.testBit m ^^ decide (k=m)):=by decide+kernel
theorem Q5y {a b:Int} {k:Nat} (hk:k<8) (h:∀m,m<8→b.toNat.testBit m=(a.toNat.testBit m ^^ decide (k=m))):VT a b=k:=by
 have e:(List.range 8).find? (fun i=>a.toNat.testBit i != b.toNat.testBit i)=some k:=by
  have f:∀i∈List.range 8,(a.toNat.testBit i != b.toNat.testBit i)=decide (k=i):=by
   intro i hi
   rw [h i (List.mem_range.1 hi)]
   cases a.toNat.testBit i<;>by_cases e:k=i<;>simp [e]
  have g:∀l:List Nat,(∀i∈l,(a.toNat.testBit i != b.toNat.testBit i)=decide (k=i))→l.find? (fun i=>a.toNat.testBit i != b.toNat.testBit i)=l.find? (fun i=>decide (k=i)):=by
   intro l
   induction l with
   |nil=>intro _;rfl
   |cons x l ih=>intro hl;rw [List.find?_cons,List.find?_cons,hl x Lc,ih fun i hi=>hl i (by simp [hi])]
  rw [g _ f]
  have:∀k<8,(List.range 8).find? (fun i=>decide (k=i))=some k:=by decide+kernel
  exact this k hk
 unfold VT;rw [e];rfl
theorem Q4B (hs:s.right) {opens:Bool} (h:Qk s (if opens=true then 14 else 15) own more=some u):
 s.st=3∧s.own=own∧u.st=3∧u.own=s.own∧u.gen=s.gen∧∃k:Nat,k<8∧VT s.str u.str=k∧s.str.toNat.testBit k= !opens∧∀m,m<8→u.str.toNat.testBit m=(s.str.toNat.testBit m ^^ decide (k=m)):=by
 obtain ⟨-,t,ht,rfl⟩:=X7 h
 have s0:=hs.str0;have s1:=hs.str1
 have K:∀k:Nat,k<8→s.str.toNat.testBit k= !opens→(∀m,m<8→t.str.toNat.testBit m=(s.str.toNat.testBit m ^^ decide (k=m)))→
  ∃k:Nat,k<8∧VT s.str t.str=k∧s.str.toNat.testBit k= !opens∧∀m,m<8→t.str.toNat.testBit m=(s.str.toNat.testBit m ^^ decide (k=m)):=
  fun k h1 h2 h3=>⟨k,h1,Q5y h1 h3,h2,h3⟩
 cases opens with
 |true=>
  simp only [if_true,chg,VF] at ht
  split at ht
  · rename_i hc
    obtain ⟨i,hi,rfl⟩:=Option.map_eq_some_iff.1 ht
    simp only [Jh,Bool.and_eq_true,decide_eq_true_eq] at hc
    have hi8:i<8:=by have:=GU hi;omega
    have hoff:s.str.toNat.testBit i=false:=by have:=List.find?_some hi;simpa [Xz] using this
    refine ⟨hc.1.1,hc.1.2,hc.1.1,rfl,rfl,K i hi8 (by rw [hoff];rfl) fun m hm=> ?_⟩
    exact Q8G _ Lb i hi8 hoff m hm
  · cases ht
 |false=>
  simp only [Bool.false_eq_true,if_false,chg,Vz] at ht
  split at ht
  · rename_i hc
    obtain ⟨hm1,hm2,hm3,hm4⟩:=hc
    cases ht
    simp only [Jh,Bool.and_eq_true,decide_eq_true_eq] at hm1
    refine ⟨hm1.1,hm1.2,hm1.1,rfl,rfl,K more.toNat Lb (by rw [show s.str.toNat.testBit more.toNat=true from hm4];rfl) fun m hm=> ?_⟩
    have:=Q61 s.str.toNat Lb more.toNat Lb hm4 m hm
    rw [←this]
    have hge:2 ^ more.toNat≤s.str.toNat:=Nat.ge_two_pow_of_testBit hm4
    show (s.str - ((2 ^ more.toNat:Nat):Int)).toNat.testBit m=_
    rw [show (s.str - ((2 ^ more.toNat:Nat):Int)).toNat=s.str.toNat - 2 ^ more.toNat by omega]
  · cases ht
end
section
theorem JY (c:Q0) (f:Qi) (M:List Int) (hf:f.found=false):
 (f.at_<c.sl∧JC (Q6 M (c.slot f.at_)) f.kind f.own=true∧QB c f M=({f with word:=Q6 M (c.slot f.at_),found:=true},true))∨
 (f.at_<c.sl∧JC (Q6 M (c.slot f.at_)) f.kind f.own=false∧QB c f M=({f with at_:=f.at_+1},decide (c.sl≤f.at_+1)))∨
 (c.sl≤f.at_∧QB c f M=(f,true)):=by
 unfold QB Qi.all
 rw [hf,Bool.false_or]
 by_cases h:c.sl≤f.at_
 · right;right
   rw [if_pos (decide_eq_true h)]
   exact ⟨h,rfl⟩
 · rw [if_neg (by rw [decide_eq_false h];simp)]
   cases hw:JC (Q6 M (c.slot f.at_)) f.kind f.own with
   |true=>left;exact ⟨Lb,rfl,by simp only [hw,if_true]⟩
   |false=>right;left;exact ⟨Lb,rfl,by simp only [hw,Bool.false_eq_true,if_false]⟩
inductive RtS (M:List Int):J2→J2→List Int→Prop
 |lost {r}:r.st=.swap→(∀s u,dec r.word=some s→Qk s 11 0 4095=some u→Qx M r.cell r.word=false)→RtS M r r.fin M
 |swap {r} (s u:Q7):r.st=.swap→dec r.word=some s→Qk s 11 0 4095=some u→Qx M r.cell r.word=true→RtS M r {r with word:=u.enc,swapped:=true,st:=.look} (QI M r.cell r.word u.enc)
 |look {r}:r.st=.look→RtS M r {r with epoch:=Q6 M 2,st:=.age} M
 |stale {r}:r.st=.age→(∀s u,dec r.word=some s→Qk s 17 0 r.epoch=some u→Qx M r.cell r.word=false)→RtS M r {r with st:=.QO} M
 |age {r} (s u:Q7):r.st=.age→dec r.word=some s→Qk s 17 0 r.epoch=some u→Qx M r.cell r.word=true→RtS M r {r with st:=.QO} (QI M r.cell r.word u.enc)
 |QO {r}:r.st=.QO→RtS M r r.fin (VU M 2 1)
theorem JZ {w:Int} {d:Nat} {o m:Int} {x:Q7×Int} (h:J6 w d o m=some x):∃s,dec w=some s∧Qk s d o m=some x.1∧x.2=x.1.enc:=by
 unfold J6 at h
 cases hd:dec w with
 |none=>rw [hd] at h;cases h
 |some s=>
  rw [hd,Option.bind_some] at h
  cases hn:Qk s d o m with
  |none=>rw [hn] at h;cases h
  |some t=>
   rw [hn,Option.map_some] at h
   cases h
   exact ⟨s,rfl,hn,rfl⟩
theorem Zd {w:Int} {d:Nat} {o m:Int} (h:J6 w d o m=none) {s u:Q7} (hs:dec w=some s) (hu:Qk s d o m=some u):False:=by
 unfold J6 at h
 rw [hs,Option.bind_some,hu,Option.map_some] at h
 cases h
theorem DT {w:Int} {d:Nat} {o m:Int} {s u:Q7} (hs:dec w=some s) (hu:Qk s d o m=some u):J6 w d o m=some (u,u.enc):=by
 unfold J6;rw [hs,Option.bind_some,hu];rfl
theorem ZH {M:List Int} {i o v:Int} (h:Qx M i o=false):QI M i o v=M:=by unfold QI;rw [if_neg (by rw [h];simp)]
theorem ZC (r:J2) (M:List Int) (h:r.st≠.done):RtS M r (Qn r M).1 (Qn r M).2:=by
 unfold Qn
 cases hst:r.st with
 |swap=>
  simp only
  cases ha:J6 r.word 11 0 4095 with
  |none=>exact .lost hst fun s u hs hu=>(Zd ha hs hu).elim
  |some x=>
   obtain ⟨s,hs,hu,he⟩:=JZ ha
   obtain ⟨u,n⟩:=x
   simp only at hu he ⊢
   subst he
   cases hc:Qx M r.cell r.word with
   |true=>simp only [if_true];exact .swap s u hst hs hu hc
   |false=>simp only [Bool.false_eq_true,if_false];exact .lost hst fun _ _ _ _=>hc
 |look=>exact .look hst
 |age=>
  simp only
  cases ha:J6 r.word 17 0 r.epoch with
  |none=>exact .stale hst fun s u hs hu=>(Zd ha hs hu).elim
  |some x=>
   obtain ⟨s,hs,hu,he⟩:=JZ ha
   obtain ⟨u,n⟩:=x
   simp only at hu he ⊢
   subst he
   cases hc:Qx M r.cell r.word with
   |true=>exact .age s u hst hs hu hc
   |false=>rw [ZH hc];exact .stale hst fun _ _ _ _=>hc
 |QO=>exact .QO hst
 |done=>exact absurd hst h
def ZU (st:Int):Int:=if st=3 then 1 else if st=7 then 2 else 0
inductive TkS (c:Q0) (M:List Int) (good:Bool):Qd→Qd→List Int→Prop
 |shut {t}:t.st=0→Q6 M 0≠0→TkS c M good t (t.end_ 5) M
 |begins {t}:t.st=0→Q6 M 0=0→TkS c M good t (t.search 1 0 t.w) M
 |hit {t f}:t.st=1∨t.st=3∨t.st=7→t.look=some f→f.at_<c.sl→JC (Q6 M (c.slot f.at_)) f.kind f.own=true→TkS c M good t {t with look:=some {f with word:=Q6 M (c.slot f.at_),found:=true},st:=t.st+1} M
 |miss {t f}:t.st=1∨t.st=3∨t.st=5∨t.st=7→t.look=some f→f.at_+1<c.sl→JC (Q6 M (c.slot f.at_)) f.kind f.own=false→TkS c M good t {t with look:=some {f with at_:=f.at_+1}} M
 |last1 {t f}:t.st=1→t.look=some f→f.at_+1=c.sl→JC (Q6 M (c.slot f.at_)) f.kind f.own=false→TkS c M good t (t.search 3 1 t.w) M
 |last3 {t f}:t.st=3→t.look=some f→f.at_+1=c.sl→JC (Q6 M (c.slot f.at_)) f.kind f.own=false→TkS c M good t (t.search 7 2 t.w) M
 |last7 {t f}:t.st=7→t.look=some f→f.at_+1=c.sl→JC (Q6 M (c.slot f.at_)) f.kind f.own=false→TkS c M good t ({t with look:=some {f with at_:=f.at_+1}}.end_ 3) M
 |last5 {t f f'}:t.st=5→t.look=some f→TkS c M good t {t with look:=some f',st:=10} M
 |pass {t f}:t.st=5→t.look=some f→f.at_<c.sl→TkS c M good t {t with passes:=false,look:=some {f with word:=Q6 M (c.slot f.at_),at_:=f.at_+1}} M
 |move {t f}:t.st=5→t.look=some f→f.at_<c.sl→JC (Q6 M (c.slot f.at_)) f.kind f.own=true→TkS c M good t {t with passes:=true,look:=some {f with word:=Q6 M (c.slot f.at_),found:=true},st:=6} M
 |lease {t f} (s u:Q7):t.st=2∨t.st=4→t.look=some f→dec f.word=some s→Qk s 3 t.w 0=some u→Qx M (Q5 c f.at_) f.word=true→
   TkS c M good t {t with i:=f.at_,word:=u.enc,gen:=u.gen,st:=10} (QI M (Q5 c f.at_) f.word u.enc)
 |leaseMove {t f} (s u:Q7):t.st=4→t.look=some f→dec f.word=some s→Qk s 3 t.w 0=some u→Qx M (Q5 c f.at_) f.word=true→
   TkS c M good t {t with i:=f.at_,word:=u.enc,gen:=u.gen,passes:=false,look:=some (QE 0 s.own 0),st:=5} (QI M (Q5 c f.at_) f.word u.enc)
 |again {t f}:t.st=2∨t.st=4∨t.st=8→t.look=some f→(∀s u,dec f.word=some s→Qk s (if t.st=8 then 0 else 3) t.w 0=some u→Qx M (Q5 c f.at_) f.word=false)→TkS c M good t {t with look:=some f.again,st:=t.st - 1} M
 |dial {t f} (s u:Q7):t.st=8→t.look=some f→dec f.word=some s→Qk s 0 t.w 0=some u→Qx M (Q5 c f.at_) f.word=true→
   TkS c M good t {t with i:=f.at_,word:=u.enc,gen:=u.gen,st:=9} (QI M (Q5 c f.at_) f.word u.enc)
 |moved {t f} (s u:Q7):t.st=6→t.look=some f→dec f.word=some s→Qk s 9 t.w 0=some u→Qx M (Q5 c f.at_) f.word=true→TkS c M good t {t with look:=some f.go,st:=5} (QI M (Q5 c f.at_) f.word u.enc)
 |unmoved {t f}:t.st=6→t.look=some f→TkS c M good t {t with look:=some f.go,st:=5} M
 |up {t} (s u:Q7):t.st=9→good=true→dec t.word=some s→Qk s 1 t.w 0=some u→Qx M (Q5 c t.i) t.word=true→TkS c M good t {t with i:=t.i,word:=u.enc,gen:=u.gen,st:=10} (QI M (Q5 c t.i) t.word u.enc)
 |down {t} (s u:Q7):t.st=9→good=false→dec t.word=some s→Qk s 2 t.w 0=some u→Qx M (Q5 c t.i) t.word=true→TkS c M good t ({t with i:=t.i,word:=u.enc,gen:=u.gen}.end_ 6) (QI M (Q5 c t.i) t.word u.enc)
 |undialed {t}:t.st=9→(∀s u,dec t.word=some s→Qk s (if good=true then 1 else 2) t.w 0=some u→Qx M (Q5 c t.i) t.word=false)→TkS c M good t (t.end_ 6) M
 |fine {t}:t.st=10→Q6 M 0=0→TkS c M good t (t.end_ 0) M
 |late {t}:t.st=10→Q6 M 0≠0→TkS c M good t {t with st:=11} M
 |gives {t} (s:Q7):t.st=11→dec (Q6 M (Q5 c t.i))=some s→s.st=3→s.own=t.w→s.gen=t.gen→TkS c M good t {t with ret:=some (Jb c t.i (Q6 M (Q5 c t.i))),st:=12} M
 |gone {t}:t.st=11→(∀s,dec (Q6 M (Q5 c t.i))=some s→¬(s.st=3∧s.own=t.w∧s.gen=t.gen))→TkS c M good t (t.end_ 5) M
 |goes {t r r' M'}:t.st=12→t.ret=some r→RtS M r r' M'→r'.done=false→TkS c M good t {t with ret:=some r'} M'
 |went {t r r' M'}:t.st=12→t.ret=some r→RtS M r r' M'→r'.done=true→r'.swapped=true→TkS c M good t ({t with ret:=some r'}.end_ 5) M'
 |back {t r r' M'}:t.st=12→t.ret=some r→RtS M r r' M'→r'.done=true→r'.swapped=false→TkS c M good t {t with ret:=some r',st:=11} M'
 |loads {t}:t.st=13→TkS c M good t {t with word:=Q6 M (Q5 c t.i),st:=14} M
 |none {t}:t.st=14→(∀s u,dec t.word=some s→Qk s 16 t.w 0≠some u)→TkS c M good t (t.end_ 5) M
 |takes {t} (s u:Q7):t.st=14→dec t.word=some s→Qk s 16 t.w 0=some u→Qx M (Q5 c t.i) t.word=true→TkS c M good t {t with i:=t.i,word:=u.enc,gen:=u.gen,st:=if u.st=3 then 10 else 9} (QI M (Q5 c t.i) t.word u.enc)
 |fails {t} (s u:Q7):t.st=14→dec t.word=some s→Qk s 16 t.w 0=some u→Qx M (Q5 c t.i) t.word=false→TkS c M good t {t with st:=13} M
theorem ZK (c:Q0) (t:Qd) (M:List Int) (i word:Int) (d:Nat):
 (∃s u,dec word=some s∧Qk s d t.w 0=some u∧Qx M (Q5 c i) word=true∧X3 c t M i word d=({t with i:=i,word:=u.enc,gen:=u.gen},QI M (Q5 c i) word u.enc,true))∨
 ((∀s u,dec word=some s→Qk s d t.w 0=some u→Qx M (Q5 c i) word=false)∧X3 c t M i word d=(t,M,false)):=by
 unfold X3
 cases ha:J6 word d t.w 0 with
 |none=>right;exact ⟨fun s u hs hu=>(Zd ha hs hu).elim,rfl⟩
 |some x=>
  obtain ⟨s,hs,hu,he⟩:=JZ ha
  obtain ⟨u,n⟩:=x
  simp only at hu he ⊢
  subst he
  cases hc:Qx M (Q5 c i) word with
  |true=>left;exact ⟨s,u,hs,hu,rfl,by simp only [if_true]⟩
  |false=>right;exact ⟨fun _ _ _ _=>rfl,by simp only [Bool.false_eq_true,if_false]⟩
structure Yg (c:Q0) (r:J2) (i:Int) (P:Q7→Prop):Prop where
 wd:∃s,Q7.right s∧r.word=s.enc∧(r.st=.swap→P s)
 nd:r.st≠.done
 dn:r.done=false
 sw:r.swapped=decide (r.st≠.swap)
 cl:r.cell=Q5 c i
structure Qd.live (c:Q0) (w:Nat) (t:Qd):Prop where
 s0:0≤t.st
 s1:t.st≤14
 tw:t.w=w
 lk:t.st=1∨t.st=3∨t.st=5∨t.st=7→∃f,t.look=some f∧f.found=false∧0≤f.at_∧f.at_≤c.sl∧(t.st≠5→f.at_<c.sl)∧f.kind=ZU t.st
 fd:t.st=2∨t.st=4∨t.st=6∨t.st=8→∃f s,t.look=some f∧f.found=true∧0≤f.at_∧f.at_<c.sl∧Q7.right s∧f.word=s.enc∧Jq s f.kind f.own=true∧f.kind=ZU (t.st - 1)
 wd:t.st=9∨t.st=14→∃s,Q7.right s∧t.word=s.enc
 i:t.st=5∨t.st=6∨(9≤t.st∧t.st≤12)→0≤t.i∧t.i<c.sl
 rt:t.st=12→∃r,t.ret=some r∧Yg c r t.i fun s=>s.st=3∧s.own=t.w∧s.gen=t.gen
theorem Yn (c:Q0) (w:Nat) (t:Qd) (M:List Int) (good:Bool) (h:t.live c w):TkS c M good t (Qg c t M good).1 (Qg c t M good).2:=by
 have hs:t.st=0∨t.st=1∨t.st=2∨t.st=3∨t.st=4∨t.st=5∨t.st=6∨t.st=7∨t.st=8∨t.st=9∨t.st=10∨t.st=11∨t.st=12∨t.st=13∨t.st=14:=by have:=h.s0;have:=h.s1;omega
 obtain ⟨-, -, -,hlk,hfd,hwd,hi,hrt⟩:=h
 have L:∀f,t.look=some f→t.lk=f:=fun f e=>by unfold Qd.lk;rw [e];rfl
 have Z:∀st kind:Int,t.st=st→(st=2∨st=4∨st=8)→∀f,t.look=some f→∀d:Nat,d=(if t.st=8 then 0 else 3)→
  (∃s u,dec f.word=some s∧Qk s d t.w 0=some u∧Qx M (Q5 c f.at_) f.word=true∧Zz c t M d=({t with i:=f.at_,word:=u.enc,gen:=u.gen},QI M (Q5 c f.at_) f.word u.enc,true))∨
  ((∀s u,dec f.word=some s→Qk s d t.w 0=some u→Qx M (Q5 c f.at_) f.word=false)∧Zz c t M d=({t with look:=some f.again},M,false)):=by
  intro st kind _ _ f hf d _
  unfold Zz
  rw [L f hf]
  rcases ZK c t M f.at_ f.word d with ⟨s,u,h1,h2,h3,h4⟩|⟨h1,h2⟩
  · left;exact ⟨s,u,h1,h2,h3,by rw [h4]⟩
  · right;exact ⟨h1,by rw [h2]⟩
 rcases hs with hs|hs|hs|hs|hs|hs|hs|hs|hs|hs|hs|hs|hs|hs|hs
 · by_cases h0:Q6 M 0=0
   · simp [Qg,hs,h0];exact .begins hs h0
   · simp [Qg,hs,h0];exact .shut hs h0
 · obtain ⟨f,hf,hff,h0,h1,h2,hk⟩:=hlk Lb
   rcases JY c f M hff with ⟨ha,hw,e⟩|⟨ha,hw,e⟩|⟨ha,e⟩
   · simp [Qg,hs,L f hf,e];have:=TkS.hit (good:=good) (.inl hs) hf ha hw;rwa [hs] at this
   · by_cases hl:c.sl≤f.at_+1
     · simp [Qg,hs,L f hf,e,hl,hff];exact .last1 hs hf Lb hw
     · simp [Qg,hs,L f hf,e,hl,hff];have:=TkS.miss (good:=good) (.inl hs) hf Lb hw;simpa [hff,hs] using this
   · have:=h2 Lb;omega
 · obtain ⟨f,s,hf,hff,h0,h1,hsr,hw,hfit,hk⟩:=hfd Lb
   rcases Z 2 0 hs Lb f hf 3 (by rw [if_neg Lb]) with ⟨s,u,a1,a2,a3,a4⟩|⟨a1,a2⟩
   · simp [Qg,hs,a4];exact .lease s u (.inl hs) hf a1 a2 a3
   · simp [Qg,hs,a2];have:=TkS.again (good:=good) (.inl hs) hf (by rw [if_neg Lb];exact a1);rwa [hs] at this
 · obtain ⟨f,hf,hff,h0,h1,h2,hk⟩:=hlk Lb
   rcases JY c f M hff with ⟨ha,hw,e⟩|⟨ha,hw,e⟩|⟨ha,e⟩
   · simp [Qg,hs,L f hf,e];have:=TkS.hit (good:=good) (.inr (.inl hs)) hf ha hw;rwa [hs] at this
   · by_cases hl:c.sl≤f.at_+1
     · simp [Qg,hs,L f hf,e,hl,hff];exact .last3 hs hf Lb hw
     · simp [Qg,hs,L f hf,e,hl,hff];have:=TkS.miss (good:=good) (.inr (.inl hs)) hf Lb hw;simpa [hff,hs] using this
   · have:=h2 Lb;omega
 · obtain ⟨f,s,hf,hff,h0,h1,hsr,hw,hfit,hk⟩:=hfd Lb
   rcases Z 4 0 hs Lb f hf 3 (by rw [if_neg Lb]) with ⟨s,u,a1,a2,a3,a4⟩|⟨a1,a2⟩
   · by_cases ho:s.own=t.w
     · simp [Qg,hs,a4,L f hf,a1,ho];exact .lease s u (.inr hs) hf a1 a2 a3
     · simp [Qg,hs,a4,L f hf,a1,ho];exact .leaseMove s u hs hf a1 a2 a3
   · simp [Qg,hs,a2];have:=TkS.again (good:=good) (.inr (.inl hs)) hf (by rw [if_neg Lb];exact a1);rwa [hs] at this
 · obtain ⟨f,hf,hff,h0,h1,h2,hk⟩:=hlk Lb
   rcases JY c f M hff with ⟨ha,hw,e⟩|⟨ha,hw,e⟩|⟨ha,e⟩
   · cases hp:t.passes with
     |true=>simp [Qg,hs,L f hf,e,hp,Qi.go];have:=TkS.pass (M:=M) (good:=good) hs hf ha;simpa [hff,hs] using this
     |false=>simp [Qg,hs,L f hf,e,hp];exact .move hs hf ha hw
   · by_cases hl:c.sl≤f.at_+1
     · simp [Qg,hs,L f hf,e,hl,hff];exact .last5 hs hf
     · simp [Qg,hs,L f hf,e,hl,hff];have:=TkS.miss (good:=good) (.inr (.inr (.inl hs))) hf Lb hw;simpa [hff,hs] using this
   · simp [Qg,hs,L f hf,e,hff];exact .last5 hs hf
 · obtain ⟨f,s,hf,hff,h0,h1,hsr,hw,hfit,hk⟩:=hfd Lb
   cases ha:J6 f.word 9 t.w 0 with
   |none=>simp [Qg,hs,L f hf,ha];exact .unmoved hs hf
   |some x=>
    obtain ⟨s,hds,hu,he⟩:=JZ ha
    obtain ⟨u,n⟩:=x
    simp only at hu he
    subst he
    simp [Qg,hs,L f hf,ha]
    cases hc:Qx M (Q5 c f.at_) f.word with
    |true=>exact .moved s u hs hf hds hu hc
    |false=>rw [ZH hc];exact .unmoved hs hf
 · obtain ⟨f,hf,hff,h0,h1,h2,hk⟩:=hlk Lb
   rcases JY c f M hff with ⟨ha,hw,e⟩|⟨ha,hw,e⟩|⟨ha,e⟩
   · simp [Qg,hs,L f hf,e];have:=TkS.hit (good:=good) (.inr (.inr hs)) hf ha hw;rwa [hs] at this
   · by_cases hl:c.sl≤f.at_+1
     · simp [Qg,hs,L f hf,e,hl,hff];have:=TkS.last7 (good:=good) hs hf Lb hw;simpa [hff,hs] using this
     · simp [Qg,hs,L f hf,e,hl,hff];have:=TkS.miss (good:=good) (.inr (.inr (.inr hs))) hf Lb hw;simpa [hff,hs] using this
   · have:=h2 Lb;omega
 · obtain ⟨f,s,hf,hff,h0,h1,hsr,hw,hfit,hk⟩:=hfd Lb
   rcases Z 8 0 hs Lb f hf 0 (by rw [if_pos hs]) with ⟨s,u,a1,a2,a3,a4⟩|⟨a1,a2⟩
   · simp [Qg,hs,a4];exact .dial s u hs hf a1 a2 a3
   · simp [Qg,hs,a2];have:=TkS.again (good:=good) (.inr (.inr hs)) hf (by rw [if_pos hs];exact a1);rwa [hs] at this
 · cases good with
   |true=>
    rcases ZK c t M t.i t.word 1 with ⟨s,u,h1,h2,h3,h4⟩|⟨h1,h2⟩
    · simp [Qg,hs,h4];exact .up s u hs rfl h1 h2 h3
    · simp [Qg,hs,h2];exact .undialed hs (by simpa using h1)
   |false=>
    rcases ZK c t M t.i t.word 2 with ⟨s,u,h1,h2,h3,h4⟩|⟨h1,h2⟩
    · simp [Qg,hs,h4];exact .down s u hs rfl h1 h2 h3
    · simp [Qg,hs,h2];exact .undialed hs (by simpa using h1)
 · by_cases h0:Q6 M 0=0
   · simp [Qg,hs,h0];exact .fine hs h0
   · simp [Qg,hs,h0];exact .late hs h0
 · cases hd:dec (Q6 M (Q5 c t.i)) with
   |none=>simp [Qg,hs,hd];exact .gone hs fun s e=>by rw [hd] at e;cases e
   |some s=>
    by_cases hc:s.st=3∧s.own=t.w∧s.gen=t.gen
    · simp [Qg,hs,hd,hc];exact .gives s hs hd hc.1 hc.2.1 hc.2.2
    · simp [Qg,hs,hd,hc];exact .gone hs fun s' e=>by rw [hd] at e;cases e;exact hc
 · obtain ⟨r,hr,hl⟩:=hrt hs
   have hS:=ZC r M hl.nd
   have er:t.rt=r:=by unfold Qd.rt;rw [hr];rfl
   simp [Qg,hs,er]
   generalize Qn r M=x at*
   obtain ⟨r',M'⟩:=x
   simp only at hS ⊢
   cases hd:r'.done with
   |false=>simp only [Bool.false_eq_true,if_false];have:=TkS.goes (c:=c) (good:=good) hs hr hS hd;rwa [hs] at this
   |true=>
    cases hw:r'.swapped with
    |true=>simp only [if_true];exact .went hs hr hS hd hw
    |false=>simp only [Bool.false_eq_true,if_false,if_true];exact .back hs hr hS hd hw
 · simp [Qg,hs];exact .loads hs
 · cases ha:J6 t.word 16 t.w 0 with
   |none=>simp [Qg,hs,ha];exact .none hs fun s u hd hu=>Zd ha hd hu
   |some x=>
    obtain ⟨s0,hds,hu,he⟩:=JZ ha
    obtain ⟨u0,n⟩:=x
    simp only at hu he
    subst he
    rcases ZK c t M t.i t.word 16 with ⟨s,u,h1,h2,h3,h4⟩|⟨h1,h2⟩
    · rw [hds] at h1;cases h1
      rw [hu] at h2;cases h2
      by_cases hu3:u0.st=3
      · simp [Qg,hs,ha,h4,hu3];have:=TkS.takes (good:=good) s0 u0 hs hds hu h3;simpa [hu3] using this
      · simp [Qg,hs,ha,h4,hu3];have:=TkS.takes (good:=good) s0 u0 hs hds hu h3;simpa [hu3] using this
    · simp [Qg,hs,ha,h2];exact .fails s0 u0 hs hds hu (h1 s0 u0 hds hu)
end
end Go.Proofs.YtgjklfmnmljilaaGreatDoor

/- A part of the proof. -/
import Derived.Test.YtgjklfmnmljilaaGreatDoorZR11
namespace Go.Proofs.YtgjklfmnmljilaaGreatDoor
set_option linter.unusedVariables false
set_option linter.unusedSimpArgs false
set_option linter.unusedSectionVars false
set_option linter.unnecessarySimpa false
set_option maxRecDepth 100000
set_option maxHeartbeats 8000000
section
variable {c:Q0} {w:Nat} {n:Int} {M M':List Int}
def Vl (c:Q0) (M:List Int):List Int:=(List.range c.sl.toNat).map fun i:Nat=>Q6 M (c.slot (i:Int))
def ZP (c:Q0) (M:List Int) (t:Tw2):Prop:=t.d=false∧t.r=(Vl c M).take t.r.length
instance (c:Q0) (M:List Int) (t:Tw2):Decidable (ZP c M t):=by unfold ZP;infer_instance
def twR (c:Q0) (M:List Int) (t:Tw2):Int:=(c.sl - t.r.length)+(if ZP c M t then (if 0<t.n∧t.l=Vl c M then 0 else c.sl) else 2*c.sl)
theorem Q9a (h:Qj c n M):((Vl c M).length:Int)=c.sl:=by unfold Vl;rw [List.length_map,List.length_range];have:=h.cf.2.1;omega
theorem Same.cur (h:Same c M M'):Vl c M'=Vl c M:=by
 unfold Vl
 refine List.map_congr_left fun i hi=> ?_
 have:=h.s i
 unfold Q5 at this
 rw [List.mem_range] at hi
 rw [if_pos Lb] at this
 exact this
theorem Same.twR (h:Same c M M') (t:Tw2):twR c M' t=twR c M t:=by unfold Go.Proofs.YtgjklfmnmljilaaGreatDoor.twR ZP;simp only [h.cur]
theorem cur_at (h:Qj c n M) {k:Nat} (hk:(k:Int)<c.sl):(Vl c M)[k]?=some (Q6 M (c.slot k)):=by
 unfold Vl;rw [List.getElem?_map,List.getElem?_range Lb];rfl
theorem Q7j (h:Qj c n M) {r:List Int} (hr:(r.length:Int)<c.sl):r++[Q6 M (c.slot r.length)]=(Vl c M).take (r.length+1)↔r=(Vl c M).take r.length:=by
 have e:(Vl c M).take (r.length+1)=(Vl c M).take r.length++[Q6 M (c.slot r.length)]:=by rw [List.take_add_one,cur_at h hr];rfl
 rw [e]
 constructor
 · intro a;exact (List.append_inj' a rfl).1
 · intro a;rw [←a]
theorem tw_go (h:Qj c n M) {t:Tw2} (hl:t.live c n):
 ((QH c t M).d=false→(ZP c M t→ZP c M (QH c t M))∧(ZP c M t∨¬ZP c M (QH c t M)∨True)∧twR c M (QH c t M)+1≤twR c M t)∧
 ((QH c t M).d=true→ZP c M t→(QH c t M).l=Vl c M)∧1≤twR c M t:=by
 have l1:=hl.r
 have sl:=h.cf.2.1
 have cl:=Q9a h
 by_cases hd:t.d=true
 · have e:QH c t M=t:=by unfold QH;rw [if_pos hd]
   rw [e]
   refine ⟨fun x=>absurd hd (by rw [x];simp),fun _ p=>absurd hd (by rw [p.1];simp), ?_⟩
   unfold twR;split<;>(try split)<;>omega
 · have hd':t.d=false:=by simpa using hd
   obtain ⟨x,hx⟩:∃x,Q6 M (c.slot t.r.length)=x:=⟨_,rfl⟩
   have hct:=Q7j h l1
   rw [hx] at hct
   have e:QH c t M=(if ((t.r++[x]).length:Int)<c.sl then {t with r:=t.r++[x]} else ⟨[],t.r++[x],t.n+1,decide (0<t.n)&&decide (t.r++[x]=t.l)⟩):=by unfold QH;rw [if_neg hd];simp only [hx]
   rw [e]
   have ll:(t.r++[x]).length=t.r.length+1:=Lc
   rw [ll]
   have hP:ZP c M t↔t.r=(Vl c M).take t.r.length:=⟨fun p=>p.2,fun p=>⟨hd',p⟩⟩
   by_cases hlt:((t.r.length+1:Nat):Int)<c.sl
   · rw [if_pos hlt]
     have hP':ZP c M {t with r:=t.r++[x]}↔ZP c M t:=by
      rw [hP,←hct]
      unfold ZP
      simp only [hd',true_and]
      rw [ll]
     refine ⟨fun _=>⟨hP'.2,.inr (.inr trivial), ?_⟩,fun y=>by rw [show ({t with r:=t.r++[x]}:Tw2).d=t.d from rfl] at y;exact absurd y hd, ?_⟩
     · unfold twR
       simp only [hP',ll]
       omega
     · unfold twR;split<;>(try split)<;>omega
   · rw [if_neg hlt]
     have hcur:ZP c M t→t.r++[x]=Vl c M:=by
      intro p
      rw [hct.2 p.2,List.take_of_length_le Lb]
     have hpn:(decide (0<t.n)&&decide (t.r++[x]=t.l))=false→ZP c M ⟨[],t.r++[x],t.n+1,decide (0<t.n)&&decide (t.r++[x]=t.l)⟩:=fun y=>⟨y,Lc⟩
     refine ⟨fun y=>⟨fun _=>hpn y,.inr (.inr trivial), ?_⟩,fun _ p=>hcur p, ?_⟩
     · have n0:=hl.n
       simp only at y
       unfold twR
       rw [if_pos (hpn y)]
       simp only [List.length_nil]
       by_cases p:ZP c M t
       · rw [if_pos p,if_pos ⟨Lb,hcur p⟩]
         by_cases q:0<t.n∧t.l=Vl c M
         · exfalso
           rw [hcur p,q.2] at y
           simp at y;omega
         · rw [if_neg q];omega
       · rw [if_neg p];split<;>omega
     · unfold twR;split<;>(try split)<;>omega
theorem Q8M (a K:Int):(a - 1)*K=a*K - K:=by rw [Int.sub_mul,Int.one_mul]
def yB (c:Q0) (M:List Int) (t:Qf):Int:=
 if t.st=0 then tFq c
 else if t.st=1 then tFq c - 1
 else if t.st=2 then tFq c - 2
 else if t.st=3 then (c.sl - t.lk.at_)+c.sl*(c.wo+3)+c.sl+6
 else if t.st=4 then rR c M t.i t.rt ((c.sl - t.lk.at_)+c.sl*(c.wo+3)+c.sl+7)
 else if t.st=5 then (c.sl - t.lk.at_)*(c.wo+3)+c.sl+5
 else if t.st=6 then (c.sl - t.lk.at_ - 1)*(c.wo+3)+c.sl+7+(c.wo - t.other)
 else if t.st=7 then (c.sl - t.lk.at_ - 1)*(c.wo+3)+c.sl+6
 else if t.st=8 then c.sl+4
 else if t.st=9 then (c.sl - t.lk.at_)+3
 else if t.st=10 then (if mt c M t.i t.word then 1 else (c.sl - t.lk.at_)+4)
 else if t.st=11 then (if mQ M=t.queue then 1 else c.sl+6)
 else if t.st=12 then c.sl+5
 else if t.st=13 then c.sl+5
 else if t.st=14 then (if mt c M t.i t.word then 1 else c.sl+6)
 else if t.st=15 then 2
 else if t.st=16 then 1 else 0
def yE (c:Q0) (M:List Int) (t:Qf):Int:=if t.st=0∨t.epoch=Q6 M 2 then 0 else tFq c+1
def yR (c:Q0) (M:List Int) (t:Qf):Int:=yB c M t+yE c M t
def yA (M:List Int) (t:Qf):Int:=if t.st=9∨t.st=10 then (if mQ M=t.queue then 2 else 4) else if t.st=11 then (if mQ M=t.queue then 1 else 3) else if t.st=13∨t.st=14 then 3 else 2
def yJ (t:Qf):Int:=if t.st=4 then rJ t.rt else 0
theorem JL {t:Qf} (h:(0≤t.st∧t.st≤8)∨t.st=12∨15≤t.st):yA M t=2:=by unfold yA;rw [if_neg Lb,if_neg Lb,if_neg Lb]
theorem Jj {t:Qf} (h:t.st≠4):yJ t=0:=if_neg h
theorem JM {t:Qf} {f:Qi} (h:t.look=some f):t.lk=f:=by unfold Qf.lk;rw [h];rfl
theorem WV {t:Qf} {r:J2} (h:t.ret=some r):t.rt=r:=by unfold Qf.rt;rw [h];rfl
theorem Z0z {P:Prop} (h:P:=by
 refine ST0 (by rw [JL (t:=t) Lb,Jj (t:=t) Lb,JL Lc,Jj Lc];omega) ?_ (.inr ⟨rfl,Lb⟩)
 have e:({t with look:=some f.go,st:=5}:Qf).lk.at_=f.at_+1:=goAt f g2
 unfold yB;rw [e,JM h2,show c.sl - (f.at_+1)=c.sl - f.at_ - 1 by omega];simp [h1];omega):P:=h
theorem Z0S {P:Prop} (h:P:=by
 rw [I _ Lb Lb]
 refine ST (h.ZO Lb Lb) (by rw [JL (t:=t) Lb,Jj (t:=t) Lb,JL Lc,Jj Lc];omega) (by unfold yB;simp [h1];omega) (.inr ⟨rfl,Lb⟩)):P:=h
theorem Z0X {P:Prop} (h:P:=by
 refine ST0 (by rw [JL (t:=t) Lb,Jj (t:=t) Lb,JL Lc,Jj Lc];omega) ?_ (.inr ⟨rfl,Lb⟩)
 unfold yB;rw [JM h2];simp [h1];omega):P:=h
theorem Q86 (h:Qj c n M) (hn:n≤1000000000) {shut:Prop} {t t':Qf} (hl:t.live c w n shut) (hS:TdS c M t t' M') (hne:t'.st≠17):
 Gg c M M' (yA M t+yJ t) (yA M' t'+yJ t') (yR c M t) (yR c M' t'):=by
 obtain ⟨s0,s1,tw,w1,ep,hcl,hlk,hfd,hi,hrt,hot,hhd,hwd⟩:=hl
 have E:∀f g:Qi,t.look=some f→t.look=some g→f=g:=fun f g a b=>by rw [a] at b;exact Option.some.inj b
 have wo:=h.cf.1;have sl:=h.cf.2.1;have len:=h.len
 have I:∀x:Int,0≤x→x<3+2*c.wo→∀v,Qp M x v=M.set x.toNat v:=fun x a b v=>Jr a (by unfold Q0.cells at*;omega)
 have slc:∀{a:Int},0≤a→a<c.sl→Q5 c a=c.slot a:=fun h0 h1=>by unfold Q5;rw [if_pos ⟨h0,h1⟩]
 have K0:c.sl*(c.wo+5)=c.sl*(c.wo+3)+2*c.sl:=by rw [show c.wo+5=(c.wo+3)+2 by omega,Int.mul_add];omega
 have K1:0≤c.sl*(c.wo+3):=Int.mul_nonneg Lb Lb
 have tf:tFq c=c.sl*(c.wo+3)+2*c.sl+9:=by unfold tFq;rw [K0]
 have goAt:∀f:Qi,f.found=true→f.go.at_=f.at_+1:=fun f e=>by unfold Qi.go;rw [if_pos e]
 -- a step that turns nothing that others wait for
 have ST:∀{u:Qf} {N:List Int},Same c M N→yA M u+yJ u≤yA M t+yJ t→yB c M u+1≤yB c M t→(u.st=0∨t.epoch=u.epoch∧t.st≠0)→Gg c M N (yA M t+yJ t) (yA N u+yJ u) (yR c M t) (yR c N u):=by
  intro u N hs a b d
  have eA:yA N u=yA M u:=by unfold yA;rw [hs.mQ]
  have eB:yB c N u=yB c M u:=by unfold yB rR;simp only [hs.mt,hs.mQ]
  have eE:yE c N u≤yE c M t:=by
   unfold yE
   rw [hs.e]
   rcases d with d|⟨d1,d2⟩
   · rw [if_pos (.inl d)];split<;>omega
   · rw [←d1]
     split
     · split<;>omega
     · rename_i x;rw [if_neg (fun y=>x (.inr (y.resolve_left d2)))];omega
  refine .inr (.inr ⟨hs,by rw [eA];exact a, ?_⟩)
  unfold yR;rw [eB];omega
 have ST0:∀{u:Qf},yA M u+yJ u≤yA M t+yJ t→yB c M u+1≤yB c M t→(u.st=0∨t.epoch=u.epoch∧t.st≠0)→Gg c M M (yA M t+yJ t) (yA M u+yJ u) (yR c M t) (yR c M u):=fun a b d=>ST Same.refl a b d
 cases hS with
 |epoch h1=>
  refine .stay (by rw [JL (t:=t) Lb,Jj (t:=t) Lb,JL Lc,Jj Lc];omega) ?_
  unfold yR yB yE;simp [h1]<;>omega
 |pin h1=>
  exact Z0S
 |closed h1=>
  refine ST0 (by rw [JL (t:=t) Lb,Jj (t:=t) Lb,JL (by simp [Qf.search]),Jj (by simp [Qf.search])];omega) ?_ (.inr ⟨rfl,Lb⟩)
  have e:(({t with closed:=Q6 M 0}:Qf).search 3 4 (Q6 M 0)).lk.at_=0:=rfl
  unfold yB;rw [e];simp [h1,Qf.search];omega
 |@hit3 f h1 h2 h3 h4=>
  obtain ⟨f',e1,e2,e3,e4,e5,e6,e7⟩:=hlk Lb
  cases E _ _ e1 h2
  refine ST0 (by rw [JL (t:=t) Lb,Jj (t:=t) Lb,JL Lc];unfold yJ;simp [Qf.rt,Jb,rJ]) ?_ (.inr ⟨rfl,Lb⟩)
  unfold yB;simp [h1,Qf.rt,Jb,rR,←slc e3 h3,Y9,JM h2];omega
 |@miss f h1 h2 h3 h4=>
  obtain ⟨f',e1,e2,e3,e4,e5,e6,e7⟩:=hlk h1
  cases E _ _ e1 h2
  refine ST0 (by
   rw [Jj (t:=t) Lb,Jj Ld];unfold yA;simp only;omega) ?_ (.inr ⟨rfl,Lb⟩)
  have e:({t with look:=some {f with at_:=f.at_+1}}:Qf).lk.at_=f.at_+1:=rfl
  unfold yB;rw [e,JM h2];simp only
  rcases h1 with h1|h1|h1<;>simp only [h1]
  · simp;omega
  · have:=Q8M (c.sl - f.at_) (c.wo+3)
    rw [show c.sl - (f.at_+1)=c.sl - f.at_ - 1 by omega]
    simp;omega
  · simp;omega
 |@last3 f h1 h2 h3 h4=>
  obtain ⟨f',e1,e2,e3,e4,e5,e6,e7⟩:=hlk Lb
  cases E _ _ e1 h2
  refine ST0 (by rw [JL (t:=t) Lb,Jj (t:=t) Lb,JL (by simp [Qf.search]),Jj (by simp [Qf.search])];omega) ?_ (.inr ⟨rfl,Lb⟩)
  have e:(t.search 5 5 t.w).lk.at_=0:=rfl
  unfold yB;rw [e,JM h2];simp [h1,Qf.search];omega
 |@goes r r' _ h1 h2 h3 h4=>
  obtain ⟨r0,f1,f2⟩:=hrt h1
  rw [h2] at f1;cases f1
  have hi':=hi Lb
  have er:=WV h2
  have er':({t with ret:=some r'}:Qf).rt=r':=rfl
  rcases KP h hn f2 hi' (fun s hs=>hs.2) h3 with ⟨-,a,b⟩|⟨-,rfl,a,b,d⟩|⟨a, -⟩|⟨a, -⟩
  · left
    refine ⟨a, ?_⟩
    rw [JL (t:=t) Lb,JL Ld]
    unfold yJ;rw [if_pos h1,if_pos h1,er,er'];omega
  · refine ST0 ?_ ?_ (.inr ⟨rfl,Lb⟩)
    · rw [JL (t:=t) Lb,JL Ld]
      unfold yJ;rw [if_pos h1,if_pos h1,er,er'];omega
    · unfold yB;simp only [h1,er,er']
      exact d _ _
  · rw [h4] at a;cases a
  · rw [h4] at a;cases a
 |@went r r' f _ h1 h2 h3 h4 h5=>
  obtain ⟨r0,f1,f2⟩:=hrt h1
  rw [h2] at f1;cases f1
  have hi':=hi Lb
  have er:=WV h2
  rcases KP h hn f2 hi' (fun s hs=>hs.2) h4 with ⟨a, -⟩|⟨a, -⟩|⟨-, -,a,b,d⟩|⟨-, -,rfl,b,d⟩
  · rw [h5] at a;cases a
  · rw [h5] at a;cases a
  · left
    refine ⟨a, ?_⟩
    rw [JL (t:=t) Lb,JL Lc,Jj (t:={t with ret:=some r',look:=some f.again,st:=3}) Lc]
    unfold yJ;rw [if_pos h1,er];omega
  · refine ST0 ?_ ?_ (.inr ⟨rfl,Lb⟩)
    · rw [JL (t:=t) Lb,JL Lc,Jj (t:={t with ret:=some r',look:=some f.again,st:=3}) Lc]
      have:=(KV t.rt).1
      unfold yJ;rw [if_pos h1];omega
    · have e:({t with ret:=some r',look:=some f.again,st:=3}:Qf).lk.at_=f.at_:=rfl
      unfold yB;rw [e,er,JM h3];simp [h1,rR,b,d];omega
 |@hit5 f o h1 h2 h3 h4 o0 o1 o2=>
  refine ST0 (by rw [JL (t:=t) Lb,Jj (t:=t) Lb,JL Lc,Jj Lc];omega) ?_ (.inr ⟨rfl,Lb⟩)
  have:=Q8M (c.sl - f.at_) (c.wo+3)
  have e:({t with look:=some {f with word:=Q6 M (c.slot f.at_),found:=true},i:=f.at_,word:=Q6 M (c.slot f.at_),other:=o,st:=6}:Qf).lk.at_=f.at_:=rfl
  unfold yB;rw [e,JM h2];simp [h1];omega
 |@lone5 f o h1 h2 h3 h4=>
  refine ST0 (by rw [JL (t:=t) Lb,Jj (t:=t) Lb,JL Lc,Jj Lc];omega) ?_ (.inr ⟨rfl,Lb⟩)
  have:=Q8M (c.sl - f.at_) (c.wo+3)
  have e:({t with look:=some {f with word:=Q6 M (c.slot f.at_),found:=true},i:=f.at_,word:=Q6 M (c.slot f.at_),other:=o,st:=7}:Qf).lk.at_=f.at_:=rfl
  unfold yB;rw [e,JM h2];simp [h1];omega
 |@last5 f f' h1 h2 h3=>
  obtain ⟨f0,e1,e2,e3,e4,e5,e6,e7⟩:=hlk Lb
  cases E _ _ e1 h2
  have:0≤(c.sl - f.at_)*(c.wo+3):=Int.mul_nonneg Lb Lb
  by_cases hc:t.closed=0
  · rw [if_pos hc]
    exact Z0X
  · rw [if_neg hc]
    exact Z0X
 |@old6 f h1 h2=>
  obtain ⟨f',s,g1,g2,g3,g4,g5,g6,g7,g8⟩:=hfd Lb
  cases E _ _ g1 h2
  have ho:=hot h1
  exact Z0z
 |next6 o h1 o0 o1 o2=>
  refine ST0 (by rw [JL (t:=t) Lb,Jj (t:=t) Lb,JL Ld,Jj Ld];omega) ?_ (.inr ⟨rfl,Lb⟩)
  have e:({t with other:=o}:Qf).lk=t.lk:=rfl
  unfold yB;rw [e];simp [h1];omega
 |all6 o h1=>
  have ho:=hot h1
  refine ST0 (by rw [JL (t:=t) Lb,Jj (t:=t) Lb,JL Lc,Jj Lc];omega) ?_ (.inr ⟨rfl,Lb⟩)
  have e:({t with other:=o,st:=7}:Qf).lk=t.lk:=rfl
  unfold yB;rw [e];simp [h1];omega
 |@clear f s u h1 h2 h3 h4 h5=>
  refine h.XP h3 h4 h5 _ _ ?_
  have q:=(Ku h4).2.2.2 rfl
  rw [JL (t:=t) Lb,Jj (t:=t) Lb,JL Lc,Jj Lc];omega
 |@unclear f h1 h2=>
  obtain ⟨f',s,g1,g2,g3,g4,g5,g6,g7,g8⟩:=hfd Lb
  cases E _ _ g1 h2
  exact Z0z
 |none8 h1 h2=>
  refine ST0 (by rw [JL (t:=t) Lb,Jj (t:=t) Lb,JL Lc,Jj Lc];omega) ?_ (.inr ⟨rfl,Lb⟩)
  unfold yB;simp [h1];omega
 |head8 h1 h2=>
  refine ST0 ?_ ?_ (.inr ⟨rfl,Lb⟩)
  · rw [JL (t:=t) Lb,Jj (t:=t) Lb,Jj (by simp [Qf.search])]
    unfold yA;simp [Qf.search]
  · have e:(({t with queue:=mQ M,head:=Zc (mQ M)}:Qf).search 9 3 t.w).lk.at_=0:=rfl
    unfold yB;rw [e];simp [h1,Qf.search];omega
 |@hit9 f h1 h2 h3 h4=>
  obtain ⟨f',e1,e2,e3,e4,e5,e6,e7⟩:=hlk Lb
  cases E _ _ e1 h2
  refine ST0 ?_ ?_ (.inr ⟨rfl,Lb⟩)
  · rw [Jj (t:=t) Lb,Jj Lc];unfold yA;simp [h1]
  · unfold yB;rw [JM h2];simp [h1,←slc e3 h3,Y9];omega
 |@last9 f h1 h2 h3 h4=>
  refine ST0 ?_ ?_ (.inr ⟨rfl,Lb⟩)
  · rw [Jj (t:=t) Lb,JL (t:={t with look:=some {f with at_:=f.at_+1},st:=15}) Lc,Jj Lc];unfold yA;simp [h1];split<;>omega
  · unfold yB;rw [JM h2];simp [h1];omega
 |keep s u h1 h2 h3 h4=>
  refine h.XP h2 h3 h4 _ _ ?_
  have q:=(Ku h3).1 (by split<;>simp)
  obtain ⟨hi2, -,hu,e2, -⟩:=h.swap h2 h3 h4
  rw [Jj (t:=t) Lb,Jj Lc,q,e2]
  unfold yA;simp only [h1,h.KX hi2 u]
  simp;split<;>omega
 |@unkept f h1 h2 h3=>
  obtain ⟨f',s,g1,g2,g3,g4,g5,g6,g7,g8⟩:=hfd Lb
  cases E _ _ g1 h2
  have hi':=hi Lb
  have hh:=hhd Lb
  have hm:mt c M t.i t.word=false:=by
   rw [←h.VI hi']
   obtain ⟨u,hu⟩:∃u,Qk s (if s.st=2 then 5 else 7) t.head 0=some u:=by
    rw [show f.kind=3 by rw [g7];simp [h1]] at g6
    by_cases h2s:s.st=2
    · rw [if_pos h2s]
      refine VG Lb (t:=toV s 4 t.head) ?_
      simp [Jq,Jp,isV,h2s] at g6
      simp [chg,Jp,h2s,g6]
    · rw [if_neg h2s]
      refine VG Lb (t:=toV s 5 t.head) ?_
      simp [Jq,Jp,isV,h2s] at g6
      simp [chg,isV,g6]
   exact h3 s u (by rw [g5];exact QF g4) hu
  refine ST0 ?_ ?_ (.inr ⟨rfl,Lb⟩)
  · rw [Jj (t:=t) Lb,Jj Lc];unfold yA;simp [h1]
  · have e:({t with look:=some f.again,st:=9}:Qf).lk.at_=f.at_:=rfl
    unfold yB;rw [e,JM h2];simp [h1,hm];omega
 |pop h1 h2=>
  obtain ⟨hh1,hh2,hh3,hh4,hh5⟩:=hhd Lb
  refine WK h hh2.tail _ _ (.inl ⟨?_, ?_⟩)
  · rw [h2,List.length_tail]
    have:=List.length_pos_iff.2 hh3
    omega
  · rw [Jj (t:=t) Lb,JL Lc,Jj Lc];unfold yA;simp [h1,h2]
 |unpopped h1 h2=>
  refine ST0 ?_ ?_ (.inr ⟨rfl,Lb⟩)
  · rw [Jj (t:=t) Lb,Jj Lc];unfold yA;simp [h1,h2]
  · unfold yB;simp [h1,h2];omega
 |grant h1=>
  obtain ⟨hh1, -⟩:=hhd Lb
  exact Z0S
 |kept s h1 h2 h3=>
  refine ST0 ?_ ?_ (.inr ⟨rfl,Lb⟩)
  · rw [Jj (t:=t) Lb,Jj Lc];unfold yA;simp [h1]
  · unfold yB;simp [h1,Y9];omega
 |lost h1 h2=>
  refine ST0 ?_ ?_ (.inr ⟨rfl,Lb⟩)
  · rw [Jj (t:=t) Lb,JL (t:={t with word:=Q6 M (Q5 c t.i),st:=8}) Lc,Jj Lc];unfold yA;simp [h1]
  · unfold yB;simp [h1];omega
 |unkeep s u h1 h2 h3 h4=>
  refine h.XP h2 h3 h4 _ _ ?_
  have q:=(Ku h3).1 (by split<;>simp)
  rw [Jj (t:=t) Lb,JL (t:={t with st:=2}) Lc,Jj Lc,q]
  unfold yA;simp [h1];omega
 |again h1 h2=>
  obtain ⟨s,b1,b2,b3⟩:=hwd h1
  have hi':=hi Lb
  have hm:mt c M t.i t.word=false:=by
   rw [←h.VI hi']
   obtain ⟨u,hu⟩:∃u,Qk s (if s.st=4 then 6 else 8) t.w 0=some u:=by
    rcases b3 with b3|b3
    · rw [if_pos b3];exact VG (by rw [tw];omega) (t:=toV s 2 t.w) (by simp [chg,isV,b3])
    · rw [if_neg Lb];exact VG (by rw [tw];omega) (t:=toV s 0 t.w) (by simp [chg,isV,b3])
   exact h2 s u (by rw [b2];exact QF b1) hu
  refine ST0 ?_ ?_ (.inr ⟨rfl,Lb⟩)
  · rw [Jj (t:=t) Lb,Jj Lc];unfold yA;simp [h1]
  · unfold yB;simp [h1,hm];omega
 |unpin h1=>
  rw [I _ Lb Lb]
  refine ST (h.ZO Lb Lb) (by rw [JL (t:=t) Lb,Jj (t:=t) Lb,JL Lc,Jj Lc];omega) (by unfold yB;simp [h1]) (.inr ⟨rfl,Lb⟩)
 |done h1 h2=>exact absurd rfl hne
 |redo h1 h2=>
  refine .stay (by rw [JL (t:=t) Lb,Jj (t:=t) Lb,JL Lc,Jj Lc];omega) ?_
  unfold yR yB yE;simp [h1,Ne.symm h2];omega
end
section
theorem Gg.shift {c:Q0} {M M':List Int} {j j' r r':Int} (g:Gg c M M' j j' r r') {d d' e:Int} (h:d'≤d):Gg c M M' (j+d) (j'+d') (r+e) (r'+e):=by
 rcases g with ⟨a,b⟩|⟨a,b⟩|⟨a,b,x⟩
 · exact .inl ⟨a,Lb⟩
 · exact .inr (.inl ⟨a,Lb⟩)
 · exact .inr (.inr ⟨a,Lb,Lb⟩)
theorem Gg.le {c:Q0} {M M':List Int} {j j' r r':Int} (g:Gg c M M' j j' r r') {a a' b b':Int} (h1:j≤a) (h2:a'≤j') (h3:r≤b) (h4:b'≤r'):Gg c M M' a a' b b':=by
 rcases g with ⟨x,y⟩|⟨x,y⟩|⟨x,y,z⟩
 · exact .inl ⟨x,Lb⟩
 · exact .inr (.inl ⟨x,Lb⟩)
 · exact .inr (.inr ⟨x,Lb,Lb⟩)
def rpR (c:Q0) (M:List Int) (r:Qy):Int:=
 if r.st=0 then 7*(c.sl - r.look.at_)+tFq c+2
 else if r.st=1 then 7*(c.sl - r.look.at_)+tFq c+1
 else if r.st=2 then 7*(c.sl - r.look.at_)+tFq c
 else if r.rt.st=.swap then 7*(c.sl - r.look.at_)+tFq c
 else rR c M r.look.at_ r.rt 0
def rpJ (c:Q0) (r:Qy):Int:=if r.st=3 then (c.sl - r.look.at_)+rJ r.rt else c.sl - r.look.at_
def jJ (c:Q0):Yh→Int
 |.get t=>kJ c t
 |.give g=>gJ g
 |.strm _=>1
 |.Xl r=>rpJ c r
 |_=>0
def jR (c:Q0) (M:List Int):Yh→Int
 |.get t=>kR c M t
 |.give g=>gR c M g
 |.strm s=>sR c M s
 |.Xl r=>rpR c M r
 |.close _ none=>tFq c+3
 |.close _ (some q)=>qR c M q
 |.stats t=>twR c M t+tFq c+1
 |.none=>0
def cR (c:Q0) (M:List Int) (t:Tw2):Int:=twR c M t+(if ZP c M t then 3*c.sl+tFq c+6 else 8*c.sl+2*tFq c+12)
def pR (c:Q0):Int:=15*c.sl+2*tFq c+14
def wJ (c:Q0) (M:List Int) (k:Q8):Int:=
 if k.st=1∨k.st=3∨k.st=6∨k.st=7 then c.sl+6+(2+2*Qw c)
 else if k.st=2 then jJ c k.work+(2+2*Qw c)
 else if k.st=4 then qB c (k.qu.getD (XR 0))+2
 else if k.st=5 then yA M (k.ti.getD (Qz 0))+yJ (k.ti.getD (Qz 0))
 else if k.st=8 then 2+2*Qw c else 0
def wR (c:Q0) (M:List Int) (k:Q8):Int:=
 if k.st=1 then (if k.half then pR c+1 else pR c+2)
 else if k.st=2 then jR c M k.work
 else if k.st=3 then cR c M (k.tw.getD Y7)
 else if k.st=4∨k.st=8 then qR c M (k.qu.getD (XR 0))
 else if k.st=5 then yR c M (k.ti.getD (Qz 0))
 else if k.st=6 then pR c+5
 else if k.st=7 then (if k.half then pR c+3 else pR c+4) else 0
variable {n:Int} {m m':Qa} {w:Nat} {c:Q0} {M M':List Int} {k:Q8}
theorem KJ (h:k.st=1∨k.st=3∨k.st=6∨k.st=7):wJ c M k=c.sl+6+(2+2*Qw c):=if_pos h
theorem Q0f (h:k.st=2):wJ c M k=jJ c k.work+(2+2*Qw c):=by unfold wJ;rw [if_neg Lb,if_pos h]
theorem Q82 {q:QuS} (h:k.st=4) (hq:k.qu=some q):wJ c M k=qB c q+2:=by unfold wJ;rw [if_neg Lb,if_neg Lb,if_pos h,hq];rfl
theorem Q81 {t:Qf} (h:k.st=5) (ht:k.ti=some t):wJ c M k=yA M t+yJ t:=by unfold wJ;rw [if_neg Lb,if_neg Lb,if_neg Lb,if_pos h,ht];rfl
theorem Q80 (h:k.st=8):wJ c M k=2+2*Qw c:=by unfold wJ;rw [if_neg Lb,if_neg Lb,if_neg Lb,if_neg Lb,if_pos h]
theorem Q7Y (h:k.st=1):wR c M k=(if k.half then pR c+1 else pR c+2):=if_pos h
theorem Q0e (h:k.st=2):wR c M k=jR c M k.work:=by unfold wR;rw [if_neg Lb,if_pos h]
theorem Q7X {t:Tw2} (h:k.st=3) (ht:k.tw=some t):wR c M k=cR c M t:=by unfold wR;rw [if_neg Lb,if_neg Lb,if_pos h,ht];rfl
theorem Q0d {q:QuS} (h:k.st=4∨k.st=8) (hq:k.qu=some q):wR c M k=qR c M q:=by unfold wR;rw [if_neg Lb,if_neg Lb,if_neg Lb,if_pos h,hq];rfl
theorem Q7W {t:Qf} (h:k.st=5) (ht:k.ti=some t):wR c M k=yR c M t:=by unfold wR;rw [if_neg Lb,if_neg Lb,if_neg Lb,if_neg Lb,if_pos h,ht];rfl
theorem wR_6 (h:k.st=6):wR c M k=pR c+5:=by unfold wR;rw [if_neg Lb,if_neg Lb,if_neg Lb,if_neg Lb,if_neg Lb,if_pos h]
theorem Q7V (h:k.st=7):wR c M k=(if k.half then pR c+3 else pR c+4):=by unfold wR;rw [if_neg Lb,if_neg Lb,if_neg Lb,if_neg Lb,if_neg Lb,if_neg Lb,if_pos h]
theorem new5 {w:Nat} (h5:k.st=5) (ht:k.ti=some (Qz w)):wJ c M k=2∧wR c M k=tFq c:=by
 rw [Q81 h5 ht,Q7W h5 ht]
 refine ⟨?_, ?_⟩
 · rw [JL (by simp [Qz]),Jj (by simp [Qz])];rfl
 · unfold yR yB yE;simp [Qz]
def SGo (m m':Qa) (w:Nat):Prop:=(m'.wk w).st=0∨(m'.wk w).st=6∨Gg m.c m.M m'.M (wJ m.c m.M (m.wk w)) (wJ m.c m'.M (m'.wk w)) (wR m.c m.M (m.wk w)) (wR m.c m'.M (m'.wk w))
theorem Xt {m1:Qa} {k':Q8} (hw:w<m1.ws.length) (g:k'.st=0∨k'.st=6∨Gg m.c m.M m1.M (wJ m.c m.M (m.wk w)) (wJ m.c m1.M k') (wR m.c m.M (m.wk w)) (wR m.c m1.M k')):SGo m (m1.setW w k') w:=by
 unfold SGo;rw [Jg hw];exact g
theorem XD {m1:Qa} {j':Yh} (hw:w<m1.ws.length) (hs:(m.wk w).st=2) (g:Gg m.c m.M m1.M (jJ m.c (m.wk w).work) (jJ m.c j') (jR m.c m.M (m.wk w).work) (jR m.c m1.M j')):SGo m (m1.setW w {(m.wk w) with work:=j'}) w:=
 Xt hw (.inr (.inr (by
  rw [Q0f hs,Q0e hs,Q0f (by exact hs),Q0e (by exact hs)]
  show Gg m.c m.M m1.M (jJ m.c (m.wk w).work+(2+2*Qw m.c)) (jJ m.c j'+(2+2*Qw m.c)) (jR m.c m.M (m.wk w).work) (jR m.c m1.M j')
  exact (g.shift (d:=2+2*Qw m.c) (d':=2+2*Qw m.c) (Int.le_refl _) (e:=0)).le (Int.le_refl _) (Int.le_refl _) Lb Lb)))
theorem Va {m1:Qa} {j':Yh} {x:EvV} (hq:0≤Qw m.c) (hw:w<m1.ws.length) (hs:(m.wk w).st=2) (g:Gg m.c m.M m1.M (jJ m.c (m.wk w).work) 0 (jR m.c m.M (m.wk w).work) (tFq m.c)):SGo m (m1.setW w ({(m.wk w) with work:=j'}.end_ w x)) w:=
 Xt hw (.inr (.inr (by
  obtain ⟨a,b⟩:=new5 (c:=m.c) (M:=m1.M) (k:=({(m.wk w) with work:=j'}:Q8).end_ w x) (w:=w) rfl rfl
  rw [Q0f hs,Q0e hs,a,b]
  exact (g.shift (d:=2+2*Qw m.c) (d':=2) (e:=0) Lb).le Lb Lb Lb Lb)))
theorem Z0Z {P:Prop} (h:P:=by
 have:rpJ m.c {r with ret:=some t'}=m.c.sl - r.look.at_+rJ t':=by unfold rpJ;rw [if_pos h0];rfl
 rw [this,jt];omega):P:=h
theorem Q5M (h:MInv n m) (hn:n≤1000000000) (hw:(w:Int)<m.c.wo) (hs:(m.wk w).st=2):SGo m (QM m w) w:=by
 have L:=h.wk w hw
 have hl:=L.wk hs
 have hwl:w<m.ws.length:=by have:=h.wl;omega
 have wo:=h.mem.cf.1;have sl:=h.mem.cf.2.1;have len:=h.mem.len
 have q0:0≤Qw m.c:=by unfold Qw;omega
 have kp:=Zo h.mem
 unfold QM
 simp only
 cases hk:(m.wk w).work with
 |none=>rw [hk] at hl;exact hl.elim
 |get t=>
  rw [hk] at hl
  obtain ⟨ho,hl⟩:=hl
  simp only
  obtain ⟨m1,good,e1⟩:∃m1 good,(if t.st=9 then m.Qr else (m,false))=(m1,good):=⟨_,_,rfl⟩
  have em:m1.ws=m.ws:=by
   split at e1
   · have e2:m1=m.Qr.1:=(congrArg Prod.fst e1).symm
     rw [e2];rfl
   · have e2:m1=m:=(congrArg Prod.fst e1).symm
     rw [e2]
  obtain ⟨x,hx⟩:∃x,Qg m.c t m.M good=x:=⟨_,rfl⟩
  obtain ⟨t',M'⟩:=x
  have hS:=Yn m.c w t m.M good hl
  rw [hx] at hS
  simp only at hS
  obtain ⟨G1,G2⟩:=Q8a h.mem hn hw hl hS
  unfold Xi
  simp only [e1,hx]
  have hw1:w<({m1 with M:=M'}:Qa).ws.length:=by show w<m1.ws.length;rw [em];exact hwl
  by_cases h15:t'.st=15
  · rw [if_pos h15]
    have G:=G2 h15
    by_cases h3:t'.e=3
    · rw [if_pos h3]
      unfold kEJ kER at G
      rw [if_pos h3,if_pos h3] at G
      split
      · refine Xt hw1 (.inr (.inr ?_))
        rw [Q0f hs,Q0e hs,hk,Q82 rfl rfl,Q0d (.inl rfl) rfl]
        exact (G.shift (d:=2+2*Qw m.c) (d':=2+2*Qw m.c) (e:=0) Lb).le (by show kJ m.c t+_≤kJ m.c t+_;omega) (by show 2*Qw m.c+2≤_;omega) (by show kR m.c m.M t+0≤kR m.c m.M t;omega) (by show tFq m.c+2≤_;omega)
      · refine Xt hw1 (.inr (.inr ?_))
        have hM':cR m.c M' Y7=5*m.c.sl+tFq m.c+6:=by
         have p:ZP m.c M' Y7:=⟨rfl,by simp [Y7]⟩
         unfold cR twR;rw [if_pos p,if_pos p];simp [Y7];omega
        rw [Q0f hs,Q0e hs,hk,KJ Lc,Q7X rfl rfl]
        exact (G.shift (d:=2+2*Qw m.c) (d':=2+2*Qw m.c) (e:=0) Lb).le (by show kJ m.c t+_≤kJ m.c t+_;omega) Lb (by show kR m.c m.M t+0≤kR m.c m.M t;omega) (by show cR m.c M' Y7≤_;omega)
    · rw [if_neg h3]
      unfold kEJ kER at G
      rw [if_neg h3,if_neg h3] at G
      refine Va q0 hw1 hs ?_
      rw [hk];exact G
  · rw [if_neg h15]
    refine XD hw1 hs ?_
    rw [hk];exact G1 h15
 |give g=>
  rw [hk] at hl
  obtain ⟨ho,hl,hi,hg⟩:=hl
  simp only
  have hS:=Kw m.c w g m.M hl
  generalize Qv m.c g m.M=x at*
  obtain ⟨g',M'⟩:=x
  simp only at hS ⊢
  obtain ⟨G1,G2⟩:=Q93 h.mem hn hw hl hS
  by_cases h4:g'.st=4
  · rw [if_pos h4];refine Va (m1:={m with M:=M'}) q0 hwl hs ?_;rw [hk];exact G2 h4
  · rw [if_neg h4];refine XD (m1:={m with M:=M'}) hwl hs ?_;rw [hk];exact G1 h4
 |strm s=>
  rw [hk] at hl
  obtain ⟨ho,hl,hi,hg,hop'⟩:=hl
  simp only
  have hS:=V9 m.c w s m.M hl
  generalize QA m.c s m.M=x at*
  obtain ⟨s',M'⟩:=x
  simp only at hS ⊢
  obtain ⟨G1,G2⟩:=Q8d h.mem hn hw hl hS
  by_cases h4:s'.st=3
  · rw [if_pos h4];refine Va (m1:={m with M:=M'}) q0 hwl hs ?_;rw [hk];exact G2 h4
  · rw [if_neg h4];refine XD (m1:={m with M:=M'}) hwl hs ?_;rw [hk];exact G1 h4
 |Xl r=>
  rw [hk] at hl
  obtain ⟨ho,hl⟩:=hl
  simp only
  unfold J4
  have hs4:r.st=0∨r.st=1∨r.st=2∨r.st=3:=by have:=hl.s0;have:=hl.s1;omega
  have ha:=hl.a
  have goAt:∀a:r.look.found=true,(r.QO).look.at_=r.look.at_+1:=fun a=>by simp [Qy.QO,Qi.go,a]
  rcases hs4 with h0|h0|h0|h0
  · rw [if_pos h0]
    have jt:rpJ m.c r=m.c.sl - r.look.at_:=by unfold rpJ;rw [if_neg Lb]
    have rt:rpR m.c m.M r=7*(m.c.sl - r.look.at_)+tFq m.c+2:=by unfold rpR;rw [if_pos h0]
    rcases JY m.c r.look m.M (hl.lk h0) with ⟨a1,a2,e⟩|⟨a1,a2,e⟩|⟨a1,e⟩
    · rw [e];simp only [if_true]
      refine XD (m1:=m) hwl hs (.stay ?_ ?_)
      · rw [hk];show rpJ m.c _≤rpJ m.c r;rw [jt];unfold rpJ;rw [if_neg Lc];exact Int.le_refl _
      · rw [hk];show rpR m.c m.M _+1≤rpR m.c m.M r;rw [rt];unfold rpR;simp<;>omega
    · rw [e];simp only [hl.lk h0,Bool.false_eq_true,if_false]
      by_cases h1:m.c.sl≤r.look.at_+1
      · simp only [decide_eq_true h1,if_true]
        refine Va (m1:=m) q0 hwl hs (.stay ?_ ?_)
        · rw [hk];show 0≤rpJ m.c r;rw [jt];omega
        · rw [hk];show tFq m.c+1≤rpR m.c m.M r;rw [rt];omega
      · simp only [decide_eq_false h1,Bool.false_eq_true,if_false]
        refine XD (m1:=m) hwl hs (.stay ?_ ?_)
        · rw [hk];show rpJ m.c _≤rpJ m.c r;rw [jt];unfold rpJ;rw [if_neg Ld];simp only;omega
        · rw [hk];show rpR m.c m.M _+1≤rpR m.c m.M r;rw [rt];unfold rpR;simp only [h0,if_true];omega
    · rw [e];simp only [hl.lk h0,Bool.false_eq_true,if_false,if_true]
      refine Va (m1:=m) q0 hwl hs (.stay ?_ ?_)
      · rw [hk];show 0≤rpJ m.c r;rw [jt];omega
      · rw [hk];show tFq m.c+1≤rpR m.c m.M r;rw [rt];omega
  · rw [if_neg Lb,if_pos h0]
    have jt:rpJ m.c r=m.c.sl - r.look.at_:=by unfold rpJ;rw [if_neg Lb]
    have rt:rpR m.c m.M r=7*(m.c.sl - r.look.at_)+tFq m.c+1:=by unfold rpR;rw [if_neg Lb,if_pos h0]
    obtain ⟨f1,f2,s,f3,f4,f5⟩:=hl.fd Lb
    simp only
    split
    · refine XD (m1:=m.Qr.1) hwl hs (.stay ?_ ?_)
      · rw [hk];show rpJ m.c _≤rpJ m.c r;rw [jt];unfold rpJ;rw [if_neg Lc];exact Int.le_refl _
      · rw [hk];show rpR m.c m.M _+1≤rpR m.c m.M r;rw [rt];unfold rpR;simp<;>omega
    · refine XD (m1:=m.Qr.1) hwl hs (.stay ?_ ?_)
      · rw [hk];show rpJ m.c _≤rpJ m.c r;rw [jt];unfold rpJ;simp [Qy.rt,Jb,rJ]
      · rw [hk];show rpR m.c m.M _+1≤rpR m.c m.M r;rw [rt];unfold rpR;simp [Qy.rt,Jb]<;>omega
  · rw [if_neg Lb,if_neg Lb,if_pos h0]
    have jt:rpJ m.c r=m.c.sl - r.look.at_:=by unfold rpJ;rw [if_neg Lb]
    have rt:rpR m.c m.M r=7*(m.c.sl - r.look.at_)+tFq m.c:=by unfold rpR;rw [if_neg Lb,if_neg Lb,if_pos h0]
    obtain ⟨f1,f2,s,f3,f4,f5⟩:=hl.fd Lb
    have jt':rpJ m.c r.QO=m.c.sl - r.look.at_ - 1:=by unfold rpJ;rw [if_neg (by simp [Qy.QO]),goAt f1];omega
    have rt':∀M',rpR m.c M' r.QO=7*(m.c.sl - r.look.at_)+tFq m.c - 5:=fun M'=>by unfold rpR;rw [if_pos (show r.QO.st=0 from rfl),goAt f1];omega
    have G0:Gg m.c m.M m.M (rpJ m.c r) (rpJ m.c r.QO) (rpR m.c m.M r) (rpR m.c m.M r.QO):=.stay Lb (by rw [rt,rt'];omega)
    cases ha:J6 r.look.word 10 w 0 with
    |none=>
     simp only
     refine XD (m1:=m) hwl hs ?_
     rw [hk];exact G0
    |some x=>
     obtain ⟨s',hds,hu,he⟩:=JZ ha
     obtain ⟨u,nx⟩:=x
     simp only at hu he ⊢
     subst he
     cases hc:Qx m.M (Q5 m.c r.look.at_) r.look.word with
     |true=>
      refine XD (m1:={m with M:=QI m.M (Q5 m.c r.look.at_) r.look.word u.enc}) hwl hs ?_
      rw [hk]
      refine h.mem.XP hds hu hc _ _ ?_
      show qS u+rpJ m.c r.QO+1≤qS s'+rpJ m.c r
      rw [(Ku hu).1 Lc,jt,jt'];omega
     |false=>
      rw [ZH hc]
      refine XD (m1:=m) hwl hs ?_
      rw [hk];exact G0
  · rw [if_neg Lb,if_neg Lb,if_neg Lb]
    obtain ⟨f1,f2, -⟩:=hl.fd Lb
    obtain ⟨t,ht,hlt⟩:=hl.rt h0
    have er:r.rt=t:=by unfold Qy.rt;rw [ht];rfl
    have hS:=ZC r.rt m.M (by rw [er];exact hlt.nd)
    generalize Qn r.rt m.M=x at*
    obtain ⟨t',M'⟩:=x
    simp only at hS ⊢
    rw [er] at hS
    have jt:rpJ m.c r=m.c.sl - r.look.at_+rJ t:=by unfold rpJ;rw [if_pos h0,er]
    have jg:∀b:Int,rpJ m.c ({r with ret:=some t',many:=b}:Qy).QO=m.c.sl - r.look.at_ - 1:=fun b=>by
     unfold rpJ;rw [if_neg (by simp [Qy.QO])];show m.c.sl - r.look.go.at_=_;unfold Qi.go;rw [if_pos f1];simp only;omega
    have j0:=KV t
    have e2:t'.done=false→t'.st≠.swap:=by
     intro d
     cases hS with
     |lost g1=>simp [J2.fin] at d
     |swap s u g1=>simp
     |look g1=>simp
     |stale g1=>simp
     |age s u g1=>simp
     |QO g1=>simp [J2.fin] at d
    rcases KP h.mem hn hlt ⟨ha.1,f2⟩ (fun s hs=>.inl hs) hS with ⟨d,a,b⟩|⟨d,rfl,a,b,e⟩|⟨d,d2,a,b, -⟩|⟨d,d2,rfl,a,b⟩
    · rw [d]
      simp only [Bool.false_eq_true,if_false]
      refine XD (m1:={m with M:=M'}) hwl hs (.inl ⟨a, ?_⟩)
      rw [hk]
      show QS m.c M'+rpJ m.c {r with ret:=some t'}+1≤QS m.c m.M+rpJ m.c r
      exact Z0Z
    · rw [d]
      simp only [Bool.false_eq_true,if_false]
      refine XD (m1:=m) hwl hs (.stay ?_ ?_)
      · rw [hk]
        show rpJ m.c {r with ret:=some t'}≤rpJ m.c r
        exact Z0Z
      · rw [hk]
        show rpR m.c m.M {r with ret:=some t'}+1≤rpR m.c m.M r
        have e1:rpR m.c m.M r=rR m.c m.M r.look.at_ t 0:=by unfold rpR;rw [if_neg Lb,if_neg Lb,if_neg Lb,er,if_neg a]
        have e3:rpR m.c m.M {r with ret:=some t'}=rR m.c m.M r.look.at_ t' 0:=by
         unfold rpR;rw [if_neg Ld,if_neg Ld,if_neg Ld,if_neg (by exact e2 d)];rfl
        rw [e1,e3];exact e _ _
    · rw [d]
      simp only [if_true]
      refine XD (m1:={m with M:=M'}) hwl hs (.inl ⟨a, ?_⟩)
      rw [hk]
      show QS m.c M'+rpJ m.c (Qy.QO _)+1≤QS m.c m.M+rpJ m.c r
      rw [jg,jt];omega
    · rw [d]
      simp only [if_true]
      refine XD (m1:=m) hwl hs (.stay ?_ ?_)
      · rw [hk]
        show rpJ m.c (Qy.QO _)≤rpJ m.c r
        rw [jg,jt];omega
      · rw [hk]
        show rpR m.c m.M (Qy.QO _)+1≤rpR m.c m.M r
        have e1:rpR m.c m.M r=7*(m.c.sl - r.look.at_)+tFq m.c:=by unfold rpR;rw [if_neg Lb,if_neg Lb,if_neg Lb,er,if_pos a]
        rw [e1]
        unfold rpR;rw [if_pos (show (Qy.QO _).st=0 from rfl)]
        show 7*(m.c.sl - r.look.go.at_)+tFq m.c+2+1≤_
        unfold Qi.go;rw [if_pos f1];simp only;omega
 |close force drain=>
  rw [hk] at hl
  obtain ⟨ho,hl⟩:=hl
  cases drain with
  |some q=>
   obtain ⟨hq,hqn⟩:=hl q rfl
   simp only
   obtain ⟨G1,G2⟩:=q_go h.mem hq
   have b0:qB m.c q=0:=by unfold qB;rcases hqn with x|x|x<;>rw [x]
   by_cases hd:(Qo m.c q m.M).1.nx.isDone=true
   · rw [if_pos hd]
     refine Va (m1:={m with M:=(Qo m.c q m.M).2}) q0 hwl hs ?_
     have G:=G2 hd
     rw [b0] at G
     rw [hk];exact G
   · rw [if_neg hd]
     refine XD (m1:={m with M:=(Qo m.c q m.M).2}) hwl hs ?_
     have G:=G1 (by simpa using hd)
     have b1:qB m.c (Qo m.c q m.M).1=0:=by unfold qB;rcases Gz hqn hd with x|x|x<;>rw [x]
     rw [b0,b1] at G
     rw [hk];exact G
  |none=>
   simp only
   have h00:(0:Int)<m.M.length:=by unfold Q0.cells at len;omega
   have G:Same m.c m.M (if force=true then Qp m.M 0 2 else QI m.M 0 0 1):=by
    cases force with
    |true=>
     simp only [if_true]
     rw [Jr Lb h00]
     exact h.mem.ZO (.inl rfl) Lb
    |false=>
     simp only [Bool.false_eq_true,if_false]
     cases hc:Qx m.M 0 0 with
     |false=>rw [ZH hc];exact Same.refl
     |true=>
      have e:QI m.M 0 0 1=m.M.set (0:Int).toNat 1:=by unfold QI;rw [if_pos hc]
      rw [e];exact h.mem.ZO (.inl rfl) Lb
   refine XD (m1:={m with M:=if force=true then Qp m.M 0 2 else QI m.M 0 0 1}) hwl hs (.inr (.inr ⟨G, ?_, ?_⟩))
   · rw [hk];exact Int.le_refl _
   · rw [hk];show tFq m.c+2+1≤tFq m.c+3;omega
 |stats t=>
  rw [hk] at hl
  obtain ⟨ho,hl⟩:=hl
  simp only
  obtain ⟨a,b,d⟩:=tw_go h.mem hl
  by_cases hd:(QH m.c t m.M).d=true
  · rw [if_pos hd]
    refine Va (m1:=m) q0 hwl hs (.stay ?_ ?_)
    · rw [hk];exact Int.le_refl _
    · rw [hk];show tFq m.c+1≤twR m.c m.M t+tFq m.c+1;omega
  · rw [if_neg hd]
    have:=(a (by simpa using hd)).2.2
    refine XD (m1:=m) hwl hs (.stay ?_ ?_)
    · rw [hk];exact Int.le_refl _
    · rw [hk];show twR m.c m.M _+tFq m.c+1+1≤twR m.c m.M t+tFq m.c+1;omega
end
end Go.Proofs.YtgjklfmnmljilaaGreatDoor

/- A part of the proof: TqG to TqH. -/
import Derived.Test.YtgjklfmnmljilaaGreatDoorZT36
namespace Go.Proofs.YtgjklfmnmljilaaGreatDoor
set_option linter.unusedVariables false
set_option linter.unusedSimpArgs false
set_option linter.unusedSectionVars false
set_option linter.unnecessarySimpa false
set_option maxRecDepth 100000
set_option maxHeartbeats 8000000
section
variable {c:Q0} {n:Int} {M M':List Int}
theorem StM.trans {M'':List Int} (h:StM c n M M') (e:M''=M'):StM c n M M'':=by rw [e];exact h
structure QM.live (c:Q0) (n:Int) (r:QM):Prop where
 mn:0≤r.many∧r.many≤n
 s0:0≤r.st
 s1:r.st≤3
 lk:r.st=0→r.look.found=false
 a:0≤r.look.at_∧r.look.at_≤c.sl
 kd:r.look.kind=6
 fd:r.st≠0→r.look.found=true∧r.look.at_<c.sl∧∃s,Q8.right s∧r.look.word=s.enc∧s.st=2
 rt:r.st=3→∃t,r.ret=some t∧YG c t r.look.at_ fun s=>s.st=2
theorem Q6A {w:Nat} (h:Qm c n M) {i:Int} (e0:(SL c M i).st=2) (e1:LM c M'=upL (LM c M) i none) (e2:GM c M'=GM c M) (r:Xe):Tr c w M M' r r:=by
 refine .quiet ?_ e2
 have:LM c M i=none:=by unfold LM lv;rw [if_neg (by omega)]
 rw [e1,←this];exact Et (LM c M) i
structure Tw2.live (c:Q0) (n:Int) (t:Tw2):Prop where
 r:(t.r.length:Int)<c.sl
 l:(t.l.length:Int)≤c.sl
 n:0≤t.n∧t.n≤n
 w:∀x,x∈t.r∨x∈t.l→∃s:Q8,s.right∧x=s.enc
 d:t.d=true→t.l≠[]
theorem Dv {c:Q0} {n:Int} (hc:c.fits) (h0:0≤n):Y4.live c n:=⟨by have:=hc.2.1;simp [Y4];omega,by have:=hc.2.1;simp [Y4];omega,by simp [Y4];omega,by simp [Y4],by simp [Y4]⟩
theorem Tw2.live.next {c:Q0} {n:Int} {M:List Int} (h:Qm c n M) {t:Tw2} (l:t.live c n):(QC c t M).live c (n+1):=by
 obtain ⟨l1,l2,l3,l4,l5⟩:=l
 unfold QC
 have sl:=h.cf.2.1
 by_cases hd:t.d=true
 · rw [if_pos hd];exact ⟨l1,l2,by omega,l4,l5⟩
 · rw [if_neg hd]
   simp only
   have hx:∃s:Q8,s.right∧Q7 M (c.slot t.r.length)=s.enc:=by
    have:=h.sl t.r.length (by omega) l1
    unfold Q5 at this;rwa [if_pos ⟨by omega,l1⟩] at this
   have hm:∀x,x∈t.r++[Q7 M (c.slot t.r.length)]→∃s:Q8,s.right∧x=s.enc:=by
    intro x hxm
    rcases List.mem_append.1 hxm with a|a
    · exact l4 x (.inl a)
    · rw [List.mem_singleton.1 a];exact hx
   split
   · rename_i h2
     exact ⟨h2,l2,by simp only;omega,fun x hx=>by rcases hx with a|a;exact hm x a;exact l4 x (.inr a),l5⟩
   · rename_i h2
     refine ⟨by simp only [List.length_nil];omega, ?_,by simp only;omega,fun x hx=>by rcases hx with a|a;(cases a);exact hm x a,by simp⟩
     simp only [List.length_append,List.length_singleton];omega
def Yw.live (c:Q0) (w:Nat) (n:Int) (a:XL):Yw→Prop
 |.none=>False
 |.get t=>a.op=0∧t.live c w
 |.give g=>(a.op=1∨a.op=2)∧g.live c w∧g.i=a.slot∧g.gen=a.gen
 |.strm s=>(a.op=3∨a.op=4)∧s.live c w∧s.i=a.slot∧s.gen=a.gen∧s.opens=decide (a.op=3)
 |.reap r=>a.op=5∧r.live c n
 |.close f d=>a.op=6∧∀q,d=some q→q.live c∧(q.nx=.head∨q.nx=.pop∨q.nx=.tell)
 |.stats t=>a.op=7∧t.live c n
def Yw.role:Yw→Xe
 |.get t=>Z0 t
 |.give g=>ZY g
 |.strm s=>KN s
 |_=>.no
structure Qa.live (c:Q0) (w:Nat) (n:Int) (shut:Prop) (k:Qa):Prop where
 s0:0≤k.st
 s1:k.st≤8
 op:k.st≠0→0≤k.ask.op∧k.ask.op<8
 op0:k.st=3∨k.st=4∨6≤k.st∨(k.st=5∧k.parks=true)→k.ask.op=0
 pin:k.st=1→k.half=true→0≤k.word∧k.word≤n
 wake:k.st=7→k.half=true→ -1≤k.word∧k.word≤16
 gr:0≤k.grant∧k.grant≤16
 half:k.st≠1→k.st≠7→k.half=false
 wk:k.st=2→k.work.live c w n k.ask
 tw:k.st=3→∃t,k.tw=some t∧t.live c n
 en:k.st=4→∃q,k.qu=some q∧q.live c
 le:k.st=8→∃q,k.qu=some q∧q.live c∧(q.nx=.look∨q.nx=.drop)∧q.why=4
 ti:k.st=5→∃t,k.ti=some t∧t.live c w n shut
 ans:k.st=5→k.parks=false→k.ans.e=0→(k.ask.op=0→0≤k.ans.slot∧k.ans.slot<c.sl)∧(k.ask.op=3∨k.ask.op=4→0≤k.ans.stream∧k.ans.stream<8)
theorem Qh.live.mono {w:Nat} {n':Int} {shut shut':Prop} {t:Qh} (h:t.live c w n shut) (hn:n≤n') (hs:shut→shut'):t.live c w n' shut':=
 {h with ep:=⟨h.ep.1,by have:=h.ep.2;omega⟩,cl:=fun e=>hs (h.cl e),rt:=fun e=>by obtain ⟨r,a,⟨s,c1,c2,c3⟩,d1,d2,d3,d4⟩:=h.rt e;exact ⟨r,a,⟨s,c1,c2,fun x=>⟨fun y=>hs ((c3 x).1 y),(c3 x).2⟩⟩,d1,d2,d3,d4⟩}
theorem QM.live.mono {n':Int} {r:QM} (h:r.live c n) (hn:n≤n'):r.live c n':={h with mn:=⟨h.mn.1,by have:=h.mn.2;omega⟩}
theorem Tw2.live.mono {n':Int} {t:Tw2} (h:t.live c n) (hn:n≤n'):t.live c n':={h with n:=⟨h.n.1,by have:=h.n.2;omega⟩}
theorem Yw.live.mono {w:Nat} {n':Int} {a:XL} {j:Yw} (h:j.live c w n a) (hn:n≤n'):j.live c w n' a:=by
 cases j<;>first|exact h|exact ⟨h.1,h.2.mono hn⟩
theorem Qa.live.mono {w:Nat} {n':Int} {shut shut':Prop} {k:Qa} (h:k.live c w n shut) (hn:n≤n') (hs:shut→shut'):k.live c w n' shut':=
 {h with wk:=fun e=>(h.wk e).mono hn,tw:=fun e=>by obtain ⟨t,a,b⟩:=h.tw e;exact ⟨t,a,b.mono hn⟩,pin:=fun a b=>⟨(h.pin a b).1,by have:=(h.pin a b).2;omega⟩,ti:=fun e=>by obtain ⟨t,a,b⟩:=h.ti e;exact ⟨t,a,b.mono hn hs⟩}
def J7 (k:Qa):Xe:=
 if k.st=2 then k.work.role
 else if k.st=5∧k.parks=false∧k.ans.e=0 then
  (if k.ask.op=0 then .ga k.ans.slot k.ans.gen else if k.ask.op=1∨k.ask.op=2 then .si k.ask.slot k.ask.gen else if k.ask.op=3∨k.ask.op=4 then .de k.ask.slot k.ask.gen k.ans.stream.toNat (decide (k.ask.op=3)) else .no)
 else .no
theorem QV {k:Qa} (h:k.st≠2) (h':k.st≠5):J7 k=.no:=by unfold J7;rw [if_neg h,if_neg (by omega)]
theorem JC {k:Qa} (h:k.st=5) (h':k.parks=true∨k.ans.e≠0∨5≤k.ask.op∨k.ask.op<0):J7 k=.no:=by
 unfold J7
 rw [if_neg (by omega)]
 split
 · rename_i a
   rcases h' with b|b|b|b
   · rw [b] at a;exact absurd a.2.1 (by simp)
   · exact absurd a.2.2 b
   · rw [if_neg (by omega),if_neg (by omega),if_neg (by omega)]
   · rw [if_neg (by omega),if_neg (by omega),if_neg (by omega)]
 · rfl
theorem ZF {k:Qa} (h:k.st=2):J7 k=k.work.role:=if_pos h
theorem WQ {k:Qa} (h:k.st=5) (h1:k.parks=false) (h2:k.ans.e=0):J7 k=(if k.ask.op=0 then .ga k.ans.slot k.ans.gen else if k.ask.op=1∨k.ask.op=2 then .si k.ask.slot k.ask.gen else if k.ask.op=3∨k.ask.op=4 then .de k.ask.slot k.ask.gen k.ans.stream.toNat (decide (k.ask.op=3)) else .no):=by
 unfold J7;rw [if_neg (by omega),if_pos ⟨h,h1,h2⟩]
def runs (k:Qa):Int:=if k.st=0 then 0 else 1
def ZW (L:List Qa):Int:=(L.map runs).sum
theorem WS (k:Qa):0≤runs k∧runs k≤1:=by unfold runs;split<;>omega
theorem Yn:∀L:List Qa,ZW L≤L.length
 |[]=>by simp [ZW]
 |k::L=>by
  have:=Yn L;have:=WS k
  unfold ZW at*;simp only [List.map_cons,List.sum_cons,List.length_cons];omega
theorem Yg:∀L:List Qa,0≤ZW L
 |[]=>by simp [ZW]
 |k::L=>by
  have:=Yg L;have:=WS k
  unfold ZW at*;simp only [List.map_cons,List.sum_cons];omega
theorem Gc (x:Qa):∀(L:List Qa) (w:Nat),w<L.length→ZW (L.set w x)=ZW L - runs (L.getD w Jd)+runs x
 |[],w,h=>by simp at h
 |k::L,0,_=>by unfold ZW;simp;omega
 |k::L,w+1,h=>by
  have:=Gc x L w (by simpa using h)
  unfold ZW at*;simp only [List.set_cons_succ,List.map_cons,List.sum_cons,List.getD_cons_succ] at*;omega
structure MInv (n:Int) (m:Qb):Prop where
 mem:Qm m.c n m.M
 gd:0≤m.good∧m.good≤n
 bd:0≤m.bad∧m.bad≤n
 ah:m.ahead.length≤1000
 nw:0≤m.now∧m.now≤1099511627776
 ev:(m.evs.length:Int)+ZW m.ws≤2007
 wl:(m.ws.length:Int)=m.c.wo
 wk:∀k:Nat,(k:Int)<m.c.wo→(m.wk k).live m.c k n (Jr m.M)
def YZ (m m1:Qb):Prop:=(m.good≤m1.good∧m1.good≤m.good+1)∧(m.bad≤m1.bad∧m1.bad≤m.bad+1)∧m1.ahead.length≤m.ahead.length
theorem YZ.refl (m:Qb):YZ m m:=⟨by omega,by omega,Nat.le_refl _⟩
theorem YZ.next (m:Qb):YZ m m.Qs.1:=by
 unfold YZ Qb.Qs
 refine ⟨?_, ?_,by simp⟩
 · simp only;split<;>omega
 · simp only;split<;>omega
structure Vu (n:Int) (m:Qb) (w:Nat) (m':Qb) (k':Qa):Prop where
 s0:(m.wk w).st≠0
 wn:YZ m m'
 rn:(m'.evs.length:Int)+runs k'≤m.evs.length+1
 c:m'.c=m.c
 ws:m'.ws=m.ws.set w k'
 at_:m'.at_=m.at_
 en:m'.entries=m.entries
 now:m'.now=m.now
 st:StM m.c (n+1) m.M m'.M
 lv:k'.live m.c w (n+1) (Jr m'.M)
 ask:k'.ask=(m.wk w).ask
def Told (n:Int) (m:Qb) (w:Nat) (m':Qb) (k':Qa):Prop:=Q9F m.c n m.M→
 (m'.evs=m.evs∧Tr m.c w m.M m'.M (J7 (m.wk w)) (J7 k'))∨
 ((m.wk w).st=5∧(m.wk w).parks=false∧k'.st=0∧J7 k'=.no∧(∀r,Tr m.c w m.M m'.M r r)∧m'.evs=m.evs++[{(m.wk w).ans with ended:=true,who:=w,at_:=m.at_,ask:=(m.wk w).ask}])
theorem KJ {w:Nat} {shut:Prop} (hw:(w:Int)<c.wo) (h0:0≤n):(QG w).live c w n shut:=
 ⟨by simp [QG],by simp [QG],rfl,hw,by simp [QG];omega,by simp [QG],by simp [QG],by simp [QG],by simp [QG],by simp [QG],by simp [QG],by simp [QG],by simp [QG]⟩
theorem XH {w:Nat} {shut:Prop} {k:Qa} (h0:0≤n) (hw:(w:Int)<c.wo) (ho:0≤k.ask.op∧k.ask.op<8) (hg:0≤k.grant∧k.grant≤16) (hh:k.half=false) {x:EvV}
 (ha:x.e=0→(k.ask.op=0→0≤x.slot∧x.slot<c.sl)∧(k.ask.op=3∨k.ask.op=4→0≤x.stream∧x.stream<8)):(k.end_ w x).live c w n shut:=
 ⟨by simp [Qa.end_,Qa.QU],by simp [Qa.end_,Qa.QU],fun _=>ho,by simp [Qa.end_,Qa.QU],by simp [Qa.end_,Qa.QU],by simp [Qa.end_,Qa.QU],hg,fun _ _=>hh,
   by simp [Qa.end_,Qa.QU],by simp [Qa.end_,Qa.QU],by simp [Qa.end_,Qa.QU],by simp [Qa.end_,Qa.QU],fun _=>⟨_,rfl,KJ hw h0⟩,fun _ _=>ha⟩
theorem Ka {w:Nat}:(J8 w).live c w:=⟨by simp [J8],by simp [J8],rfl,by simp [J8],by simp [J8],by simp [J8],by simp [J8],by simp [J8]⟩
variable {m:Qb} {w:Nat}
theorem YV (L:List Qa) (w:Nat) (x:Qa) (k:Nat):(L.set w x).getD k Jd=if k=w∧w<L.length then x else L.getD k Jd:=by
 rw [List.getD_eq_getElem?_getD,List.getD_eq_getElem?_getD,List.getElem?_set]
 by_cases h:w=k
 · subst h
   by_cases h2:w<L.length
   · simp [h2]
   · simp [h2]
 · rw [if_neg h,if_neg (fun e=>h e.1.symm)]
theorem Vu.inv (h:MInv n m) (hw:(w:Int)<m.c.wo) {m':Qb} {k':Qa} (s:Vu n m w m' k'):MInv (n+1) m'∧m'.wk w=k'∧∀k,k≠w→m'.wk k=m.wk k:=by
 have W:∀k,m'.wk k=if k=w then k' else m.wk k:=by
  intro k
  have:=h.wl
  unfold Qb.wk
  rw [s.ws,YV]
  by_cases hk:k=w
  · rw [if_pos ⟨hk,by omega⟩,if_pos hk]
  · rw [if_neg (fun e=>hk e.1),if_neg hk]
 have r0:runs (m.wk w)=1:=by unfold runs;rw [if_neg s.s0]
 have wn:=s.wn
 have hwl:=h.wl
 have e2:=h.gd;have e3:=h.bd;have e4:=h.ah;have e5:=h.ev
 refine ⟨⟨by rw [s.c];exact s.st.ok,by have:=wn.1;omega,by have:=wn.2.1;omega,Nat.le_trans wn.2.2 e4,by rw [s.now];exact h.nw, ?_,by rw [s.ws,s.c,List.length_set];exact h.wl,fun k hk=> ?_⟩,by rw [W,if_pos rfl],fun k hk=>by rw [W,if_neg hk]⟩
 · have:=s.rn
   rw [s.ws,Gc _ _ _ (by omega)]
   unfold Qb.wk at r0;omega
 rw [s.c] at hk ⊢
 rw [W]
 split
 · rename_i e;rw [e];exact s.lv
 · exact (h.wk k hk).mono (by omega) s.st.sh
theorem Q7u (h:MInv n m) (hn:n≤1000000000) (hw:(w:Int)<m.c.wo) {t:Qe} (hs:(m.wk w).st=2) (hk:(m.wk w).work=.get t):∃k',Vu n m w (XD m w t) k'∧Told n m w (XD m w t) k':=by
 have L:=h.wk w hw
 have hl:=L.wk hs
 rw [hk] at hl
 obtain ⟨ho,hl⟩:=hl
 have hn0:=h.mem.n0
 have hh:=L.half (by omega) (by omega)
 obtain ⟨m1,good,e1⟩:∃m1 good,(if t.st=9 then m.Qs else (m,false))=(m1,good):=⟨_,_,rfl⟩
 have em:YZ m m1∧m1.c=m.c∧m1.ws=m.ws∧m1.evs=m.evs∧m1.at_=m.at_∧m1.entries=m.entries∧m1.now=m.now:=by
  split at e1
  · have e2:m1=m.Qs.1:=(congrArg Prod.fst e1).symm
    rw [e2];exact ⟨YZ.next m,rfl,rfl,rfl,rfl,rfl,rfl⟩
  · have e2:m1=m:=(congrArg Prod.fst e1).symm
    rw [e2];exact ⟨YZ.refl m,rfl,rfl,rfl,rfl,rfl,rfl⟩
 obtain ⟨m1wn,m1c,m1w,m1e,m1a,m1n,m1t⟩:=em
 obtain ⟨x,hx⟩:∃x,Qg m.c t m.M good=x:=⟨_,rfl⟩
 obtain ⟨t',M'⟩:=x
 have hS:=Kj m.c w t m.M good hl
 rw [hx] at hS
 simp only at hS
 obtain ⟨st,tr,hlv,hend⟩:=Q8s h.mem hn hl hS
 have R0:J7 (m.wk w)=Z0 t:=by rw [ZF hs,hk];rfl
 unfold XD
 simp only [e1,hx]
 have G:∀k',k'.live m.c w (n+1) (Jr M')→k'.ask=(m.wk w).ask→(Q9F m.c n m.M→Tr m.c w m.M M' (Z0 t) (J7 k'))→∃k'',Vu n m w ({m1 with M:=M'}.setW w k') k''∧Told n m w ({m1 with M:=M'}.setW w k') k'':=by
  intro k' a b d
  refine ⟨k',⟨by omega,m1wn,by have:=WS k';rw [show (Qb.setW {m1 with M:=M'} w k').evs=m1.evs from rfl,m1e];omega,m1c,by simp only [Qb.setW,m1w],m1a,m1n,m1t,st,a,b⟩,fun L=>.inl ⟨m1e,by rw [R0];exact d L⟩⟩
 split
 · rename_i h15
   obtain ⟨he1,he2⟩:=hend h15
   split
   · rename_i h3
     have r':Z0 t'=.no:=Qq (.inr (.inr (.inr (.inr (.inr ⟨h15,by omega⟩)))))
     rw [r'] at tr
     split
     · refine G _ ⟨by simp,by simp,fun _=>by simp only [ho];omega,fun _=>ho,by simp,by simp,L.gr,fun _ _=>hh,by simp,by simp,fun _=>⟨_,rfl, ?_⟩,by simp,by simp,by simp⟩ rfl ?_
       · exact ⟨⟨⟨by simp [XU],by simp [XU]⟩,by simp [XU],by simp [XU],by simp [XU]⟩,by simp [XU],by simp [XU],hw,by simp [XU]⟩
       · rw [QV (by simp) (by simp)];exact tr
     · refine G _ ⟨by simp,by simp,fun _=>by simp only [ho];omega,fun _=>ho,by simp,by simp,L.gr,fun _ _=>hh,by simp,fun _=>⟨_,rfl,Dv h.mem.cf (by omega)⟩,by simp,by simp,by simp,by simp⟩ rfl ?_
       rw [QV (by simp) (by simp)];exact tr
   · rename_i h3
     refine G _ (XH (k:={(m.wk w) with work:=.get t'}) (by omega) hw (by simp only [ho];omega) L.gr hh ?_) rfl ?_
     · intro e
       by_cases h0:t'.e=0
       · rw [if_pos h0];exact ⟨fun _=>he1 h0,by simp only [ho];omega⟩
       · rw [if_neg h0] at e;exact absurd e h0
     · by_cases h0:t'.e=0
       · rw [if_pos h0,WQ rfl rfl rfl]
         simp only [Qa.end_,Qa.QU,ho,if_true]
         rw [Q0A ⟨h15,h0⟩] at tr
         exact tr
       · rw [if_neg h0,JC rfl (.inr (.inl h0))]
         rw [Qq (t:=t') (.inr (.inr (.inr (.inr (.inr ⟨h15,h0⟩)))))] at tr
         exact tr
 · rename_i h15
   refine G _ ⟨by simp only [hs];omega,by simp only [hs];omega,fun _=>by simp only [ho];omega,by simp only [hs];omega,by simp only [hs];omega,by simp only [hs];omega,L.gr,fun _ _=>hh,fun _=>⟨ho,hlv h15⟩,by simp only [hs];omega,by simp only [hs];omega,by simp only [hs];omega,by simp only [hs];omega,by simp only [hs];omega⟩ rfl ?_
   rw [ZF (by exact hs)];exact tr
end
section
variable {n:Int} {m:Qb} {w:Nat}
theorem QK {M':List Int} {k':Qa} {m1:Qb} (hc:m1.c=m.c) (hws:m1.ws=m.ws) (hev:m1.evs=m.evs) (ha:m1.at_=m.at_) (he:m1.entries=m.entries) (hnow:m1.now=m.now) (hM:m1.M=M')
 (st:StM m.c (n+1) m.M M') (lv:k'.live m.c w (n+1) (Jr M')) (ask:k'.ask=(m.wk w).ask) (tr:Tr m.c w m.M M' (J7 (m.wk w)) (J7 k')) (s0:(m.wk w).st≠0:=by omega)
 (wn:YZ m m1:=by first|exact YZ.refl m|exact YZ.next m):
 ∃k'',Vu n m w (m1.setW w k') k''∧Told n m w (m1.setW w k') k'':=by
 subst hM
 exact ⟨k',⟨s0,wn,by have:=WS k';rw [show (m1.setW w k').evs=m1.evs from rfl,hev];omega,hc,by simp only [Qb.setW,hws],ha,he,hnow,st,lv,ask⟩,fun _=>.inl ⟨hev,tr⟩⟩
theorem Xh {c:Q0} {n':Int} {sh sh':Prop} {k:Qa} {j:Yw} (L:k.live c w n sh) (hs:k.st=2) (hj:j.live c w n' k.ask):({k with work:=j}:Qa).live c w n' sh':=
 ⟨by simp only [hs];omega,by simp only [hs];omega,fun _=>L.op (by omega),by simp only [hs];omega,by simp only [hs];omega,by simp only [hs];omega,L.gr,fun _ _=>L.half (by omega) (by omega),fun _=>hj,by simp only [hs];omega,by simp only [hs];omega,by simp only [hs];omega,by simp only [hs];omega,by simp only [hs];omega⟩
theorem Q65 {k:Qa} (h:k.st=5) (h1:k.parks=false) (h2:k.ans.e=0) (h3:k.ask.op=1∨k.ask.op=2):J7 k=.si k.ask.slot k.ask.gen:=by
 rw [WQ h h1 h2,if_neg (by omega),if_pos h3]
theorem Q66 {k:Qa} (h:k.st=5) (h1:k.parks=false) (h2:k.ans.e=0) (h3:k.ask.op=3∨k.ask.op=4):J7 k=.de k.ask.slot k.ask.gen k.ans.stream.toNat (decide (k.ask.op=3)):=by
 rw [WQ h h1 h2,if_neg (by omega),if_neg (by omega),if_pos h3]
theorem Q23 (h:MInv n m) (hn:n≤1000000000) (hw:(w:Int)<m.c.wo) (hs:(m.wk w).st=2):∃k',Vu n m w (Jb m w) k'∧Told n m w (Jb m w) k':=by
 have L:=h.wk w hw
 have hl:=L.wk hs
 have hh:=L.half (by omega) (by omega)
 have hn0:=h.mem.n0
 have hop:=L.op (by omega)
 have Q:∀r,Tr m.c w m.M m.M r r:=fun r=>.quiet rfl rfl
 have R0:=ZF hs
 unfold Jb
 simp only
 cases hk:(m.wk w).work with
 |none=>rw [hk] at hl;exact hl.elim
 |get t=>exact Q7u h hn hw hs hk
 |give g=>
  rw [hk] at hl R0
  obtain ⟨ho,hl,hi,hg⟩:=hl
  simp only
  have hS:=Uz m.c w g m.M hl
  generalize Qt m.c g m.M=x at*
  obtain ⟨g',M'⟩:=x
  simp only at hS ⊢
  obtain ⟨st,tr,e1,e2,hlv⟩:=Q9o h.mem hn hl hS
  by_cases h4:g'.st=4
  · rw [if_pos h4]
    refine QK rfl rfl rfl rfl rfl rfl rfl st (by refine XH ?_ hw ?_ ?_ ?_ ?_;exact (by omega);exact hop;exact L.gr;exact hh;exact (fun _=>⟨by first|omega|(simp only;omega),by first|omega|(simp only;omega)⟩)) rfl ?_
    rw [R0]
    by_cases h0:g'.e=0
    · rw [Q65 rfl rfl (by exact h0) (by exact ho)]
      show Tr m.c w m.M M' (ZY g) (.si (m.wk w).ask.slot (m.wk w).ask.gen)
      rw [←hi,←hg,←e1,←e2,←Q1t ⟨h4,h0⟩]
      exact tr
    · rw [JC rfl (.inr (.inl h0)),←Jk (.inr (.inr ⟨h4,h0⟩))]
      exact tr
  · rw [if_neg h4]
    refine QK rfl rfl rfl rfl rfl rfl rfl st (Xh L hs ⟨ho,hlv h4,by rw [e1,hi],by rw [e2,hg]⟩) rfl ?_
    rw [R0,ZF (by exact hs)]
    exact tr
 |strm s=>
  rw [hk] at hl R0
  obtain ⟨ho,hl,hi,hg,hop'⟩:=hl
  simp only
  have hS:=Kl m.c w s m.M hl
  generalize Qu m.c s m.M=x at*
  obtain ⟨s',M'⟩:=x
  simp only at hS ⊢
  obtain ⟨st,tr,⟨e1,e2,e3⟩,hlv,hend⟩:=Q8x h.mem hn hl hS
  by_cases h4:s'.st=3
  · rw [if_pos h4]
    refine QK rfl rfl rfl rfl rfl rfl rfl st (by refine XH ?_ hw ?_ ?_ ?_ ?_;exact (by omega);exact hop;exact L.gr;exact hh;exact (fun a=>⟨by first|omega|(simp only;omega),fun _=>by simp only at a;simp only [if_pos a];exact hend h4 a⟩)) rfl ?_
    rw [R0]
    by_cases h0:s'.e=0
    · rw [Q66 rfl rfl (by exact h0) (by exact ho)]
      show Tr m.c w m.M M' (KN s) (.de (m.wk w).ask.slot (m.wk w).ask.gen (if s'.e=0 then s'.stream else 0).toNat (decide ((m.wk w).ask.op=3)))
      rw [if_pos h0,←hi,←hg,←hop',←e1,←e2,←e3,←Q0I ⟨h4,h0⟩]
      exact tr
    · rw [JC rfl (.inr (.inl h0)),←X7 (.inr h0)]
      exact tr
  · rw [if_neg h4]
    refine QK rfl rfl rfl rfl rfl rfl rfl st (Xh L hs ⟨ho,hlv h4,by rw [e1,hi],by rw [e2,hg],by rw [e3,hop']⟩) rfl ?_
    rw [R0,ZF (by exact hs)]
    exact tr
 |reap r=>
  rw [hk] at hl R0
  obtain ⟨ho,hl⟩:=hl
  simp only at R0 ⊢
  unfold QY
  have hs4:r.st=0∨r.st=1∨r.st=2∨r.st=3:=by have:=hl.s0;have:=hl.s1;omega
  have hR:∀r':QM,J7 ({(m.wk w) with work:=.reap r'}:Qa)=.no:=fun r'=>ZF (by exact hs)
  have gl:r.look.found=true→r.look.at_<m.c.sl→r.J5.live m.c (n+1):=fun a b=>⟨by have:=hl.mn;simp only [QM.J5];omega,by simp [QM.J5],by simp [QM.J5],fun _=>by simp [QM.J5,Qi.go,a],by have:=hl.a;simp [QM.J5,Qi.go,a];omega,by simp [QM.J5,Qi.go,a,hl.kd],by simp [QM.J5],by simp [QM.J5]⟩
  rcases hs4 with h0|h0|h0|h0
  · rw [if_pos h0]
    rcases X9 m.c r.look m.M (hl.lk h0) with ⟨a1,a2,e⟩|⟨a1,a2,e⟩|⟨a1,e⟩
    · rw [e];simp only [if_true]
      obtain ⟨f1,f2,f3⟩:=h.mem.YB hl.a.1 a1 a2
      refine QK rfl rfl rfl rfl rfl rfl rfl h.mem.stays (Xh L hs ⟨ho,by have:=hl.mn;simp only;omega,by simp,by simp,by simp,hl.a,hl.kd,fun _=>⟨rfl,a1,SL m.c m.M r.look.at_,f1,f2, ?_⟩,by simp⟩) rfl ?_
      · rw [hl.kd] at f3;simpa [JZ,isV] using f3
      · rw [R0,hR];exact Q _
    · rw [e];simp only [hl.lk h0,Bool.false_eq_true,if_false]
      have ll:∀f:Qi,f.found=false→f.at_=r.look.at_+1→f.kind=6→({r with look:=f}:QM).live m.c (n+1):=fun f b1 b2 b3=>⟨by have:=hl.mn;simp only;omega,by simp only [h0];omega,by simp only [h0];omega,fun _=>b1,by simp only;have:=hl.a;omega,b3,fun x=>absurd h0 x,by simp only [h0];omega⟩
      by_cases h1:m.c.sl≤r.look.at_+1
      · simp only [decide_eq_true h1,if_true]
        refine QK rfl rfl rfl rfl rfl rfl rfl h.mem.stays (by refine XH ?_ hw ?_ ?_ ?_ ?_;exact (by omega);exact hop;exact L.gr;exact hh;exact (fun _=>⟨by first|omega|(simp only;omega),by first|omega|(simp only;omega)⟩)) rfl ?_
        rw [R0,JC rfl (.inr (.inr (.inl (by simp only [Qa.end_,Qa.QU];omega))))];exact Q _
      · simp only [decide_eq_false h1,Bool.false_eq_true,if_false]
        refine QK rfl rfl rfl rfl rfl rfl rfl h.mem.stays (Xh L hs ⟨ho,ll _ rfl rfl hl.kd⟩) rfl ?_
        rw [R0,hR];exact Q _
    · rw [e];simp only [hl.lk h0,Bool.false_eq_true,if_false,if_true]
      refine QK rfl rfl rfl rfl rfl rfl rfl h.mem.stays (by refine XH ?_ hw ?_ ?_ ?_ ?_;exact (by omega);exact hop;exact L.gr;exact hh;exact (fun _=>⟨by first|omega|(simp only;omega),by first|omega|(simp only;omega)⟩)) rfl ?_
      rw [R0,JC rfl (.inr (.inr (.inl (by simp only [Qa.end_,Qa.QU];omega))))];exact Q _
  · rw [if_neg (by omega),if_pos h0]
    obtain ⟨f1,f2,s,f3,f4,f5⟩:=hl.fd (by omega)
    simp only
    split
    · refine QK (m1:=m.Qs.1) rfl rfl rfl rfl rfl rfl rfl h.mem.stays (Xh L hs ⟨ho,by have:=hl.mn;simp only;omega,by simp,by simp,by simp,hl.a,hl.kd,fun _=>⟨f1,f2,s,f3,f4,f5⟩,by simp⟩) rfl ?_
      rw [R0,hR];exact Q _
    · refine QK (m1:=m.Qs.1) rfl rfl rfl rfl rfl rfl rfl h.mem.stays (Xh L hs ⟨ho,by have:=hl.mn;simp only;omega,by simp,by simp,by simp,hl.a,hl.kd,fun _=>⟨f1,f2,s,f3,f4,f5⟩,fun _=>⟨_,rfl,Yz h.mem ⟨hl.a.1,f2⟩ f3 f4 f5⟩⟩) rfl ?_
      rw [R0,hR];exact Q _
  · rw [if_neg (by omega),if_neg (by omega),if_pos h0]
    obtain ⟨f1,f2,s,f3,f4,f5⟩:=hl.fd (by omega)
    have G:∀M',StM m.c (n+1) m.M M'→(∀r,Tr m.c w m.M M' r r)→∃k',Vu n m w ({m with M:=M'}.setW w {(m.wk w) with work:=.reap r.J5}) k'∧Told n m w ({m with M:=M'}.setW w {(m.wk w) with work:=.reap r.J5}) k':=fun M' a b=>
     QK rfl rfl rfl rfl rfl rfl rfl a (Xh L hs ⟨ho,gl f1 f2⟩) rfl (by rw [R0,hR];exact b _)
    cases ha:J6 r.look.word 10 w 0 with
    |none=>simp only;exact G _ h.mem.stays Q
    |some x=>
     obtain ⟨s',hds,hu,he⟩:=Jz ha
     obtain ⟨u,nx⟩:=x
     simp only at hu he ⊢
     subst he
     cases hc:Qv m.M (Q5 m.c r.look.at_) r.look.word with
     |true=>
      obtain ⟨hin,e,hu',e2,st,el,eg⟩:=h.mem.swap hds hu hc
      rw [e2]
      exact G _ st (Zh h.mem e el eg (Xt hu (by simp)))
     |false=>rw [ZC hc];exact G _ h.mem.stays Q
  · rw [if_neg (by omega),if_neg (by omega),if_neg (by omega)]
    obtain ⟨f1,f2, -⟩:=hl.fd (by omega)
    obtain ⟨t,ht,hlt⟩:=hl.rt h0
    have er:r.rt=t:=by unfold QM.rt;rw [ht];rfl
    have hS:=YN t m.M hlt.nd
    rw [er]
    generalize Qn t m.M=x at*
    obtain ⟨t',M'⟩:=x
    simp only at hS ⊢
    obtain ⟨st,b1,b2⟩:=KO h.mem (by omega) hlt ⟨hl.a.1,f2⟩ hS
    have tq:∀r,Tr m.c w m.M M' r r:=by
     intro rr
     rcases b2 with ⟨-,e2,e3⟩|⟨-, -, -,e2,e3,e4⟩
     · exact .quiet e2 e3
     · exact Q6A h.mem e2 e3 e4 rr
    refine QK rfl rfl rfl rfl rfl rfl rfl st (Xh L hs ⟨ho, ?_⟩) rfl (by rw [R0,hR];exact tq _)
    cases hd:t'.done with
    |true=>
     simp only [if_true]
     have:=gl f1 f2
     exact ⟨by have:=hl.mn;simp only [QM.J5];split<;>omega,this.s0,this.s1,this.lk,this.a,this.kd,by simp [QM.J5],by simp [QM.J5]⟩
    |false=>simp only [Bool.false_eq_true,if_false];exact ⟨by have:=hl.mn;simp only;omega,hl.s0,hl.s1,hl.lk,hl.a,hl.kd,hl.fd,fun _=>⟨_,rfl,b1 hd⟩⟩
 |close force drain=>
  rw [hk] at hl R0
  obtain ⟨ho,hl⟩:=hl
  have hR:∀d',J7 ({(m.wk w) with work:=.close force d'}:Qa)=.no:=fun r'=>ZF (by exact hs)
  have wo:=h.mem.cf.1
  cases drain with
  |some q=>
   obtain ⟨hq,hqn⟩:=hl q rfl
   simp only at R0 ⊢
   obtain ⟨st,tr,hlv⟩:=q_tr (w:=w) h.mem hq
   by_cases hd:(Qp m.c q m.M).1.nx.isDone=true
   · rw [if_pos hd]
     refine QK rfl rfl rfl rfl rfl rfl rfl st (by refine XH ?_ hw ?_ ?_ ?_ ?_;exact (by omega);exact hop;exact L.gr;exact hh;exact (fun _=>⟨by first|omega|(simp only;omega),by first|omega|(simp only;omega)⟩)) rfl ?_
     rw [R0,JC rfl (.inr (.inr (.inl (by simp only [Qa.end_,Qa.QU];omega))))];exact tr _
   · rw [if_neg hd]
     refine QK rfl rfl rfl rfl rfl rfl rfl st (Xh L hs ⟨ho,fun q' e=>by cases e;exact ⟨hlv,GR hqn hd⟩⟩) rfl (by rw [R0,hR];exact tr _)
  |none=>
   simp only at R0 ⊢
   have len:=h.mem.len
   have sl:=h.mem.cf.2.1
   have h00:(0:Int)<m.M.length:=by unfold Q0.cells at len;omega
   have hld:∀j:Qa,({(m.wk w) with work:=.close force (some XV)}:Qa).live m.c w (n+1) (Jr (if force=true then Qz m.M 0 2 else QL m.M 0 0 1)):=fun _=>Xh L hs ⟨ho,fun q e=>by cases e;exact ⟨⟨⟨⟨by simp [XV],by simp [XV]⟩,by simp [XV],by simp [XV],by simp [XV]⟩,by simp [XV],by simp [XV],by simp [XV];omega,by simp [XV]⟩,.inl rfl⟩⟩
   have G:StM m.c (n+1) m.M (if force=true then Qz m.M 0 2 else QL m.M 0 0 1)∧∀r,Tr m.c w m.M (if force=true then Qz m.M 0 2 else QL m.M 0 0 1) r r:=by
    cases force with
    |true=>
     simp only [if_true]
     rw [JG (by omega) h00]
     exact ⟨h.mem.Vr (by omega) (by omega) (by omega) (by omega) (by omega) (by omega) (fun _ _=>rfl),fun r=>trL h.mem (by omega) (by omega) r⟩
    |false=>
     simp only [Bool.false_eq_true,if_false]
     cases hc:Qv m.M 0 0 with
     |false=>rw [ZC hc];exact ⟨h.mem.stays,Q⟩
     |true=>
      have e:QL m.M 0 0 1=m.M.set (0:Int).toNat 1:=by unfold QL;rw [if_pos hc]
      have z:Q7 m.M 0=0:=by
       unfold Qv at hc
       rw [Bool.and_eq_true,decide_eq_true_eq] at hc
       unfold Q7;rw [if_pos hc.1];exact hc.2
      rw [e]
      exact ⟨h.mem.Vr (by omega) (by omega) (by omega) (by omega) (by omega) (by omega) (fun _ a=>by unfold Jr at a;omega),fun r=>trL h.mem (by omega) (by omega) r⟩
   exact QK rfl rfl rfl rfl rfl rfl rfl G.1 (hld (m.wk w)) rfl (by rw [R0,hR];exact G.2 _)
 |stats t=>
  rw [hk] at hl R0
  obtain ⟨hl7,hlt⟩:=hl
  simp only at R0 ⊢
  by_cases hd:(QC m.c t m.M).d=true
  · rw [if_pos hd]
    refine QK rfl rfl rfl rfl rfl rfl rfl h.mem.stays (by refine XH ?_ hw ?_ ?_ ?_ ?_;exact (by omega);exact hop;exact L.gr;exact hh;exact (fun _=>⟨by first|omega|(simp only;omega),by first|omega|(simp only;omega)⟩)) rfl ?_
    rw [R0,JC rfl (.inr (.inr (.inl (by simp only [Qa.end_,Qa.QU];omega))))];exact Q _
  · rw [if_neg hd]
    refine QK rfl rfl rfl rfl rfl rfl rfl h.mem.stays (Xh L hs ⟨hl7,hlt.next h.mem⟩) rfl ?_
    rw [R0,ZF (by exact hs)];exact Q _
theorem Q1D (h:MInv n m) (hn:n≤1000000000) (hw:(w:Int)<m.c.wo) (hs:(m.wk w).st=3):∃k',Vu n m w (XC m w) k'∧Told n m w (XC m w) k':=by
 have L:=h.wk w hw
 have hh:=L.half (by omega) (by omega)
 have hn0:=h.mem.n0
 have hop:=L.op (by omega)
 have ho:=L.op0 (by omega)
 have Q:∀r,Tr m.c w m.M m.M r r:=fun r=>.quiet rfl rfl
 have R0:=QV (k:=m.wk w) (by omega) (by omega)
 obtain ⟨t0,ht0,hlt⟩:=L.tw hs
 unfold XC
 simp only [ht0,Option.getD_some]
 by_cases hd:(QC m.c t0 m.M).d=true
 · rw [if_pos hd]
   split
   · refine QK rfl rfl rfl rfl rfl rfl rfl h.mem.stays ⟨by simp,by simp,fun _=>hop,by simp,by simp,by simp,L.gr,fun _ _=>hh,fun _=>⟨ho,Ka⟩,by simp,by simp,by simp,by simp,by simp⟩ rfl ?_
     rw [R0,ZF rfl];show Tr m.c w m.M m.M .no (Z0 (J8 w));rw [Qq (by simp [J8])];exact Q _
   · refine QK rfl rfl rfl rfl rfl rfl rfl h.mem.stays (by refine XH ?_ hw ?_ ?_ ?_ ?_;exact (by omega);exact hop;exact L.gr;exact hh;exact (fun a=>by simp at a)) rfl ?_
     rw [R0,JC rfl (.inr (.inl (by simp [Qa.end_,Qa.QU])))];exact Q _
 · rw [if_neg hd]
   refine QK rfl rfl rfl rfl rfl rfl rfl h.mem.stays ⟨by simp only;omega,by simp only;omega,fun _=>hop,fun _=>ho,by simp only;omega,by simp only;omega,L.gr,fun _ _=>hh,by simp only;omega,fun _=>⟨_,rfl,hlt.next h.mem⟩,by simp only;omega,by simp only;omega,by simp only;omega,by simp only;omega⟩ rfl ?_
   rw [R0,QV (by simp only;omega) (by simp only;omega)];exact Q _
theorem Q1z (h:MInv n m) (hn:n≤1000000000) (hw:(w:Int)<m.c.wo) (hs:(m.wk w).st=4):∃k',Vu n m w (XB m w) k'∧Told n m w (XB m w) k':=by
 have L:=h.wk w hw
 have hh:=L.half (by omega) (by omega)
 have hn0:=h.mem.n0
 have hop:=L.op (by omega)
 have ho:=L.op0 (by omega)
 have R0:=QV (k:=m.wk w) (by omega) (by omega)
 obtain ⟨q,hq,hlq⟩:=L.en hs
 unfold XB
 simp only [hq,Option.getD_some]
 obtain ⟨st,tr,hlv⟩:=q_tr (w:=w) h.mem hlq
 by_cases hd:(Qp m.c q m.M).1.nx.isDone=true
 · rw [if_pos hd]
   split
   · rename_i he
     refine QK rfl rfl rfl rfl rfl rfl rfl st (by refine XH ?_ hw ?_ ?_ ?_ ?_;exact (by omega);exact hop;exact L.gr;exact hh;exact (fun a=>absurd a he.1)) rfl ?_
     rw [R0,JC rfl (.inr (.inl he.1))];exact tr _
   · refine QK rfl rfl rfl rfl rfl rfl rfl st ⟨by simp [Qa.QU],by simp [Qa.QU],fun _=>hop,fun _=>ho,by simp [Qa.QU],by simp [Qa.QU],L.gr,fun _ _=>hh,by simp [Qa.QU],by simp [Qa.QU],by simp [Qa.QU],by simp [Qa.QU],fun _=>⟨_,rfl,KJ hw (by omega)⟩,by simp [Qa.QU]⟩ rfl ?_
     rw [R0,JC rfl (.inl rfl)];exact tr _
 · rw [if_neg hd]
   refine QK rfl rfl rfl rfl rfl rfl rfl st ⟨by simp only;omega,by simp only;omega,fun _=>hop,fun _=>ho,by simp only;omega,by simp only;omega,L.gr,fun _ _=>hh,by simp only;omega,by simp only;omega,fun _=>⟨_,rfl,hlv⟩,by simp only;omega,by simp only;omega,by simp only;omega⟩ rfl ?_
   rw [R0,QV (by simp only;omega) (by simp only;omega)];exact tr _
theorem Wh (h:MInv n m) (hn:n≤1000000000) (hw:(w:Int)<m.c.wo) (hs:(m.wk w).st=8):∃k',Vu n m w (JW m w) k'∧Told n m w (JW m w) k':=by
 have L:=h.wk w hw
 have hh:=L.half (by omega) (by omega)
 have hn0:=h.mem.n0
 have hop:=L.op (by omega)
 have ho:=L.op0 (by omega)
 have R0:=QV (k:=m.wk w) (by omega) (by omega)
 obtain ⟨q,hq,hlq,hnx,hwhy⟩:=L.le hs
 unfold JW
 simp only [hq,Option.getD_some]
 obtain ⟨st,tr,hlv⟩:=q_tr (w:=w) h.mem hlq
 have hfin:((Qp m.c q m.M).1.nx.isDone=true∧((Qp m.c q m.M).1.e=8∨(Qp m.c q m.M).1.e=4))∨((Qp m.c q m.M).1.nx.isDone=false∧((Qp m.c q m.M).1.nx=.look∨(Qp m.c q m.M).1.nx=.drop)∧(Qp m.c q m.M).1.why=4):=by
  unfold Qp
  rcases hnx with hx|hx<;>rw [hx]<;>simp only
  · by_cases hc:q.w∈mQ m.M
    · rw [if_pos hc];right;exact ⟨rfl,.inr rfl,hwhy⟩
    · rw [if_neg hc];left;exact ⟨rfl,.inl rfl⟩
  · by_cases hc:mQ m.M=q.line
    · rw [if_pos hc];left;exact ⟨rfl,.inr hwhy⟩
    · rw [if_neg hc];right;exact ⟨rfl,.inl rfl,hwhy⟩
 rcases hfin with ⟨hd,he⟩|⟨hd,hx,hy⟩
 · rw [if_pos hd]
   split
   · refine QK rfl rfl rfl rfl rfl rfl rfl st ⟨by simp,by simp,fun _=>hop,fun _=>ho,by simp,by simp,L.gr,fun _ _=>hh,by simp,by simp,by simp,by simp,by simp,by simp⟩ rfl ?_
     rw [R0,QV (by simp) (by simp)];exact tr _
   · refine QK rfl rfl rfl rfl rfl rfl rfl st (by refine XH ?_ hw ?_ ?_ ?_ ?_;exact (by omega);exact hop;exact L.gr;exact hh;exact (fun a=>by simp only at a;omega)) rfl ?_
     rw [R0,JC rfl (.inr (.inl (by simp only [Qa.end_,Qa.QU];omega)))];exact tr _
 · rw [if_neg (by rw [hd];simp)]
   refine QK rfl rfl rfl rfl rfl rfl rfl st ⟨by simp only;omega,by simp only;omega,fun _=>hop,fun _=>ho,by simp only;omega,by simp only;omega,L.gr,fun _ _=>hh,by simp only;omega,by simp only;omega,by simp only;omega,fun _=>⟨_,rfl,hlv,hx,hy⟩,by simp only;omega,by simp only;omega⟩ rfl ?_
   rw [R0,QV (by simp only;omega) (by simp only;omega)];exact tr _
theorem U3 (h:MInv n m) (hn:n≤1000000000) (hw:(w:Int)<m.c.wo) (hs:(m.wk w).st=7):∃k',Vu n m w (Xc m w) k'∧Told n m w (Xc m w) k':=by
 have L:=h.wk w hw
 have hn0:=h.mem.n0
 have hop:=L.op (by omega)
 have ho:=L.op0 (by omega)
 have R0:=QV (k:=m.wk w) (by omega) (by omega)
 have Q:∀r,Tr m.c w m.M m.M r r:=fun r=>.quiet rfl rfl
 have wo:=h.mem.cf.1;have sl:=h.mem.cf.2.1;have len:=h.mem.len
 have hg:=h.mem.gr w (by omega) hw
 unfold Xc
 simp only
 cases hf:(m.wk w).half with
 |false=>
  simp only [if_true]
  refine QK rfl rfl rfl rfl rfl rfl rfl h.mem.stays ⟨by simp only;omega,by simp only;omega,fun _=>hop,fun _=>ho,by simp only;omega,fun _ _=>hg,L.gr,by simp only;omega,by simp only;omega,by simp only;omega,by simp only;omega,by simp only;omega,by simp only;omega,by simp only;omega⟩ rfl ?_
  rw [R0,QV (by simp only;omega) (by simp only;omega)];exact Q _
 |true=>
  have hwd:=L.wake hs hf
  simp only [Bool.true_eq_false,if_false]
  have e:Qz m.M (3+m.c.wo+(w:Int)) 0=m.M.set (3+m.c.wo+(w:Int)).toNat 0:=JG (by omega) (by unfold Q0.cells at*;omega)
  rw [e]
  have st:=h.mem.Vr (j:=3+m.c.wo+(w:Int)) (v:=0) (by omega) (by omega) (by omega) (by omega) (by omega) (by omega) (by omega)
  have tr:=trL (w:=w) h.mem (j:=3+m.c.wo+(w:Int)) (v:=0) (by omega) (by omega)
  split
  · refine QK rfl rfl rfl rfl rfl rfl rfl st (by refine XH ?_ hw ?_ ?_ ?_ ?_;exact (by omega);exact hop;exact L.gr;exact rfl;exact (fun a=>by simp at a)) rfl ?_
    rw [R0,JC rfl (.inr (.inl (by simp [Qa.end_,Qa.QU])))];exact tr _
  · refine QK rfl rfl rfl rfl rfl rfl rfl st ⟨by simp,by simp,fun _=>hop,by simp,by simp,by simp,by simp only;omega,by simp,by simp,by simp,by simp,by simp,by simp,by simp⟩ rfl ?_
    rw [R0,QV (by simp) (by simp)];exact tr _
theorem Q4O (h:MInv n m) (hn:n≤1000000000) (hw:(w:Int)<m.c.wo) (hs:(m.wk w).st=1):∃k',Vu n m w ({m with M:=(ZX (m.wk w) m.c w m.M).2}.setW w (ZX (m.wk w) m.c w m.M).1) k'∧Told n m w ({m with M:=(ZX (m.wk w) m.c w m.M).2}.setW w (ZX (m.wk w) m.c w m.M).1) k':=by
 have L:=h.wk w hw
 have hn0:=h.mem.n0
 have hop:=L.op (by omega)
 have R0:=QV (k:=m.wk w) (by omega) (by omega)
 have Q:∀r,Tr m.c w m.M m.M r r:=fun r=>.quiet rfl rfl
 have wo:=h.mem.cf.1;have sl:=h.mem.cf.2.1;have len:=h.mem.len
 have he:=h.mem.ep
 unfold ZX
 cases hf:(m.wk w).half with
 |false=>
  simp only [if_true]
  refine QK rfl rfl rfl rfl rfl rfl rfl h.mem.stays ⟨by simp only;omega,by simp only;omega,fun _=>hop,by simp only;omega,fun _ _=>by simp only;omega,by simp only;omega,L.gr,by simp only;omega,by simp only;omega,by simp only;omega,by simp only;omega,by simp only;omega,by simp only;omega,by simp only;omega⟩ rfl ?_
  rw [R0,QV (by simp only;omega) (by simp only;omega)];exact Q _
 |true=>
  have hwd:=L.pin hs hf
  simp only [Bool.true_eq_false,if_false]
  have e:Qz m.M (3+(w:Int)) ((m.wk w).word+1)=m.M.set (3+(w:Int)).toNat ((m.wk w).word+1):=JG (by omega) (by unfold Q0.cells at*;omega)
  rw [e]
  have st:=h.mem.Vr (j:=3+(w:Int)) (v:=(m.wk w).word+1) (by omega) (by omega) (by omega) (by omega) (by omega) (by omega) (by omega)
  have tr:=trL (w:=w) h.mem (j:=3+(w:Int)) (v:=(m.wk w).word+1) (by omega) (by omega)
  have J:(Kq m.c w (m.wk w)).live m.c w (n+1) (m.wk w).ask∧(Kq m.c w (m.wk w)).role=.no:=by
   have ops:(m.wk w).ask.op=0∨(m.wk w).ask.op=1∨(m.wk w).ask.op=2∨(m.wk w).ask.op=3∨(m.wk w).ask.op=4∨(m.wk w).ask.op=5∨(m.wk w).ask.op=6∨(m.wk w).ask.op=7:=by omega
   unfold Kq
   rcases ops with o|o|o|o|o|o|o|o
   · rw [if_pos o]
     by_cases hg:0<(m.wk w).grant
     · rw [if_pos hg]
       exact ⟨⟨o,⟨by simp [QW],by simp [QW],rfl,by simp [QW],by simp [QW],by simp [QW],by simp [QW],by simp [QW]⟩⟩,Qq (by simp [QW])⟩
     · rw [if_neg hg]
       exact ⟨⟨o,Ka⟩,Qq (by simp [J8])⟩
   · rw [if_neg (by omega),if_pos o]
     exact ⟨⟨.inl o,⟨by simp [Ju],by simp [Ju],rfl,by simp [Ju],by simp [Ju]⟩,rfl,rfl⟩,Jk (by simp [Ju])⟩
   · rw [if_neg (by omega),if_neg (by omega),if_pos o]
     exact ⟨⟨.inr o,⟨by simp [Ju],by simp [Ju],rfl,by simp [Ju],by simp [Ju]⟩,rfl,rfl⟩,Jk (by simp [Ju])⟩
   · rw [if_neg (by omega),if_neg (by omega),if_neg (by omega),if_pos o]
     exact ⟨⟨.inl o,⟨by simp [JD],by simp [JD],rfl,by simp [JD]⟩,rfl,rfl,by rw [o];rfl⟩,X7 (by simp [JD])⟩
   · rw [if_neg (by omega),if_neg (by omega),if_neg (by omega),if_neg (by omega),if_pos o]
     exact ⟨⟨.inr o,⟨by simp [JD],by simp [JD],rfl,by simp [JD]⟩,rfl,rfl,by rw [o];rfl⟩,X7 (by simp [JD])⟩
   · rw [if_neg (by omega),if_neg (by omega),if_neg (by omega),if_neg (by omega),if_neg (by omega),if_pos o]
     exact ⟨⟨o,⟨by simp [Z5];omega,by simp [Z5],by simp [Z5],by simp [Z5,QE],by simp [Z5,QE];omega,rfl,by simp [Z5],by simp [Z5]⟩⟩,rfl⟩
   · rw [if_neg (by omega),if_neg (by omega),if_neg (by omega),if_neg (by omega),if_neg (by omega),if_neg (by omega),if_pos o]
     exact ⟨⟨o,by simp⟩,rfl⟩
   · rw [if_neg (by omega),if_neg (by omega),if_neg (by omega),if_neg (by omega),if_neg (by omega),if_neg (by omega),if_neg (by omega)]
     exact ⟨⟨o,Dv h.mem.cf (by omega)⟩,rfl⟩
  refine QK rfl rfl rfl rfl rfl rfl rfl st ⟨by simp,by simp,fun _=>hop,by simp,by simp,by simp,L.gr,by simp,fun _=>J.1,by simp,by simp,by simp,by simp,by simp⟩ rfl ?_
  rw [R0,ZF rfl]
  simp only
  rw [J.2];exact tr _
theorem Q0v (h:MInv n m) (hn:n≤1000000000) (hw:(w:Int)<m.c.wo) (hs:(m.wk w).st=5):∃k',Vu n m w (Xp m w) k'∧Told n m w (Xp m w) k':=by
 have L:=h.wk w hw
 have hh:=L.half (by omega) (by omega)
 have hn0:=h.mem.n0
 have hop:=L.op (by omega)
 obtain ⟨t,ht,hlt⟩:=L.ti hs
 unfold Xp
 simp only [ht,Option.getD_some]
 have hS:=Ua m.c w n (Jr m.M) t m.M hlt
 generalize Qk m.c t m.M=x at*
 obtain ⟨t',M'⟩:=x
 simp only at hS ⊢
 obtain ⟨st,tr,hlv⟩:=Q8q h.mem (by omega) hlt hS
 by_cases h17:t'.st=17
 · rw [if_pos h17]
   cases hp:(m.wk w).parks with
   |true=>
    simp only [if_true]
    have ho:=L.op0 (.inr (.inr (.inr ⟨hs,hp⟩)))
    refine QK rfl rfl rfl rfl rfl rfl rfl st ⟨by simp,by simp,fun _=>hop,fun _=>ho,by simp,by simp,L.gr,fun _ _=>hh,by simp,by simp,by simp,by simp,by simp,by simp⟩ rfl ?_
    rw [JC hs (.inl hp),QV (by simp) (by simp)];exact tr _
   |false=>
    simp only [Bool.false_eq_true,if_false]
    refine ⟨_,⟨by omega,YZ.refl m,by simp [Qb.setW,runs],rfl,rfl,rfl,rfl,rfl,st, ?_,rfl⟩,fun _=>.inr ⟨hs,hp,rfl,QV (by simp) (by simp),tr,rfl⟩⟩
    exact ⟨by simp,by simp,by simp,by simp,by simp,by simp,L.gr,fun _ _=>hh,by simp,by simp,by simp,by simp,by simp,by simp⟩
 · rw [if_neg h17]
   refine QK rfl rfl rfl rfl rfl rfl rfl st ⟨by simp only;omega,by simp only;omega,fun _=>hop,fun a=>L.op0 a,by simp only;omega,by simp only;omega,L.gr,fun _ _=>hh,by simp only;omega,by simp only;omega,by simp only;omega,by simp only;omega,fun _=>⟨_,rfl,hlv h17⟩,fun a=>L.ans a⟩ rfl ?_
   have:J7 ({(m.wk w) with ti:=some t'}:Qa)=J7 (m.wk w):=by unfold J7;rfl
   rw [this];exact tr _
theorem Zj (hw:w<m.ws.length) (k:Qa):(m.setW w k).wk w=k:=by
 unfold Qb.wk Qb.setW;simp only;rw [YV,if_pos ⟨rfl,hw⟩]
theorem Ea (h:MInv n m) (hw:(w:Int)<m.c.wo) {k0:Qa} (l0:k0.live m.c w n (Jr m.M)) (hask:k0.ask=(m.wk w).ask) (hr:J7 k0=J7 (m.wk w)) (h5:k0.st≠5) (s0:(m.wk w).st≠0) (s1:k0.st≠0) {m':Qb} {k':Qa}
 (H:Vu n (m.setW w k0) w m' k'∧Told n (m.setW w k0) w m' k'):Vu n m w m' k'∧Told n m w m' k':=by
 have hwl:w<m.ws.length:=by have:=h.wl;omega
 obtain ⟨⟨z1,z2,z3,a1,a2,a3,a4,a5,a6,a7,a8⟩,b⟩:=H
 have e:=Zj hwl k0
 refine ⟨⟨s0,z2,z3,a1,by rw [a2];unfold Qb.setW;simp only [List.set_set],a3,a4,a5,a6,a7,by rw [a8,e,hask]⟩, ?_⟩
 intro L
 rcases b L with ⟨b1,b2⟩|⟨b1, -⟩
 · rw [e,hr] at b2;exact .inl ⟨b1,b2⟩
 · rw [e] at b1;exact absurd b1 h5
theorem MInv.setW (h:MInv n m) (hw:(w:Int)<m.c.wo) {k0:Qa} (l0:k0.live m.c w n (Jr m.M)) (hr:runs k0≤runs (m.wk w)∨m.evs.length+8≤2007):MInv n (m.setW w k0):=by
 refine ⟨h.mem,h.gd,h.bd,h.ah,h.nw, ?_,by unfold Qb.setW;simp only [List.length_set];exact h.wl,fun k hk=> ?_⟩
 · have e5:=h.ev;have hwl:=h.wl;have wo:=h.mem.cf.1
   show (m.evs.length:Int)+ZW (m.ws.set w k0)≤2007
   rcases hr with hr|hr
   · rw [Gc _ _ _ (by omega)];unfold Qb.wk at hr;omega
   · have:=Yn (m.ws.set w k0);rw [List.length_set] at this;omega
 have hwl:=h.wl
 have:(m.setW w k0).wk k=if k=w then k0 else m.wk k:=by
  unfold Qb.wk Qb.setW;simp only;rw [YV]
  by_cases hk:k=w
  · rw [if_pos ⟨hk,by omega⟩,if_pos hk]
  · rw [if_neg (fun e=>hk e.1),if_neg hk]
 rw [this]
 split
 · rename_i e;rw [e];exact l0
 · exact h.wk k hk
theorem Q0U (h:MInv n m) (hn:n≤1000000000) (hw:(w:Int)<m.c.wo) (hs:(m.wk w).st=6):∃k',Vu n m w (Z6 m w) k'∧Told n m w (Z6 m w) k':=by
 have L:=h.wk w hw
 have hh:=L.half (by omega) (by omega)
 have hop:=L.op (by omega)
 have ho:=L.op0 (by omega)
 have hwl:w<m.ws.length:=by have:=h.wl;omega
 unfold Z6
 simp only
 split
 · have l0:({(m.wk w) with st:=7}:Qa).live m.c w n (Jr m.M):=⟨by simp,by simp,fun _=>hop,fun _=>ho,by simp,by simp [hh],L.gr,by simp,by simp,by simp,by simp,by simp,by simp,by simp⟩
   obtain ⟨k',H⟩:=U3 (h.setW hw l0 (.inl (by unfold runs;simp;omega))) hn hw (by rw [Zj hwl])
   exact ⟨k',Ea h hw l0 rfl (by rw [QV (by simp) (by simp),QV (by omega) (by omega)]) (by simp) (by omega) (by simp) H⟩
 · have l0:({(m.wk w) with qu:=some (Jc w),st:=8}:Qa).live m.c w n (Jr m.M):=
    ⟨by simp,by simp,fun _=>hop,fun _=>ho,by simp,by simp,L.gr,fun _ _=>hh,by simp,by simp,by simp,fun _=>⟨_,rfl,⟨⟨⟨by simp [Jc],by simp [Jc]⟩,by simp [Jc],by simp [Jc],by simp [Jc]⟩,by simp [Jc],by simp [Jc],hw,by simp [Jc]⟩,.inl rfl,rfl⟩,by simp,by simp⟩
   obtain ⟨k',H⟩:=Wh (h.setW hw l0 (.inl (by unfold runs;simp;omega))) hn hw (by rw [Zj hwl])
   exact ⟨k',Ea h hw l0 rfl (by rw [QV (by simp) (by simp),QV (by omega) (by omega)]) (by simp) (by omega) (by simp) H⟩
theorem Ye (h:MInv n m) (hn:n≤1000000000) (hw:(w:Int)<m.c.wo) (hs:(m.wk w).st≠0):∃k',Vu n m w (QJ m w) k'∧Told n m w (QJ m w) k':=by
 have L:=h.wk w hw
 have s:(m.wk w).st=1∨(m.wk w).st=2∨(m.wk w).st=3∨(m.wk w).st=4∨(m.wk w).st=5∨(m.wk w).st=6∨(m.wk w).st=7∨(m.wk w).st=8:=by have:=L.s0;have:=L.s1;omega
 unfold QJ
 simp only
 rcases s with s|s|s|s|s|s|s|s
 · rw [if_pos s];exact Q4O h hn hw s
 · rw [if_neg (by omega),if_pos s];exact Q23 h hn hw s
 · rw [if_neg (by omega),if_neg (by omega),if_pos s];exact Q1D h hn hw s
 · rw [if_neg (by omega),if_neg (by omega),if_neg (by omega),if_pos s];exact Q1z h hn hw s
 · rw [if_neg (by omega),if_neg (by omega),if_neg (by omega),if_neg (by omega),if_pos s];exact Q0v h hn hw s
 · rw [if_neg (by omega),if_neg (by omega),if_neg (by omega),if_neg (by omega),if_neg (by omega),if_pos s];exact Q0U h hn hw s
 · rw [if_neg (by omega),if_neg (by omega),if_neg (by omega),if_neg (by omega),if_neg (by omega),if_neg (by omega),if_pos s];exact U3 h hn hw s
 · rw [if_neg (by omega),if_neg (by omega),if_neg (by omega),if_neg (by omega),if_neg (by omega),if_neg (by omega),if_neg (by omega),if_pos s];exact Wh h hn hw s
end
end Go.Proofs.YtgjklfmnmljilaaGreatDoor

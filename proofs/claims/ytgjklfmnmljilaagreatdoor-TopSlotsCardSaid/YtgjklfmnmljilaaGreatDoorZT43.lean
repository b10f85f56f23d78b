/- A part of the proof: TqI to TqJ. -/
import Derived.Test.YtgjklfmnmljilaaGreatDoorZT37
namespace Go.Proofs.YtgjklfmnmljilaaGreatDoor
set_option linter.unusedVariables false
set_option linter.unusedSimpArgs false
set_option linter.unusedSectionVars false
set_option linter.unnecessarySimpa false
set_option maxRecDepth 100000
set_option maxHeartbeats 8000000
section
structure Jo where
 who:List Int
 gen:List Int
 str:List (List Bool)
def Jo.has (h:Jo) (who:Int) (a:XL):Bool:=if a.slot<0∨(h.who.length:Int)≤a.slot then false else decide (h.who.getD a.slot.toNat 0=who+1)&&decide (h.gen.getD a.slot.toNat 0=a.gen)
def KI (h:Jo) (x:EvV):Option Jo:=
 if x.ended=false∨x.e≠0 then some h
 else if x.ask.op=0 then
  (if x.slot<0∨(h.who.length:Int)≤x.slot then none
  else some {who:=h.who.set x.slot.toNat (x.who+1),gen:=h.gen.set x.slot.toNat x.gen,str:=h.str.set x.slot.toNat (List.replicate 8 false)})
 else if x.ask.op=1∨x.ask.op=2 then some (if h.has x.who x.ask then {h with who:=h.who.set x.ask.slot.toNat 0} else h)
 else if x.ask.op=3∨x.ask.op=4 then
  (if h.has x.who x.ask=false∨x.stream<0∨7<x.stream then none
  else if (h.str.getD x.ask.slot.toNat []).getD x.stream.toNat false=decide (x.ask.op=3) then none
  else some {h with str:=h.str.set x.ask.slot.toNat ((h.str.getD x.ask.slot.toNat []).set x.stream.toNat (decide (x.ask.op=3)))})
 else some h
def Xf (sl:Int):Jo:=⟨List.replicate sl.toNat 0,List.replicate sl.toNat 0,List.replicate sl.toNat []⟩
def XP (sl:Int) (l:List EvV):Option Jo:=l.foldl (fun o x=>o.bind fun h=>KI h x) (some (Xf sl))
theorem Y8 (sl:Int) (l:List EvV) (x:EvV):XP sl (l++[x])=(XP sl l).bind fun h=>KI h x:=by unfold XP;rw [List.foldl_append];rfl
structure HOk (sl wo:Int) (h:Jo):Prop where
 w:(h.who.length:Int)=sl
 g:(h.gen.length:Int)=sl
 s:(h.str.length:Int)=sl
 r:∀i:Int,0≤i→i<sl→0≤h.who.getD i.toNat 0∧h.who.getD i.toNat 0≤wo
 b:∀i:Int,0≤i→i<sl→h.who.getD i.toNat 0≠0→(h.str.getD i.toNat []).length=8
def YU (h:Jo) (i:Int):Int:=if 0≤i then h.who.getD i.toNat 0 else 0
def Kt (h:Jo) (i:Int):Int:=if 0≤i then h.gen.getD i.toNat 0 else 0
def Kr (h:Jo) (i:Int) (n:Nat):Bool:=if 0≤i then (h.str.getD i.toNat []).getD n false else false
theorem X5 {α:Type} (L:List α) (i k:Nat) (x d:α) (h:i<L.length):(L.set i x).getD k d=if k=i then x else L.getD k d:=by
 rw [List.getD_eq_getElem?_getD,List.getD_eq_getElem?_getD,List.getElem?_set]
 by_cases e:i=k
 · subst e;simp [h]
 · rw [if_neg e,if_neg (fun a=>e a.symm)]
theorem EH {α:Type} (L:List α) (i:Int) (x d:α) (h0:0≤i) (h:i<L.length):(fun j:Int=>if 0≤j then (L.set i.toNat x).getD j.toNat d else d)=fun j=>if j=i then x else if 0≤j then L.getD j.toNat d else d:=by
 funext j
 by_cases hj:0≤j
 · rw [if_pos hj,X5 _ _ _ _ _ (by omega),if_pos hj]
   by_cases e:j=i
   · rw [if_pos e,if_pos (by omega)]
   · rw [if_neg e,if_neg (by omega)]
 · rw [if_neg hj,if_neg (by omega),if_neg hj]
theorem rep8 (m:Nat):(List.replicate 8 false).getD m false=false:=by
 rw [List.getD_eq_getElem?_getD]
 cases h:(List.replicate 8 false)[m]? with
 |none=>rfl
 |some x=>have:=List.mem_of_getElem? h;rw [(List.mem_replicate.1 this).2];rfl
variable {c:Q0} {n:Int} {m:Qb}
structure Yx (n:Int) (m:Qb) (h:Jo):Prop where
 mi:MInv n m
 low:Low m.c n m.M
 ev:XP m.c.sl m.evs=some h
 ok:HOk m.c.sl m.c.wo h
 ai:JQ (LM m.c m.M) (GM m.c m.M) (Jr m.M) (YU h) (Kt h) (Kr h) (fun k=>J7 (m.wk k))
theorem Q0K {m m':Qb} {w:Nat} {k':Qa} (e1:m'.wk w=k') (e2:∀k,k≠w→m'.wk k=m.wk k):(fun k=>J7 (m'.wk k))=upR (fun k=>J7 (m.wk k)) w (J7 k'):=by
 funext k;unfold upR;split
 · rename_i e;rw [e,e1]
 · rename_i e;rw [e2 k e]
theorem Q4k {L:Int→Option (Int×Int×Int)} {G:Int→Int} {shut:Prop} {ρ:Nat→Xe} {h:Jo} {w:Nat} {k:Qa} {shut':Prop} {at_:Int} (hl:k.live c w n shut') (hwo:(w:Int)<c.wo) (h5:k.st=5) (hp:k.parks=false) (ho:HOk c.sl c.wo h) (hr:ρ w=J7 k)
 (ha:JQ L G shut (YU h) (Kt h) (Kr h) ρ):∃h',KI h {k.ans with ended:=true,who:=w,at_:=at_,ask:=k.ask}=some h'∧HOk c.sl c.wo h'∧JQ L G shut (YU h') (Kt h') (Kr h') (upR ρ w .no):=by
 obtain ⟨o0,o1⟩:=hl.op (by omega)
 obtain ⟨lw,lg,ls,lr,lb⟩:=ho
 by_cases he:k.ans.e=0
 · have hans:=hl.ans h5 hp he
   have R:=WQ h5 hp he
   have ops:k.ask.op=0∨(k.ask.op=1∨k.ask.op=2)∨(k.ask.op=3∨k.ask.op=4)∨(5≤k.ask.op):=by omega
   unfold KI
   simp only
   rw [if_neg (by simp [he])]
   rcases ops with a|a|a|a
   · rw [if_pos a] at R ⊢
     obtain ⟨i0,i1⟩:=hans.1 a
     rw [if_neg (by omega)]
     have t:=ha.Q8p (hr.trans R)
     refine ⟨_,rfl,⟨by simp [lw],by simp [lg],by simp [ls],fun i h0 h1=> ?_, ?_⟩, ?_⟩
     · simp only
       rw [X5 _ _ _ _ _ (by omega)]
       split
       · omega
       · exact lr i h0 h1
     · intro i h0 h1
       simp only
       rw [X5 _ _ _ _ _ (by omega),X5 _ _ _ _ _ (by omega)]
       split
       · intro _;simp
       · exact lb i h0 h1
     · have e1:=EH h.who k.ans.slot ((w:Int)+1) 0 i0 (by omega)
       have e2:=EH h.gen k.ans.slot k.ans.gen 0 i0 (by omega)
       have e3:=EH h.str k.ans.slot (List.replicate 8 false) [] i0 (by omega)
       have f1:YU {who:=h.who.set k.ans.slot.toNat ((w:Int)+1),gen:=h.gen.set k.ans.slot.toNat k.ans.gen,str:=h.str.set k.ans.slot.toNat (List.replicate 8 false)}=fun j=>if j=k.ans.slot then (w:Int)+1 else YU h j:=e1
       have f2:Kt {who:=h.who.set k.ans.slot.toNat ((w:Int)+1),gen:=h.gen.set k.ans.slot.toNat k.ans.gen,str:=h.str.set k.ans.slot.toNat (List.replicate 8 false)}=fun j=>if j=k.ans.slot then k.ans.gen else Kt h j:=e2
       have f3:Kr {who:=h.who.set k.ans.slot.toNat ((w:Int)+1),gen:=h.gen.set k.ans.slot.toNat k.ans.gen,str:=h.str.set k.ans.slot.toNat (List.replicate 8 false)}=fun j n=>if j=k.ans.slot then false else Kr h j n:=by
        funext j m
        have:=congrFun e3 j
        unfold Kr
        by_cases hj:0≤j
        · simp only [if_pos hj] at this ⊢
          rw [this]
          split
          · exact rep8 m
          · rfl
        · simp only [if_neg hj];split<;>rfl
       rw [f1,f2,f3];exact t
   · rw [if_neg (by omega),if_pos a] at R ⊢
     have t:=ha.Q6i (hr.trans R)
     refine ⟨_,rfl, ?_, ?_⟩
     · split
       · refine ⟨by simp [lw],lg,ls,fun i h0 h1=> ?_,fun i h0 h1=> ?_⟩
         · simp only
           by_cases hs:k.ask.slot.toNat<h.who.length
           · rw [X5 _ _ _ _ _ hs]
             split
             · have:=lr i h0 h1;omega
             · exact lr i h0 h1
           · rw [List.set_eq_of_length_le (by omega)];exact lr i h0 h1
         simp only
         by_cases hs:k.ask.slot.toNat<h.who.length
         · rw [X5 _ _ _ _ _ hs]
           split
           · intro x;exact absurd rfl x
           · exact lb i h0 h1
         · rw [List.set_eq_of_length_le (by omega)];exact lb i h0 h1
       · exact ⟨lw,lg,ls,lr,lb⟩
     · have e:(fun j=>if j=k.ask.slot∧YU h j=(w:Int)+1∧Kt h j=k.ask.gen then 0 else YU h j)=YU (if h.has w k.ask=true then {h with who:=h.who.set k.ask.slot.toNat 0} else h):=by
        funext j
        unfold Jo.has
        by_cases hin:k.ask.slot<0∨(h.who.length:Int)≤k.ask.slot
        · rw [if_pos hin]
          simp only [Bool.false_eq_true,if_false]
          rw [if_neg]
          rintro ⟨e1,e2, -⟩
          unfold YU at e2
          split at e2
          · rw [List.getD_eq_getElem?_getD,List.getElem?_eq_none (by omega)] at e2
            simp at e2;omega
          · omega
        · rw [if_neg hin]
          have ew:YU h k.ask.slot=h.who.getD k.ask.slot.toNat 0:=by unfold YU;rw [if_pos (by omega)]
          have eg:Kt h k.ask.slot=h.gen.getD k.ask.slot.toNat 0:=by unfold Kt;rw [if_pos (by omega)]
          by_cases hm:h.who.getD k.ask.slot.toNat 0=(w:Int)+1∧h.gen.getD k.ask.slot.toNat 0=k.ask.gen
          · simp only [hm.1,hm.2,decide_true,Bool.and_true,if_true]
            have:=congrFun (EH h.who k.ask.slot 0 0 (by omega) (by omega)) j
            show _=(if 0≤j then (h.who.set k.ask.slot.toNat 0).getD j.toNat 0 else 0)
            rw [this]
            by_cases hj:j=k.ask.slot
            · rw [if_pos ⟨hj,by rw [hj,ew];exact hm.1,by rw [hj,eg];exact hm.2⟩,if_pos hj]
            · rw [if_neg (fun x=>hj x.1),if_neg hj];rfl
          · have:(decide (h.who.getD k.ask.slot.toNat 0=(w:Int)+1)&&decide (h.gen.getD k.ask.slot.toNat 0=k.ask.gen))=false:=by
             by_cases h1:h.who.getD k.ask.slot.toNat 0=(w:Int)+1
             · have:¬h.gen.getD k.ask.slot.toNat 0=k.ask.gen:=fun x=>hm ⟨h1,x⟩
               rw [decide_eq_false this,Bool.and_false]
             · rw [decide_eq_false h1,Bool.false_and]
            rw [this,if_neg,if_neg (by simp)]
            rintro ⟨e1,e2,e3⟩
            rw [e1,ew] at e2;rw [e1,eg] at e3
            exact hm ⟨e2,e3⟩
       rw [e] at t
       have e2:Kt (if h.has w k.ask=true then {h with who:=h.who.set k.ask.slot.toNat 0} else h)=Kt h:=by split<;>rfl
       have e3:Kr (if h.has w k.ask=true then {h with who:=h.who.set k.ask.slot.toNat 0} else h)=Kr h:=by split<;>rfl
       rw [e2,e3];exact t
   · rw [if_neg (by omega),if_neg (by omega),if_pos a] at R ⊢
     obtain ⟨n0,n1⟩:=hans.2 a
     have hr':=hr.trans R
     obtain ⟨d1,d2,d3,d4⟩:=ha.D w _ _ _ _ hr'
     have t:=ha.Q6h hr'
     have hin:0≤k.ask.slot∧k.ask.slot<h.who.length:=by
      unfold YU at d1
      split at d1
      · rename_i h0
        refine ⟨h0, ?_⟩
        by_cases hx:k.ask.slot<h.who.length
        · exact hx
        · rw [List.getD_eq_getElem?_getD,List.getElem?_eq_none (by omega)] at d1
          simp at d1;omega
      · omega
     have ew:YU h k.ask.slot=h.who.getD k.ask.slot.toNat 0:=by unfold YU;rw [if_pos (by omega)]
     have eg:Kt h k.ask.slot=h.gen.getD k.ask.slot.toNat 0:=by unfold Kt;rw [if_pos (by omega)]
     have es:Kr h k.ask.slot k.ans.stream.toNat=(h.str.getD k.ask.slot.toNat []).getD k.ans.stream.toNat false:=by unfold Kr;rw [if_pos hin.1]
     have hh:h.has w k.ask=true:=by unfold Jo.has;rw [if_neg (by omega),←ew,←eg,d1,d2];simp
     have l8:=lb k.ask.slot hin.1 (by omega) (by rw [←ew,d1];omega)
     rw [if_neg (by rw [hh];simp;omega),if_neg (by rw [←es,d4];cases decide (k.ask.op=3)<;>simp)]
     refine ⟨_,rfl,⟨lw,lg,by simp [ls],lr,fun i h0 h1 h2=> ?_⟩, ?_⟩
     · simp only
       rw [X5 _ _ _ _ _ (by omega)]
       split
       · rw [List.length_set];exact l8
       · exact lb i h0 h1 h2
     · have e:(fun j m=>if j=k.ask.slot∧m=k.ans.stream.toNat then decide (k.ask.op=3) else Kr h j m)=Kr {h with str:=h.str.set k.ask.slot.toNat ((h.str.getD k.ask.slot.toNat []).set k.ans.stream.toNat (decide (k.ask.op=3)))}:=by
        funext j m
        unfold Kr
        simp only
        by_cases hj:0≤j
        · rw [if_pos hj,if_pos hj,X5 _ _ _ _ _ (by omega)]
          by_cases e:j=k.ask.slot
          · rw [if_pos (show j.toNat=k.ask.slot.toNat by omega),X5 _ _ _ _ _ (by omega)]
            by_cases em:m=k.ans.stream.toNat
            · rw [if_pos ⟨e,em⟩,if_pos em]
            · rw [if_neg (fun x=>em x.2),if_neg em,e]
          · rw [if_neg (fun x=>e x.1),if_neg (show ¬j.toNat=k.ask.slot.toNat by omega)]
        · rw [if_neg hj,if_neg hj,if_neg (by rintro ⟨x, -⟩;omega)]
       rw [e] at t;exact t
   · rw [if_neg (by omega),if_neg (by omega),if_neg (by omega)] at R ⊢
     exact ⟨h,rfl,⟨lw,lg,ls,lr,lb⟩,by rw [←hr.trans R,Yj];exact ha⟩
 · refine ⟨h, ?_,⟨lw,lg,ls,lr,lb⟩, ?_⟩
   · unfold KI;rw [if_pos (.inr he)]
   · rw [←JC h5 (.inr (.inl he)),←hr,Yj];exact ha
theorem Yx.step {h:Jo} {w:Nat} (I:Yx n m h) (hn:n≤4000) (hw:(w:Int)<m.c.wo) (hs:(m.wk w).st≠0):
 ∃h' k',Yx (n+1) (QJ m w) h'∧Vu n m w (QJ m w) k':=by
 obtain ⟨k',sr,told'⟩:=Ye I.mi (by omega) hw hs
 have told:=told' ⟨I.low,hn⟩
 have lw:=sr.st.low I.low I.mi.mem
 obtain ⟨mi,e1,e2⟩:=sr.inv I.mi hw
 have RU:=Q0K e1 e2
 rcases told with ⟨ev,tr⟩|⟨h5,hp,k0,kr,tr,ev⟩
 · refine ⟨h,k',⟨mi,by rw [sr.c];exact lw,by rw [ev,sr.c];exact I.ev,by rw [sr.c];exact I.ok, ?_⟩,sr⟩
   rw [RU,sr.c]
   exact tr.inv I.ai rfl sr.st.sh
 · have a1:=(tr (J7 (m.wk w))).inv I.ai rfl sr.st.sh
   rw [show J7 (m.wk w)=(fun k=>J7 (m.wk k)) w from rfl,Yj] at a1
   obtain ⟨h',t1,t2,t3⟩:=Q4k (at_:=m.at_) (I.mi.wk w hw) hw h5 hp I.ok rfl a1
   refine ⟨h',k',⟨mi,by rw [sr.c];exact lw,by rw [ev,sr.c,Y8,I.ev];exact t1,by rw [sr.c];exact t2, ?_⟩,sr⟩
   rw [RU,sr.c,kr];exact t3
structure Q87 (n:Int) (m:Qb) (x:QF) (m':Qb) (did:Bool) (h':Jo):Prop where
 ask:∀k:Nat,(k:Int)<m.c.wo→(m'.wk k).st≠0→((m.wk k).st≠0∧(m'.wk k).ask=(m.wk k).ask∧¬(x.kind=0∧did=true∧x.who=k))∨(x.kind=0∧did=true∧x.who=k∧(m'.wk k).ask=x.ask)
 inr:x.kind=0→did=true→0≤x.who∧x.who<m.c.wo
 inv:Yx (n+1) m' h'
 c:m'.c=m.c
 st:StM m.c (n+1) m.M m'.M
theorem Yx.same {h:Jo} (I:Yx n m h) {m':Qb} (mi:MInv n m') (e1:m'.c=m.c) (e2:m'.M=m.M) (e3:m'.ws=m.ws) (e4:m'.evs=m.evs):Yx n m' h:=by
 have W:∀k,m'.wk k=m.wk k:=fun k=>by unfold Qb.wk;rw [e3]
 exact ⟨mi,by rw [e1,e2];exact I.low,by rw [e1,e4];exact I.ev,by rw [e1];exact I.ok,by rw [e1,e2];simp only [W];exact I.ai⟩
theorem MInv.mono (h:MInv n m):MInv (n+1) m:=
 ⟨h.mem.mono (by omega),by have:=h.gd;omega,by have:=h.bd;omega,h.ah,h.nw,h.ev,h.wl,fun k hk=>(h.wk k hk).mono (by omega) id⟩
theorem Yx.mono {h:Jo} (I:Yx n m h):Yx (n+1) m h:=
 ⟨I.mi.mono,fun i=>by have:=I.low i;omega,I.ev,I.ok,I.ai⟩
theorem Yx.do_ {h:Jo} (I:Yx n m h) (hn:n≤4000) (x:QF):∃h',Q87 n m x (doV m x).1 (doV m x).2 h':=by
 have B:=I.same (m':={m with at_:=m.entries,entries:=m.entries+1}) ⟨I.mi.mem,I.mi.gd,I.mi.bd,I.mi.ah,I.mi.nw,I.mi.ev,I.mi.wl,I.mi.wk⟩ rfl rfl rfl rfl
 have S:∀(m':Qb) (did:Bool),(x.kind=0→did=false)→MInv n m'→m'.c=m.c→m'.M=m.M→m'.ws=m.ws→m'.evs=m.evs→∃h',Q87 n m x m' did h':=fun m' did z mi a b d e=>by
  have W:∀k,m'.wk k=m.wk k:=fun k=>by unfold Qb.wk;rw [d]
  exact ⟨h,⟨fun k hk h1=>.inl ⟨by rw [←W k];exact h1,by rw [W k],fun y=>by rw [z y.1] at y;exact absurd y.2.1 (by simp)⟩,fun y1 y2=>absurd y2 (by rw [z y1];simp),(I.same mi a b d e).mono,a,by rw [b];exact I.mi.mem.stays⟩⟩
 unfold doV
 simp only
 generalize hb:({m with at_:=m.entries,entries:=m.entries+1}:Qb)=b at*
 have bc:b.c=m.c:=by rw [←hb]
 have bM:b.M=m.M:=by rw [←hb]
 have bws:b.ws=m.ws:=by rw [←hb]
 have bev:b.evs=m.evs:=by rw [←hb]
 clear hb
 have bW:∀k,b.wk k=m.wk k:=fun k=>by unfold Qb.wk;rw [bws]
 by_cases h0:x.kind=0
 · rw [if_pos h0]
   unfold YA
   split
   · rename_i hc
     obtain ⟨hhas,hst,hlen,ho0,ho1⟩:=hc
     unfold Qb.has at hhas
     rw [Bool.and_eq_true,decide_eq_true_eq,decide_eq_true_eq] at hhas
     have hwl:=B.mi.wl
     obtain ⟨w,hw⟩:∃w:Nat,x.who=w:=⟨x.who.toNat,by omega⟩
     rw [hw] at hhas hst ⊢
     simp only [Int.toNat_natCast] at hst ⊢
     have hwo:(w:Int)<b.c.wo:=by omega
     have e1:=Zj (m:=b) (w:=w) (by omega) {Jd with st:=1,ask:=x.ask}
     have e2:∀k,k≠w→(b.setW w {Jd with st:=1,ask:=x.ask}).wk k=b.wk k:=fun k hk=>by unfold Qb.wk Qb.setW;simp only;rw [YV,if_neg (fun e=>hk e.1)]
     have l0:({Jd with st:=1,ask:=x.ask}:Qa).live b.c w n (Jr b.M):=⟨by simp,by simp,fun _=>⟨ho0,ho1⟩,by simp,by simp [Jd],by simp,by simp [Jd],by simp,by simp,by simp,by simp,by simp,by simp,by simp⟩
     have e5:=Yn b.ws
     have mi:=B.mi.setW hwo l0 (.inr (by omega))
     refine ⟨h,⟨fun k hk _=> ?_,fun _ _=>by rw [hw,←bc];omega, ?_,by rw [←bc];rfl,by rw [←bc,←bM];exact B.mi.mem.stays⟩⟩
     · by_cases e:k=w
       · right;subst e;exact ⟨h0,rfl,hw,congrArg Qa.ask e1⟩
       · left
         have e3:=e2 k e
         have:({b with evs:=b.evs++[{ev0 with who:=(w:Int),at_:=b.at_,ask:=x.ask}]}.setW w {Jd with st:=1,ask:=x.ask}:Qb).wk k=m.wk k:=by rw [←bW k];exact e3
         rename_i hst'
         rw [this] at hst' ⊢
         exact ⟨hst',rfl,fun y=>e (by have:=y.2.2;omega)⟩
     have T:Yx n ({b with evs:=b.evs++[{ev0 with who:=(w:Int),at_:=b.at_,ask:=x.ask}]}.setW w {Jd with st:=1,ask:=x.ask}) h:=by
      have r0:runs (b.wk w)=0:=by unfold runs;rw [if_pos hst]
      have wo8:=B.mi.mem.cf.1
      have e6:=Yn (b.ws.set w {Jd with st:=1,ask:=x.ask})
      rw [List.length_set] at e6
      have e7:ZW (b.ws.set w {Jd with st:=1,ask:=x.ask})≤8:=by omega
      refine ⟨⟨mi.mem,mi.gd,mi.bd,mi.ah,mi.nw, ?_,mi.wl,mi.wk⟩,B.low, ?_,B.ok, ?_⟩
      · show ((b.evs++[_]).length:Int)+ZW (b.ws.set w {Jd with st:=1,ask:=x.ask})≤2007
        rw [List.length_append,List.length_singleton];omega
      · show XP b.c.sl (b.evs++[_])=some h
        rw [Y8,B.ev];rfl
      · have RU:=Q0K (m:=b) e1 e2
        have r0:J7 ({Jd with st:=1,ask:=x.ask}:Qa)=J7 (b.wk w):=by rw [QV (by simp) (by simp),QV (by omega) (by omega)]
        have:(fun k=>J7 ((b.setW w {Jd with st:=1,ask:=x.ask}).wk k))=fun k=>J7 (b.wk k):=by rw [RU,r0];exact Yj _ _
        show JQ (LM b.c b.M) (GM b.c b.M) (Jr b.M) (YU h) (Kt h) (Kr h) (fun k=>J7 ((b.setW w {Jd with st:=1,ask:=x.ask}).wk k))
        rw [this];exact B.ai
     exact T.mono
   · exact S b _ (fun _=>rfl) B.mi bc bM bws bev
 · rw [if_neg h0]
   by_cases h1:x.kind=1
   · rw [if_pos h1]
     unfold KW
     split
     · rename_i hhas
       unfold Qb.has at hhas
       rw [Bool.and_eq_true,decide_eq_true_eq,decide_eq_true_eq] at hhas
       have hwl:=B.mi.wl
       obtain ⟨w,hw⟩:∃w:Nat,x.who=w:=⟨x.who.toNat,by omega⟩
       rw [hw] at hhas ⊢
       simp only [Int.toNat_natCast]
       split
       · exact S b _ (fun _=>rfl) B.mi bc bM bws bev
       · rename_i hc
         have hst0:(b.wk w).st≠0:=fun e=>hc (.inl e)
         obtain ⟨h',k',i,s⟩:=B.step hn (w:=w) (by omega) hst0
         obtain ⟨-,f1,f2⟩:=s.inv B.mi (by omega)
         refine ⟨h',⟨fun k hk hs=>.inl ?_,fun y=>absurd y h0,i,by rw [←bc];exact s.c,by rw [←bc,←bM];exact s.st⟩⟩
         by_cases e:k=w
         · rw [e,f1,←bW w];exact ⟨hst0,s.ask,fun y=>h0 y.1⟩
         · rw [f2 k e,bW k] at hs ⊢;exact ⟨hs,rfl,fun y=>h0 y.1⟩
     · exact S b _ (fun _=>rfl) B.mi bc bM bws bev
   · rw [if_neg h1]
     by_cases h2:x.kind=2
     · rw [if_pos h2];exact S _ _ (fun y=>absurd y h0) ⟨I.mi.mem,I.mi.gd,I.mi.bd,I.mi.ah,by have:=I.mi.nw;simp only;omega,I.mi.ev,I.mi.wl,I.mi.wk⟩ rfl rfl rfl rfl
     · rw [if_neg h2]
       by_cases h3:x.kind=3
       · rw [if_pos h3]
         split
         · exact S _ _ (fun y=>absurd y h0) ⟨I.mi.mem,I.mi.gd,I.mi.bd,by simp only [List.length_append,List.length_singleton];omega,I.mi.nw,I.mi.ev,I.mi.wl,I.mi.wk⟩ rfl rfl rfl rfl
         · exact S b _ (fun y=>absurd y h0) B.mi bc bM bws bev
       · rw [if_neg h3]
         by_cases h4:x.kind=4
         · rw [if_pos h4]
           unfold YD
           by_cases hn:Q5 b.c x.ask.slot<0
           · rw [if_pos hn];exact S b _ (fun y=>absurd y h0) B.mi bc bM bws bev
           · rw [if_neg hn]
             have hi:0≤x.ask.slot∧x.ask.slot<b.c.sl:=by
              by_cases hi:0≤x.ask.slot∧x.ask.slot<b.c.sl
              · exact hi
              · rw [X6 _ hi] at hn;omega
             obtain ⟨a1,a2,a3⟩:=B.mi.mem.at x.ask.slot
             cases ha:J6 (Q7 b.M (Q5 b.c x.ask.slot)) 13 0 0 with
             |none=>simp only;exact S b _ (fun y=>absurd y h0) B.mi bc bM bws bev
             |some y=>
              obtain ⟨s,hds,hu,he⟩:=Jz ha
              obtain ⟨u,nx⟩:=y
              simp only at hu he ⊢
              subst he
              rw [a3] at hds;cases hds
              have hr:=Jw a1 hu
              have e:Qz b.M (Q5 b.c x.ask.slot) u.enc=Ym b.c b.M x.ask.slot u:=by
               have:=B.mi.mem.Uf hi
               unfold Ym Q5;rw [if_pos hi];exact JG this.1 this.2
              rw [e]
              have st:=B.mi.mem.Q6s hi hu
              have tr:Tr b.c 0 b.M (Ym b.c b.M x.ask.slot u) (J7 (b.wk 0)) (J7 (b.wk 0)):=Zh B.mi.mem rfl (B.mi.mem.Q3Z hi hr) (B.mi.mem.Q40 hi hr) (Xt hu (by simp)) _
              have ai:=tr.inv B.ai rfl st.sh
              rw [show J7 (b.wk 0)=(fun k=>J7 (b.wk k)) 0 from rfl,Yj] at ai
              refine ⟨h,⟨fun k hk hs=>.inl ⟨by rw [←bW k];exact hs,by rw [←bW k];rfl,fun y=>h0 y.1⟩,fun y=>absurd y h0,⟨⟨st.ok,B.mi.mono.gd,B.mi.mono.bd,B.mi.ah,B.mi.nw,B.mi.ev,B.mi.wl,fun k hk=>(B.mi.wk k hk).mono (by omega) st.sh⟩,st.low B.low B.mi.mem,B.ev,B.ok,ai⟩,bc,by rw [←bc,←bM];exact st⟩⟩
         · rw [if_neg h4];exact S b _ (fun y=>absurd y h0) B.mi bc bM bws bev
end
section
variable {c:Q0} {n:Int} {m:Qb}
theorem KZ (c:Q0) (k:Nat):(QH c).wk k=Jd:=by
 unfold Qb.wk QH;simp only
 rw [List.getD_eq_getElem?_getD]
 cases h:(List.replicate c.wo.toNat Jd)[k]? with
 |none=>rfl
 |some x=>have:=List.mem_of_getElem? h;rw [(List.mem_replicate.1 this).2];rfl
theorem Q8H:Q3B 0=[]:=by decide+kernel
theorem Q7c (hc:c.fits):Qm c 0 (QH c).M:=by
 have Z:∀i,Q7 (QH c).M i=0:=fun i=>W9 _ i
 have q:mQ (QH c).M=[]:=by unfold mQ;rw [Z,Q8H]
 refine ⟨hc,by omega, ?_,fun i _ _=>⟨D9,Ue,by rw [Z,Q0C]⟩,by rw [q];exact Ln.nil,by rw [q,Z];rfl,by rw [q];simp,by rw [Z];omega,fun k _ _=>by rw [Z];omega,fun k _ _=>by rw [Z];omega⟩
 have:=hc.1;have:=hc.2.1
 unfold QH;simp only;rw [List.length_replicate];unfold Q0.cells;omega
theorem ES (c:Q0) (i:Int):SL c (QH c).M i=D9:=by
 unfold SL
 rw [show Q7 (QH c).M (Q5 c i)=0 from W9 _ _,Q1C];rfl
theorem Uk {α:Type} (n k:Nat) (d:α):(List.replicate n d).getD k d=d:=by
 rw [List.getD_eq_getElem?_getD]
 cases h:(List.replicate n d)[k]? with
 |none=>rfl
 |some x=>have:=List.mem_of_getElem? h;rw [(List.mem_replicate.1 this).2];rfl
theorem Yx.new (hc:c.fits):Yx 0 (QH c) (Xf c.sl):=by
 have W:∀i,YU (Xf c.sl) i=0:=fun i=>by unfold YU Xf;simp only [Uk];split<;>rfl
 have L:∀i,LM c (QH c).M i=none:=fun i=>by unfold LM;rw [ES];rfl
 have R:∀k,J7 ((QH c).wk k)=.no:=fun k=>by rw [KZ];rfl
 have:=hc.1;have:=hc.2.1
 refine ⟨⟨Q7c hc,⟨by show (0:Int)≤0;omega,by show (0:Int)≤0;omega⟩,⟨by show (0:Int)≤0;omega,by show (0:Int)≤0;omega⟩,by show (0:Nat)≤1000;omega,⟨by show (0:Int)≤0;omega,by show (0:Int)≤1099511627776;omega⟩, ?_, ?_,fun k _=> ?_⟩,fun i=> ?_,rfl,⟨?_, ?_, ?_,fun i _ _=> ?_,fun i _ _ h=> ?_⟩, ?_⟩
 · have:=Yn (QH c).ws
   have h2:((QH c).ws.length:Int)=c.wo:=by show ((List.replicate c.wo.toNat Jd).length:Int)=c.wo;rw [List.length_replicate];omega
   show (([]:List EvV).length:Int)+ZW (QH c).ws≤2007
   simp only [List.length_nil];omega
 · show ((List.replicate c.wo.toNat Jd).length:Int)=c.wo
   rw [List.length_replicate];omega
 · rw [KZ]
   exact ⟨by decide,by decide,fun h=>absurd rfl h,by decide,by decide,by decide,by decide,by decide,by intro h;simp [Jd] at h,by intro h;simp [Jd] at h,by intro h;simp [Jd] at h,by intro h;simp [Jd] at h,by intro h;simp [Jd] at h,by intro h;simp [Jd] at h⟩
 · show (SL c (QH c).M i).ver≤0∧(SL c (QH c).M i).gen≤0
   rw [ES];decide
 · show ((List.replicate c.sl.toNat (0:Int)).length:Int)=c.sl
   rw [List.length_replicate];omega
 · show ((List.replicate c.sl.toNat (0:Int)).length:Int)=c.sl
   rw [List.length_replicate];omega
 · show ((List.replicate c.sl.toNat ([]:List Bool)).length:Int)=c.sl
   rw [List.length_replicate];omega
 · show 0≤(List.replicate c.sl.toNat (0:Int)).getD i.toNat 0∧(List.replicate c.sl.toNat (0:Int)).getD i.toNat 0≤c.wo
   rw [Uk];omega
 · exact absurd (Uk _ _ _) h
 · show JQ (LM c (QH c).M) (GM c (QH c).M) (Jr (QH c).M) (YU (Xf c.sl)) (Kt (Xf c.sl)) (Kr (Xf c.sl)) (fun k=>J7 ((QH c).wk k))
   refine ⟨?_, ?_, ?_, ?_, ?_, ?_, ?_, ?_, ?_, ?_, ?_, ?_, ?_, ?_⟩
   · intro i w g s e;rw [L] at e;cases e
   · intro i k e;rw [W] at e;omega
   · intro k i g e;simp only [R] at e;simp at e
   · intro k i g e;simp only [R] at e;simp at e
   · intro k i g e;simp only [R] at e;cases e
   · intro k k' i g g' e;simp only [R] at e;cases e
   · intro k i g e;simp only [R] at e;cases e
   · intro i e;exact absurd (W i) e
   · intro k i g e;simp only [R] at e;simp at e
   · intro i w g s e;rw [L] at e;cases e
   · intro i w g s e;rw [L] at e;cases e
   · intro k i g s e e2;rw [L] at e2;cases e2
   · intro i k s m e e2;rw [L] at e2;cases e2
   · intro k i g m o e;simp only [R] at e;cases e
def YH (m:Qb) (G:List Bool):Prop:=(G.length:Int)=m.c.wo∧∀k:Nat,(k:Int)<m.c.wo→(m.wk k).st≠0→G.getD k false=decide ((m.wk k).ask.op=1∨(m.wk k).ask.op=2)
theorem YH.new (hc:c.fits):YH (QH c) (List.replicate c.wo.toNat false):=by
 have:=hc.1
 refine ⟨by rw [List.length_replicate];show ((c.wo.toNat:Nat):Int)=c.wo;omega,fun k _ h=>absurd (by rw [KZ];rfl) h⟩
def JO (G:List Bool) (x:QF) (did:Bool):List Bool:=if x.kind=0∧did=true then G.set x.who.toNat (decide (x.ask.op=1∨x.ask.op=2)) else G
theorem YH.next {G:List Bool} (h:YH m G) {x:QF} {m':Qb} {did:Bool} {h':Jo} (d:Q87 n m x m' did h'):YH m' (JO G x did):=by
 unfold JO
 refine ⟨?_,fun k hk hs=> ?_⟩
 · rw [d.c];split
   · rw [List.length_set];exact h.1
   · exact h.1
 · rw [d.c] at hk
   rcases d.ask k hk hs with ⟨a1,a2,a3⟩|⟨a1,a2,a3,a4⟩
   · rw [a2,←h.2 k hk a1]
     split
     · rename_i hx
       obtain ⟨i0,i1⟩:=d.inr hx.1 hx.2
       have:=h.1
       rw [X5 _ _ _ _ _ (by omega),if_neg]
       intro e;exact a3 ⟨hx.1,hx.2,by omega⟩
     · rfl
   · have:=h.1
     rw [if_pos ⟨a1,a2⟩,X5 _ _ _ _ _ (by omega),if_pos (by omega),a4]
theorem Yx.holds {h:Jo} (I:Yx n m h) {G:List Bool} (hG:YH m G) {k:Int} (h0:0≤k) (h1:k<m.c.sl) (hc:Q7 m.M 0≠2) (hw:0<h.who.getD k.toNat 0)
 (hg:G.getD (h.who.getD k.toNat 0 - 1).toNat false=false∨(m.wk (h.who.getD k.toNat 0 - 1).toNat).st=0):(SL m.c m.M k).st=3:=by
 have r:=I.ok.r k h0 h1
 obtain ⟨w,hw'⟩:∃w:Nat,h.who.getD k.toNat 0=w+1:=⟨(h.who.getD k.toNat 0 - 1).toNat,by omega⟩
 have e:YU h k=(w:Int)+1:=by unfold YU;rw [if_pos h0,hw']
 rw [hw'] at hg r
 rw [show ((w:Int)+1 - 1).toNat=w by omega] at hg
 have hwo:(w:Int)<m.c.wo:=by omega
 have hr:J7 (m.wk w)≠.si k (Kt h k):=by
  intro hr
  have hst:(m.wk w).st≠0:=by intro x;rw [QV (by omega) (by omega)] at hr;cases hr
  rcases hg with g|g
  · rw [hG.2 w hwo hst,decide_eq_false_iff_not] at g
    have L:=I.mi.wk w hwo
    unfold J7 at hr
    by_cases h2:(m.wk w).st=2
    · rw [if_pos h2] at hr
      have l2:=L.wk h2
      cases hj:(m.wk w).work<;>rw [hj] at hr l2<;>first|(cases hr;done)|skip
      · rename_i t
        change Z0 t=_ at hr
        unfold Z0 at hr
        split at hr
        · cases hr
        · split at hr
          · cases hr
          · split at hr<;>cases hr
      · exact g l2.1
      · rename_i t
        change KN t=_ at hr
        unfold KN at hr
        split at hr<;>cases hr
    · rw [if_neg h2] at hr
      by_cases h5:(m.wk w).st=5∧(m.wk w).parks=false∧(m.wk w).ans.e=0
      · rw [if_pos h5] at hr
        by_cases o0:(m.wk w).ask.op=0
        · rw [if_pos o0] at hr;cases hr
        · rw [if_neg o0,if_neg g] at hr
          split at hr<;>cases hr
      · rw [if_neg h5] at hr;cases hr
  · exact hst g
 obtain ⟨s,l⟩:=I.ai.Q k w e hr hc
 unfold LM lv at l
 split at l
 · assumption
 · cases l
theorem Q6u {M M':List Int} (hm:Qm c n M) (hlow:Low c n M) (hn:n≤4000) (st:StM c (n+1) M M') (i:Int):
 (Q7 M' (Q5 c i)=Q7 M (Q5 c i)∧(SL c M' i).ver=(SL c M i).ver)∨(SL c M' i).ver=(SL c M i).ver+1:=by
 have v0:=(hm.at i).1.ver0
 have:=hlow i
 rcases st.vr i with e|⟨e, -⟩
 · left;rw [e,(st.ok.at i).2.1,(hm.at i).2.1,e];exact ⟨rfl,rfl⟩
 · right;omega
end
end Go.Proofs.YtgjklfmnmljilaaGreatDoor

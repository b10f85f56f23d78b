/- A part of the proof. -/
import Derived.Test.YtgjklfmnmljilaaGreatDoorZR01
import Derived.RangeFuncBox
import Derived.RangeFuncBound
import Derived.RangeFuncCalls
import Derived.Shelf.Abstract
import Derived.Shelf.RegionOpen
import Derived.OwnWalkIn
import Derived.TacticsInMore
import Derived.LoopNIn
import Derived.LoopIn
import Derived.Maps.AppendAt
import Derived.Deep.AppendLies
import Derived.Laws.Bits64b
import Derived.Deep.RegionHeld
import Derived.Maps.RangeWalk
namespace Go.Proofs.YtgjklfmnmljilaaGreatDoor
set_option linter.unusedVariables false
set_option linter.unusedSimpArgs false
set_option linter.unusedSectionVars false
set_option linter.unnecessarySimpa false
set_option maxRecDepth 100000
set_option maxHeartbeats 8000000
section
open Go.RowKit Go.Shelf
attribute [local go_sem] Oper.semAt_some
def Kg:Nat→Nat→List Int
 |0,_=>[]
 |f+1,n=>if n=0 then [] else ((n:Int) % 16 - 1)::Kg f (n / 16)
theorem GV:∀(f n:Nat),n<16 ^ f→Kg (f+1) n=Kg f n
 |0,n,h=>by simp at h;simp [Kg,h]
 |f+1,n,h=>by
  rw [Kg,show Kg (f+1) n=if n=0 then [] else ((n:Int) % 16 - 1)::Kg f (n / 16) from rfl]
  split
  · rfl
  · rw [GV f (n / 16) (by rw [Nat.div_lt_iff_lt_mul (by decide)];rw [Nat.pow_succ] at h;omega)]
def Zr (n:Nat):List Int:=Kg 16 n
theorem digW_0:Zr 0=[]:=by simp [Zr,Kg]
theorem Q5i {n:Nat} (h0:n≠0) (h:n<16 ^ 16):Zr n=((n:Int) % 16 - 1)::Zr (n / 16):=by
 unfold Zr
 rw [Kg,if_neg h0,GV 15 (n / 16) Lb]
theorem GL:∀(f n:Nat),(Kg f n).length≤f
 |0,_=>by simp [Kg]
 |f+1,n=>by
  rw [Kg];split
  · simp
  · have:=GL f (n / 16);simp;omega
theorem VN (n:Nat):(Zr n).length≤16:=GL 16 n
def Uu (x:Int×Int):Array Value:=#[.int .i64 x.1,.int .i64 x.2]
def Wp (n:Nat):List (Int×Int):=(Zr n).mapIdx fun i x=>((i:Int),x)
theorem Zb (n:Nat):(Wp n).length=(Zr n).length:=by simp [Wp]
theorem Q73 {n k:Nat} {x:Int} (h:(Zr n)[k]?=some x):(Wp n)[k]?=some ((k:Int),x):=by simp [Wp,h]
theorem Q1p (w:World) (b n:Nat) (hn:n<9223372036854775808) (h1:w.heap[b]?=some (.cells #[.int .i64 n] 3)):
 Q7G Tryz.prog w (fun _=>False) (fun x=>x=b) (fun _ _=>True) id 0 261 #[.pointer (some ⟨b,0,none⟩)] Uu (Wp n):=by
 refine ⟨fun b' hb=> ?_,fun _ _ _ _ _=>trivial,fun W l O J Jx hs hC hCO hO hJ hJx hY h0=> ?_⟩
 · rcases hb with h|rfl
   · exact h.elim
   · exact Q9 h1
 have c1:W.heap[b]?=some (.cells #[.int .i64 n] 3):=(hC b (.inr rfl)).trans h1
 refine (callsIn_wide (n:=3)).1 (callsIn_of_wp Tryz.func261 rfl trivial ?_ rfl)
 simp only [Tryz.ntmps261,List.size_toArray,List.length_cons,List.length_nil,Nat.reduceAdd,Nat.reduceSub,Array.replicate_succ,Array.replicate_zero,List.push_toArray,List.append_toArray,List.nil_append,List.cons_append]
 have hb1:=hCO b (.inr rfl)
 have hlen:=Zb n
 have h16:=VN n
 obtain ⟨len,hl⟩:∃len,len=(Zr n).length:=⟨_,rfl⟩
 rw [hlen,←hl]
 rw [←hl] at h16
 have hbs:=Q9 c1
 clear hlen hC hCO hs h1
 have HY:=Lib.hid hY;have HL:=Lib.hid hl;clear hY hl
 gi_wp2
 gi_loopw [3] (fun i wr=>∃(k m:Nat) (O1:Blk),k≤len∧m≤n∧(Zr n).drop k=Zr m∧i=.int .i64 k∧J k wr O1∧wr.heap[b]?=some (.cells #[.int .i64 m] 3)∧Stp (fun x=>O x∨x=b) W wr∧Grw O O1 W wr) (fun i _=>len - (intOf i).toNat)
 case atStart=>exact ⟨0,n,O,Nat.zero_le _,Nat.le_refl _,rfl,rfl,h0,c1,Stp.refl _ _,Grw.refl hO⟩
 case round=>
  obtain ⟨k,m,O1,hk,hm,hd,rfl,hj,hc,hst,hgr⟩:=hrel
  have q1:wr.cell? ⟨b,0,none⟩=some (.int .i64 m):=cell_of (i:=0) hc rfl
  have q2:wr.frozen? ⟨b,0,none⟩=false:=Qb hc
  have HD:=Lib.hid hd;have HC:=Lib.hid hc;clear hd hc
  have hs1:=hst.size
  by_cases hm0:m=0
  · have hkl:k=len:=by
     have h2:=congrArg List.length HD.out
     rw [hm0,digW_0,List.length_drop,List.length_nil] at h2
     have:=HL.out;omega
    subst hm0
    gi_wp2
    go_end0
    refine ⟨⟨_,rfl⟩,.inl ⟨O1, ?_,trivial,hst,hgr⟩⟩
    rw [←hkl];exact hj
  · have hst16:=Q5i hm0 Lb
    have hx:(Zr n)[k]?=some ((m:Int) % 16 - 1):=by
     have h2:((Zr n).drop k)[0]?=some ((m:Int) % 16 - 1):=by rw [HD.out,hst16];rfl
     simpa using h2
    have hd2:(Zr n).drop (k+1)=Zr (m / 16):=by
     rw [←List.drop_drop,HD.out,hst16];rfl
    have hkl:k<len:=by have:=(List.getElem?_eq_some_iff.1 hx).1;have:=HL.out;omega
    obtain ⟨fn,tmps,assign,body,hy,hR⟩:=(HY.out k _ wr O1 (Q73 hx) hj trivial (fun b hb=>(hgr b hb).1)).at 2
    have HD2:=Lib.hid hd2;clear hd2 hx hst16
    unfold Uu at hy
    have hm1:(0:Int)<(m:Int):=Lb
    gi_wp2
    refine hR.mono ?_
    rintro e W2 (⟨rfl,O2,hj2,hst2,hgr2⟩|⟨rfl,O2,hj2,hst2,hgr2⟩)
    · have hbO:¬O1 b:=fun hb=>by rcases (hgr b hb).2 with h|h;exact hb1 h;omega
      have S2:Stp (fun x=>O x∨x=b) W W2:=hst.then hst2 (fun x hx=>(hgr x hx).2.imp .inl id)
      have G2:Grw O O2 W W2:=hgr.then hst.size hgr2
      have c2:W2.heap[b]?=some (.cells #[.int .i64 m] 3):=hst2.at HC.out hbO
      have q3:W2.cell? ⟨b,0,none⟩=some (.int .i64 m):=cell_of (i:=0) c2 rfl
      have q4:W2.frozen? ⟨b,0,none⟩=false:=Qb c2
      have hbO2:¬O2 b:=fun hb=>by rcases (G2 b hb).2 with h|h;exact hb1 h;omega
      clear hy
      gi_wp2
      have c3:=heap_setCell_same (i:=0) c2 (.int .i64 ((m:Int) / 16))
      refine ⟨⟨k+1,m / 16,O2,Lb,Lb,HD2.out,by go_num,hJ.setCell hj2 hbO2 (.inr rfl) _, ?_,S2.setCell (p:=⟨b,0,none⟩) (.inl (.inr rfl)) _,fun x hx=>⟨by simpa [World.setCell] using (G2 x hx).1,(G2 x hx).2⟩⟩,by simp [intOf];omega⟩
      simpa using c3
    · have S2:Stp (fun x=>O x∨x=b) W W2:=hst.then hst2 (fun x hx=>(hgr x hx).2.imp .inl id)
      have G2:Grw O O2 W W2:=hgr.then hst.size hgr2
      clear hy
      gi_wp2
      refine bodyPost_ret (results_none rfl _ _ _) rfl ?_
      exact ⟨⟨_,rfl⟩,.inr ⟨k,O2,hkl,hj2,trivial,S2,G2⟩⟩
theorem Xv {P:Program} {n:Nat} {fn:Func} {R:Ending→World→Prop} {tmps:Array Value} {D:Nat} {W:World} (v:Value) (hK:W.heap[D]?=some (.deferred (some [])))
 (hv:(results fn tmps).run P (W.putObj D (.deferred none))=.ok v (W.putObj D (.deferred none))) (hR:R (.returned v) (W.putObj D (.deferred none))):
 bodyPostM Fence.wide n P fn R .ret {tmps,defers:=[{target:=.collected D,args:=#[]}]} W:=by
 refine ⟨Lc,.inl ⟨_,_,rfl,run_takeDeferred hK, ?_⟩⟩
 exact ⟨v,hv,hR⟩
def Q9o (w:World) (n:Nat) (e:Ending) (w':World):Prop:=
 ∃(v:Value) (g:FuncId) (lb:Array Value),e=.returned v∧v=.func (.func g) #[] lb∧(∀args w,(callFunc g args).run Tryz.prog w=.ok (.enter g args) w)∧
  Q7G Tryz.prog w' (fun _=>False) (fun x=>x=w.heap.size) (fun _ _=>True) id 0 g lb Uu (Wp n)∧Fr [] w w'∧w.heap.size<w'.heap.size
theorem Vj (w:World) (n:Nat) (hn:n<9223372036854775808):Calls Tryz.prog 244 #[.int .i64 (n:Int)] w (Q9o w n):=by
 go_in
 go_wp2
 go_ret
 exact ⟨_,_,_,rfl,rfl,fun _ _=>rfl,Q1p _ _ n hn (heap_alloc_new w _),(Fr.refl [] w).alloc _,Lc⟩
def Xg (w2:World) (E O0:Blk) (ob:Nat→Nat→Obj):Nat→World→Blk→Prop:=fun k W O=>
 O=O0∧(∀b,O0 b→W.heap[b]?=some (ob k b))∧Stp (fun x=>O0 x∨E x) w2 W
theorem Xg.stable (w2:World) (E O0:Blk) (ob:Nat→Nat→Obj) {B:Nat} (hB:w2.heap.size≤B):Xx B E (Xg w2 E O0 ob):=by
 rintro k W _ W' ⟨rfl,h1,hs⟩ e1 e2 e3 e4 e5
 refine ⟨rfl,fun b hb=>(e5 b (.inl hb)).trans (h1 b hb),⟨e1.trans hs.os,e2.trans hs.tape,e3.trans hs.output,Nat.le_trans hs.size e4,fun b hb hn=>(e5 b (.inr ⟨Lb,fun h=>hn (.inr h)⟩)).trans (hs.block b hb hn)⟩⟩
theorem Xg.next {w2 W2 W3:World} {E O0:Blk} {ob ob':Nat→Nat→Obj} {k k':Nat} (h:Xg w2 E O0 ob k W2 O0) (s:Stp O0 W2 W3) (h3:∀b,O0 b→W3.heap[b]?=some (ob' k' b)):
 ∃O',Stp O0 W2 W3∧Grw O0 O' W2 W3∧Xg w2 E O0 ob' k' W3 O':=
 ⟨O0,s,fun b hb=>⟨Q9 (h3 b hb),.inl hb⟩,rfl,h3,h.2.2.then s (fun x hx=>.inl (.inl hx))⟩
theorem Q8U (w:World) (n:Nat) (hn:n<9223372036854775808):Calls Tryz.prog 258 #[.int .i64 (n:Int)] w fun e w'=>e=.returned (.int .i64 ((Zr n).length:Int))∧Fr [] w w':=by
 refine (callsIn_wide (n:=3)).1 (callsIn_of_wp_marks Tryz.func258 rfl trivial (wpIn_wide.2 ?_) rfl)
 simp only [Tryz.ntmps258,List.size_toArray,List.length_cons,List.length_nil,Nat.reduceAdd,Nat.reduceSub,Array.replicate_succ,Array.replicate_zero,List.push_toArray,List.append_toArray,List.nil_append,List.cons_append]
 go_wp2_with fail
 refine (Vj _ n hn).mono ?_
 rintro e w2 ⟨v,g,lb,rfl,rfl,hg,hI,f2,hlt2⟩
 have hc0:=(Stp.Z9 f2).at (heap_alloc_new w (.cells #[.int .i64 0] 3)) Lc
 have F2:=((Fr.refl [] w).alloc (.cells #[.int .i64 0] 3)).trans f2
 simp only [World.size_alloc] at hI hlt2
 have h16:=VN n
 have HG:=Lib.hid hg;have HI:=Lib.hid hI;have HC:=Lib.hid hc0;clear hg hI hc0 f2
 go_wp2
 refine VX (xs:=Wp n) (enc:=Uu) rfl HG.out HI.out (fun x=>rfl)
  (Xg w2 (fun x=>x=w.heap.size+1) (fun x=>x=w.heap.size) (fun k _=>.cells #[.int .i64 k] 3)) (fun _ _ _ _=>False) (Xg.stable _ _ _ _ (Nat.le_refl _)) (fun _=>Xx.never)
  (fun x=>x=w.heap.size) (fun b hb=>by show b<w2.heap.size;have:b=w.heap.size:=hb;omega) (fun b hb h=>by rcases hb with hb|hb;exact hb.elim;have:b=w.heap.size:=h;have:b=w.heap.size+1:=hb;omega) ⟨rfl,fun b hb=>by subst hb;exact HC.out,Stp.refl _ _⟩ ?round ?done ?stop
 case round=>
  intro l' k x W1 O1 hx
  have hk:k<16:=by have:=(List.getElem?_eq_some_iff.1 hx).1;rw [Zb] at this;omega
  clear hx
  simp only [Uu,List.zip_toArray,List.zip_cons_cons,List.zip_nil_right,List.foldl_toArray',List.foldl_cons,List.foldl_nil,List.setIfInBounds_toArray,List.set_cons_zero,List.set_cons_succ]
  gi_wp2
  refine ⟨rfl, ?_⟩
  rintro W2 hJ hb2 hsz2
  obtain rfl:=hJ.1
  have hc:=hJ.2.1 _ rfl
  have q1:W2.cell? ⟨w.heap.size,0,none⟩=some (.int .i64 k):=cell_of (i:=0) hc rfl
  have q2:W2.frozen? ⟨w.heap.size,0,none⟩=false:=Qb hc
  have fin:=hJ.next (W3:=W2.setCell ⟨w.heap.size,0,none⟩ (.int .i64 ((k:Int)+1))) (ob':=fun k _=>.cells #[.int .i64 k] 3) (k':=k+1) ((Stp.refl (fun x=>x=w.heap.size) W2).setCell (p:=⟨w.heap.size,0,none⟩) (.inl rfl) _) (fun b hb=>by
   subst hb
   have:=heap_setCell_same (i:=0) hc (.int .i64 ((k:Int)+1))
   simpa using this)
  have FIN:=Lib.hid fin;clear fin hJ hc
  gi_wp2
  exact FIN.out
 case done=>
  rintro D W' O' hD hJ _ hst _ hK hnD
  obtain rfl:=hJ.1
  have hc:=hJ.2.1 _ rfl
  rw [Zb] at hc
  have q1:W'.cell? ⟨w.heap.size,0,none⟩=some (.int .i64 ((Zr n).length:Int)):=cell_of (i:=0) hc rfl
  have fin:Fr [] w (W'.putObj D (.deferred none)):=(((Stp.Z9 F2).then hst (fun x hx=>by right;omega)).putObj (.inr (by have:=F2.size;omega)) _).Gq (fun x hx=>by simp at hx)
  have FIN:=Lib.hid fin;clear fin hc hst hJ
  go_wp2
  exact EJ (.int .i64 ((Zr n).length:Int)) hK (fun _=>results_tmp (t:=2) rfl _ _ _) ⟨rfl,FIN.out⟩
 case stop=>exact fun _ _ _ _ _ _ _ h=>h.elim
theorem Xx.and {B:Nat} {E:Blk} {J:Nat→World→Blk→Prop} (h:Xx B E J) (q:Nat→Prop):Xx B E (fun k W O=>q k∧J k W O):=
 fun k W O W' hj h1 h2 h3 h4 h5=>⟨hj.1,h k W O W' hj.2 h1 h2 h3 h4 h5⟩
theorem VP {n k:Nat} {x:Int×Int} (h:(Wp n)[k]?=some x):x.1=(k:Int)∧(Zr n)[k]?=some x.2:=by
 simp only [Wp,List.getElem?_mapIdx,Option.map_eq_some_iff] at h
 obtain ⟨y,hy,rfl⟩:=h
 exact ⟨rfl,hy⟩
theorem VH {α:Type} [DecidableEq α] {L:List α} {k:Nat} {a:α} (hk:L.length≤k) (h:∀(j:Nat) (y:α),j<k→L[j]?=some y→y≠a):a∉L:=fun hm=>by
 obtain ⟨j,hj⟩:=List.getElem?_of_mem hm
 exact h j a (by have:=(List.getElem?_eq_some_iff.1 hj).1;omega) hj rfl
theorem Q8Y (w:World) (n:Nat) (who:Int) (hn:n<9223372036854775808):Calls Tryz.prog 196 #[.int .i64 (n:Int),.int .i64 who] w fun e w'=>e=.returned (.bool (decide (who∈Zr n)))∧Fr [] w w':=by
 obtain ⟨L,hL⟩:∃L,L=Zr n:=⟨_,rfl⟩
 rw [←hL]
 have HL:=Lib.hid hL;clear hL
 refine (callsIn_wide (n:=3)).1 (callsIn_of_wp_marks Tryz.func196 rfl trivial (wpIn_wide.2 ?_) rfl)
 simp only [Tryz.ntmps196,List.size_toArray,List.length_cons,List.length_nil,Nat.reduceAdd,Nat.reduceSub,Array.replicate_succ,Array.replicate_zero,List.push_toArray,List.append_toArray,List.nil_append,List.cons_append]
 go_wp2_with fail
 refine (Vj _ n hn).mono ?_
 rintro e w2 ⟨v,g,lb,rfl,rfl,hg,hI,f2,hlt2⟩
 have hc0:=(Stp.Z9 f2).at (heap_alloc_new (w.alloc (.cells #[.int .i64 who] 3)) (.cells #[.bool false] 4)) Lc
 have hw0:=(Stp.Z9 f2).at (Qh (heap_alloc_new w (.cells #[.int .i64 who] 3)) (.cells #[.bool false] 4)) Lc
 have F2:=(((Fr.refl [] w).alloc (.cells #[.int .i64 who] 3)).alloc (.cells #[.bool false] 4)).trans f2
 simp only [World.size_alloc] at hI hlt2 hc0
 have HG:=Lib.hid hg;have HI:=Lib.hid hI;have HC:=Lib.hid hc0;have HW:=Lib.hid hw0;clear hg hI hc0 f2 hw0
 have hb:=F2.size
 obtain ⟨b,hbe⟩:∃b,b=w.heap.size:=⟨_,rfl⟩
 rw [←hbe] at HI HC HW hlt2 ⊢
 have hbw:w.heap.size≤b:=Lb
 clear hbe
 go_wp2
 refine VX (xs:=Wp n) (enc:=Uu) rfl HG.out HI.out (fun x=>rfl)
  (fun k W O=>(∀(j:Nat) (y:Int),j<k→L[j]?=some y→y≠who)∧Xg w2 (fun x=>x=b+1+1) (fun x=>x=b+1) (fun _ _=>.cells #[.bool false] 4) k W O)
  (fun c k W O=>(c=.ret∧who∈L)∧Xg w2 (fun x=>x=b+1+1) (fun x=>x=b+1) (fun _ _=>.cells #[.bool true] 4) k W O)
  ((Xg.stable _ _ _ _ (Nat.le_refl _)).and (fun k=>∀(j:Nat) (y:Int),j<k→L[j]?=some y→y≠who)) (fun c=>(Xg.stable _ _ _ _ (Nat.le_refl _)).and (fun _=>c=.ret∧who∈L))
  (fun x=>x=b+1) (fun x hx=>by show x<w2.heap.size;have:x=b+1:=hx;omega) (fun x hb h=>by rcases hb with hb|hb;exact hb.elim;have:x=b+1:=h;have:x=b+1+1:=hb;omega)
  ⟨fun j y hj=>Lb,rfl,fun x hb=>by have:x=b+1:=hb;subst this;exact HC.out,Stp.refl _ _⟩ ?round ?done ?stop
 case round=>
  intro l' k x W1 O1 hx
  obtain ⟨hx1,hx2⟩:=VP hx
  rw [←HL.out] at hx2
  obtain ⟨xp,xw⟩:=x
  simp only at hx1 hx2
  subst hx1
  clear hx
  have HX:=Lib.hid hx2;clear hx2
  simp only [Uu,List.zip_toArray,List.zip_cons_cons,List.zip_nil_right,List.foldl_toArray',List.foldl_cons,List.foldl_nil,List.setIfInBounds_toArray,List.set_cons_zero,List.set_cons_succ]
  gi_wp2
  refine ⟨rfl, ?_⟩
  rintro W2 ⟨hno,hJ⟩ hb2 hsz2
  obtain rfl:=hJ.1
  have hc:=hJ.2.1 _ rfl
  have q1:W2.cell? ⟨b,0,none⟩=some (.int .i64 who):=cell_of (i:=0) (hJ.2.2.at HW.out (by show ¬(b=b+1∨b=b+1+1);omega)) rfl
  have q2:W2.frozen? ⟨b+1,0,none⟩=false:=Qb hc
  have q3:W2.cell? ⟨b+1,0,none⟩=some (.bool false):=cell_of (i:=0) hc rfl
  by_cases he:xw=who
  · have fin:=hJ.next (W3:=W2.setCell ⟨b+1,0,none⟩ (.bool true)) (ob':=fun _ _=>.cells #[.bool true] 4) (k':=k+1) ((Stp.refl (fun x=>x=b+1) W2).setCell (p:=⟨b+1,0,none⟩) (.inl rfl) _) (fun x hb=>by
     have:x=b+1:=hb
     subst this
     have:=heap_setCell_same (i:=0) hc (.bool true)
     simpa using this)
    have hm:who∈L:=by rw [←he];exact List.mem_of_getElem? HX.out
    obtain ⟨O',s1,s2,s3⟩:=fin
    have FIN:=Lib.hid (show ∃O',Stp (fun x=>x=b+1) W2 (W2.setCell ⟨b+1,0,none⟩ (.bool true))∧Grw (fun x=>x=b+1) O' W2 (W2.setCell ⟨b+1,0,none⟩ (.bool true))∧((Code.ret=Code.ret∧who∈L)∧Xg w2 (fun x=>x=b+1+1) (fun x=>x=b+1) (fun _ _=>.cells #[.bool true] 4) (k+1) (W2.setCell ⟨b+1,0,none⟩ (.bool true)) O') from ⟨O',s1,s2,⟨rfl,hm⟩,s3⟩)
    have HM:=Lib.hid hm
    clear hJ hc hno s1 s2 s3 hm
    subst he
    gi_wp2
    obtain ⟨O',s1,s2,s3⟩:=FIN.out
    exact ⟨O',s1,s2,⟨rfl,HM.out⟩,s3.2⟩
  · have fin:=hJ.next (W3:=W2) (ob':=fun _ _=>.cells #[.bool false] 4) (k':=k+1) (Stp.refl _ _) (fun x hb=>hJ.2.1 x hb)
    obtain ⟨O',s1,s2,s3⟩:=fin
    have hno':∀(j:Nat) (y:Int),j<k+1→L[j]?=some y→y≠who:=fun j y hj hy=>by
     rcases Nat.lt_or_ge j k with h|h
     · exact hno j y h hy
     · obtain rfl:j=k:=Lb
       rw [HX.out] at hy
       simp only [Option.some.injEq] at hy
       exact hy▸he
    have FIN:=Lib.hid (show ∃O',Stp (fun x=>x=b+1) W2 W2∧Grw (fun x=>x=b+1) O' W2 W2∧((∀(j:Nat) (y:Int),j<k+1→L[j]?=some y→y≠who)∧Xg w2 (fun x=>x=b+1+1) (fun x=>x=b+1) (fun _ _=>.cells #[.bool false] 4) (k+1) W2 O') from ⟨O',s1,s2,hno',s3⟩)
    clear hJ hc hno hno' s1 s2 s3
    gi_wp2
    exact FIN.out
 case done=>
  rintro D W' O' hD ⟨hno,hJ⟩ _ hst _ hK hnD
  obtain rfl:=hJ.1
  have hc:=hJ.2.1 _ rfl
  have hm:who∉L:=VH (by rw [Zb,HL.out];exact Nat.le_refl _) hno
  have hDr:D≠b+1:=hnD
  have q2:W'.frozen? ⟨b+1,0,none⟩=false:=Qb hc
  have q3:W'.cell? ⟨b+1,0,none⟩=some (.bool false):=cell_of (i:=0) hc rfl
  have c1:=heap_setCell_same (i:=0) hc (.bool false)
  have hr:((W'.setCell ⟨b+1,0,none⟩ (.bool false)).putObj D (.deferred none)).cell? ⟨b+1,0,none⟩=some (.bool false):=by
   refine cell_of (i:=0) (c:=#[.bool false]) (t:=4) (z:=(0,0)) ?_ rfl
   rw [World.putObj_heap_other (fun e=>hDr e.symm)]
   simpa using c1
  have hK2:(W'.setCell ⟨b+1,0,none⟩ (.bool false)).heap[D]?=some (.deferred (some [])):=(Below.heap_setCell _ _ _ _ hDr).trans hK
  have fin:Fr [] w ((W'.setCell ⟨b+1,0,none⟩ (.bool false)).putObj D (.deferred none)):=((((Stp.Z9 F2).then hst (fun x hx=>by right;have hx2:x=b+1∨x=b+1+1:=hx;omega)).setCell (p:=⟨b+1,0,none⟩) (.inr (by show w.heap.size≤b+1;omega)) _).putObj (.inr Lb) _).Gq (fun x hx=>by simp at hx)
  have FIN:=Lib.hid fin;have HR:=Lib.hid hr;have HK2:=Lib.hid hK2;clear fin hr hK2 hst hJ c1 hc hno
  go_wp2
  refine Xv (.bool false) HK2.out ?_ ?_
  · have hr3:=HR.out
    simp [results,Tryz.f196,go_sem,hr3]
  · exact ⟨by first|rfl|rw [decide_eq_false hm],FIN.out⟩
 case stop=>
  rintro D c k W' O' hD hk ⟨⟨rfl,hm⟩,hJ⟩ _ hst _ hK hnD
  obtain rfl:=hJ.1
  have hc:=hJ.2.1 _ rfl
  have hDr:D≠b+1:=hnD
  have hr:(W'.putObj D (.deferred none)).cell? ⟨b+1,0,none⟩=some (.bool true):=by
   refine cell_of (i:=0) (c:=#[.bool true]) (t:=4) (z:=(0,0)) ?_ rfl
   rw [World.putObj_heap_other (fun e=>hDr e.symm)]
   exact hc
  have fin:Fr [] w (W'.putObj D (.deferred none)):=(((Stp.Z9 F2).then hst (fun x hx=>by right;have hx2:x=b+1∨x=b+1+1:=hx;omega)).putObj (.inr Lb) _).Gq (fun x hx=>by simp at hx)
  have FIN:=Lib.hid fin;have HR:=Lib.hid hr;clear fin hr hst hJ hc
  go_wp2
  refine Xv (.bool true) hK ?_ ?_
  · have hr3:=HR.out
    simp [results,Tryz.f196,go_sem,hr3]
  · exact ⟨by first|rfl|rw [decide_eq_true hm],FIN.out⟩
def Zc:List Int→Int
 |[]=>0
 |x::_=>x
def DJ (L:List Int):Value:=.tuple #[.int .i64 (Zc L),.bool (decide (L≠[]))]
def YN (b:Nat) (h:Int) (ok:Bool):Nat→Nat→Obj:=fun _ x=>if x=b then .cells #[.int .i64 h] 3 else .cells #[.bool ok] 4
theorem Z0Q {P:Prop} (h:P:=by
 refine cell_of (i:=0) (c:=#[.bool false]) (t:=4) (z:=(0,0)) ?_ rfl
 rw [World.putObj_heap_other (fun e=>hD2 e.symm)]
 have:=heap_setCell_same (i:=0) h2 (.bool false)
 simpa using this):P:=h
theorem Z0W {P:Prop} (h:P:=by
 refine cell_of (i:=0) (c:=#[.bool true]) (t:=4) (z:=(0,0)) ?_ rfl
 rw [World.putObj_heap_other (fun e=>hD2 e.symm)];exact hc2):P:=h
theorem Q6X (w:World) (n:Nat) (hn:n<9223372036854775808):Calls Tryz.prog 241 #[.int .i64 (n:Int)] w fun e w'=>e=.returned (DJ (Zr n))∧Fr [] w w':=by
 obtain ⟨L,hL⟩:∃L,L=Zr n:=⟨_,rfl⟩
 rw [←hL]
 have HL:=Lib.hid hL;clear hL
 refine (callsIn_wide (n:=3)).1 (callsIn_of_wp_marks Tryz.func241 rfl trivial (wpIn_wide.2 ?_) rfl)
 simp only [Tryz.ntmps241,List.size_toArray,List.length_cons,List.length_nil,Nat.reduceAdd,Nat.reduceSub,Array.replicate_succ,Array.replicate_zero,List.push_toArray,List.append_toArray,List.nil_append,List.cons_append]
 go_wp2_with fail
 refine (Vj _ n hn).mono ?_
 rintro e w2 ⟨v,g,lb,rfl,rfl,hg,hI,f2,hlt2⟩
 have hc0:=(Stp.Z9 f2).at (heap_alloc_new (w.alloc (.cells #[.int .i64 0] 3)) (.cells #[.bool false] 4)) Lc
 have hw0:=(Stp.Z9 f2).at (Qh (heap_alloc_new w (.cells #[.int .i64 0] 3)) (.cells #[.bool false] 4)) Lc
 have F2:=(((Fr.refl [] w).alloc (.cells #[.int .i64 0] 3)).alloc (.cells #[.bool false] 4)).trans f2
 simp only [World.size_alloc] at hI hlt2 hc0
 have HG:=Lib.hid hg;have HI:=Lib.hid hI;have HC:=Lib.hid hc0;have HW:=Lib.hid hw0;clear hg hI hc0 f2 hw0
 have hb:=F2.size
 obtain ⟨b,hbe⟩:∃b,b=w.heap.size:=⟨_,rfl⟩
 rw [←hbe] at HI HC HW hlt2 ⊢
 have hbw:w.heap.size≤b:=Lb
 clear hbe
 have hs2:∀(x:Nat),(x=b∨x=b+1)→x=b∨x=b+1:=fun _ h=>h
 go_wp2
 refine VX (xs:=Wp n) (enc:=Uu) rfl HG.out HI.out (fun x=>rfl)
  (fun k W O=>k=0∧Xg w2 (fun x=>x=b+1+1) (fun x=>x=b∨x=b+1) (YN b 0 false) k W O)
  (fun c k W O=>(c=.ret∧k=1∧L≠[])∧Xg w2 (fun x=>x=b+1+1) (fun x=>x=b∨x=b+1) (YN b (Zc L) true) k W O)
  ((Xg.stable _ _ _ _ (Nat.le_refl _)).and (fun k=>k=0)) (fun c=>(Xg.stable _ _ _ _ (Nat.le_refl _)).and (fun k=>c=.ret∧k=1∧L≠[]))
  (fun x=>x=b∨x=b+1) (fun x hx=>by show x<w2.heap.size;have:=hs2 x hx;omega) (fun x hb h=>by rcases hb with hb|hb;exact hb.elim;have:=hs2 x h;have:x=b+1+1:=hb;omega)
  ⟨rfl,rfl,fun x hb=>by
    rcases hs2 x hb with rfl|rfl
    · simpa [YN] using HW.out
    · simpa [YN] using HC.out,Stp.refl _ _⟩ ?round ?done ?stop
 case round=>
  intro l' k x W1 O1 hx
  obtain ⟨hx1,hx2⟩:=VP hx
  rw [←HL.out] at hx2
  obtain ⟨xp,xw⟩:=x
  simp only at hx1 hx2
  subst hx1
  clear hx
  have HX:=Lib.hid hx2;clear hx2
  simp only [Uu,List.zip_toArray,List.zip_cons_cons,List.zip_nil_right,List.foldl_toArray',List.foldl_cons,List.foldl_nil,List.setIfInBounds_toArray,List.set_cons_zero,List.set_cons_succ]
  gi_wp2
  refine ⟨rfl, ?_⟩
  rintro W2 ⟨hk0,hJ⟩ hb2 hsz2
  subst hk0
  obtain rfl:=hJ.1
  have hc1:W2.heap[b]?=some (.cells #[.int .i64 0] 3):=by have:=hJ.2.1 b (.inl rfl);simpa [YN] using this
  have hc2:W2.heap[b+1]?=some (.cells #[.bool false] 4):=by have:=hJ.2.1 (b+1) (.inr rfl);simpa [YN] using this
  have q1:W2.cell? ⟨b,0,none⟩=some (.int .i64 0):=cell_of (i:=0) hc1 rfl
  have q2:W2.frozen? ⟨b,0,none⟩=false:=Qb hc1
  have q3:W2.cell? ⟨b+1,0,none⟩=some (.bool false):=cell_of (i:=0) hc2 rfl
  have q4:W2.frozen? ⟨b+1,0,none⟩=false:=Qb hc2
  have hh:Zc L=xw∧L≠[]:=by
   have:=HX.out
   cases L with
   |nil=>simp at this
   |cons a t=>simp at this;simp [Zc,this]
  have fin:=hJ.next (W3:=(W2.setCell ⟨b,0,none⟩ (.int .i64 xw)).setCell ⟨b+1,0,none⟩ (.bool true)) (ob':=YN b (Zc L) true) (k':=0+1)
   (((Stp.refl (fun x=>x=b∨x=b+1) W2).setCell (p:=⟨b,0,none⟩) (.inl (.inl rfl)) _).setCell (p:=⟨b+1,0,none⟩) (.inl (.inr rfl)) _) (fun x hb=>by
     rcases hs2 x hb with rfl|rfl
     · rw [Below.heap_setCell _ _ _ _ (show x≠x+1 by omega)]
       have:=heap_setCell_same (i:=0) hc1 (.int .i64 xw)
       simpa [YN,hh.1] using this
     · have h2:(W2.setCell ⟨b,0,none⟩ (.int .i64 xw)).heap[b+1]?=some (.cells #[.bool false] 4):=(Below.heap_setCell _ _ _ _ (show b+1≠b by omega)).trans hc2
       have:=heap_setCell_same (i:=0) h2 (.bool true)
       simpa [YN] using this)
  have FIN:=Lib.hid fin;have HH:=Lib.hid hh;clear fin hJ hc1 hc2 hh hs2
  gi_wp2
  obtain ⟨O',s1,s2,s3⟩:=FIN.out
  exact ⟨O',s1,s2,⟨rfl,rfl,HH.out.2⟩,s3⟩
 case done=>
  rintro D W' O' hD ⟨hk0,hJ⟩ _ hst _ hK hnD
  obtain rfl:=hJ.1
  have hc1:W'.heap[b]?=some (.cells #[.int .i64 0] 3):=by have:=hJ.2.1 b (.inl rfl);simpa [YN] using this
  have hc2:W'.heap[b+1]?=some (.cells #[.bool false] 4):=by have:=hJ.2.1 (b+1) (.inr rfl);simpa [YN] using this
  have q1:W'.cell? ⟨b,0,none⟩=some (.int .i64 0):=cell_of (i:=0) hc1 rfl
  have q2:W'.frozen? ⟨b,0,none⟩=false:=Qb hc1
  have q3:W'.cell? ⟨b+1,0,none⟩=some (.bool false):=cell_of (i:=0) hc2 rfl
  have q4:W'.frozen? ⟨b+1,0,none⟩=false:=Qb hc2
  have hL0:L=[]:=by rw [Zb,←HL.out] at hk0;exact List.eq_nil_of_length_eq_zero hk0
  have hD1:D≠b:=fun e=>hnD (.inl e)
  have hD2:D≠b+1:=fun e=>hnD (.inr e)
  have h2:(W'.setCell ⟨b,0,none⟩ (.int .i64 0)).heap[b+1]?=some (.cells #[.bool false] 4):=(Below.heap_setCell _ _ _ _ (show b+1≠b by omega)).trans hc2
  have r1:(((W'.setCell ⟨b,0,none⟩ (.int .i64 0)).setCell ⟨b+1,0,none⟩ (.bool false)).putObj D (.deferred none)).cell? ⟨b,0,none⟩=some (.int .i64 0):=by
   refine cell_of (i:=0) (c:=#[.int .i64 0]) (t:=3) (z:=(0,0)) ?_ rfl
   rw [World.putObj_heap_other (fun e=>hD1 e.symm),Below.heap_setCell _ _ _ _ (show b≠b+1 by omega)]
   have:=heap_setCell_same (i:=0) hc1 (.int .i64 0)
   simpa using this
  have r2:(((W'.setCell ⟨b,0,none⟩ (.int .i64 0)).setCell ⟨b+1,0,none⟩ (.bool false)).putObj D (.deferred none)).cell? ⟨b+1,0,none⟩=some (.bool false):=by
   exact Z0Q
  have hK2:((W'.setCell ⟨b,0,none⟩ (.int .i64 0)).setCell ⟨b+1,0,none⟩ (.bool false)).heap[D]?=some (.deferred (some [])):=(Below.heap_setCell _ _ _ _ hD2).trans ((Below.heap_setCell _ _ _ _ hD1).trans hK)
  have fin:Fr [] w (((W'.setCell ⟨b,0,none⟩ (.int .i64 0)).setCell ⟨b+1,0,none⟩ (.bool false)).putObj D (.deferred none)):=(((((Stp.Z9 F2).then hst (fun x hx=>by right;have hx2:(x=b∨x=b+1)∨x=b+1+1:=hx;omega)).setCell (p:=⟨b,0,none⟩) (.inr (by show w.heap.size≤b;omega)) _).setCell (p:=⟨b+1,0,none⟩) (.inr (by show w.heap.size≤b+1;omega)) _).putObj (.inr Lb) _).Gq (fun x hx=>by simp at hx)
  have FIN:=Lib.hid fin;have R1:=Lib.hid r1;have R2:=Lib.hid r2;have HK2:=Lib.hid hK2;clear fin r1 r2 hK2 hst hJ hc1 hc2 h2 hs2 hk0
  have HL0:=Lib.hid hL0;clear hL0
  go_wp2
  refine Xv (.tuple #[.int .i64 0,.bool false]) HK2.out ?_ ?_
  · have r1:=R1.out
    have r2:=R2.out
    simp [results,Tryz.f241,go_sem,r1,r2]
  · exact ⟨by rw [HL0.out];rfl,FIN.out⟩
 case stop=>
  rintro D c k W' O' hD hk ⟨⟨rfl,hk1,hm⟩,hJ⟩ _ hst _ hK hnD
  obtain rfl:=hJ.1
  have hc1:W'.heap[b]?=some (.cells #[.int .i64 (Zc L)] 3):=by have:=hJ.2.1 b (.inl rfl);simpa [YN] using this
  have hc2:W'.heap[b+1]?=some (.cells #[.bool true] 4):=by have:=hJ.2.1 (b+1) (.inr rfl);simpa [YN] using this
  have hD1:D≠b:=fun e=>hnD (.inl e)
  have hD2:D≠b+1:=fun e=>hnD (.inr e)
  have r1:(W'.putObj D (.deferred none)).cell? ⟨b,0,none⟩=some (.int .i64 (Zc L)):=by
   refine cell_of (i:=0) (c:=#[.int .i64 (Zc L)]) (t:=3) (z:=(0,0)) ?_ rfl
   rw [World.putObj_heap_other (fun e=>hD1 e.symm)];exact hc1
  have r2:(W'.putObj D (.deferred none)).cell? ⟨b+1,0,none⟩=some (.bool true):=by
   exact Z0W
  have fin:Fr [] w (W'.putObj D (.deferred none)):=(((Stp.Z9 F2).then hst (fun x hx=>by right;have hx2:(x=b∨x=b+1)∨x=b+1+1:=hx;omega)).putObj (.inr Lb) _).Gq (fun x hx=>by simp at hx)
  have FIN:=Lib.hid fin;have R1:=Lib.hid r1;have R2:=Lib.hid r2;have HM:=Lib.hid hm;clear fin r1 r2 hst hJ hc1 hc2 hs2 hm hk1
  go_wp2
  refine Xv (.tuple #[.int .i64 (Zc L),.bool true]) hK ?_ ?_
  · have r1:=R1.out
    have r2:=R2.out
    simp [results,Tryz.f241,go_sem,r1,r2]
  · exact ⟨by unfold DJ;rw [decide_eq_true HM.out],FIN.out⟩
end
section
theorem Z0k {P:Prop} (h:P:=by
 rw [BitVec.ofInt_natCast,BitVec.toNat_ofNat];exact Nat.mod_eq_of_lt Lb):P:=h
theorem YG (a b:Nat) (ha:a<9223372036854775808) (hb:b<9223372036854775808):bits .and .i64 (a:Int) (b:Int)=((a&&& b:Nat):Int):=by
 have hx:a&&& b<2 ^ 63:=Nat.and_lt_two_pow _ Lb
 have h1:(BitVec.ofInt 64 (a:Int)).toNat=a:=by
  exact Z0k
 have h2:(BitVec.ofInt 64 (b:Int)).toNat=b:=by
  exact Z0k
 show IntKind.i64.wrap ((BitVec.ofInt 64 (a:Int)&&& BitVec.ofInt 64 (b:Int)).toNat:Int)=_
 rw [BitVec.toNat_and,h1,h2,IntKind.wrap_i64]
 have e:∀n:Int,n=((a&&& b:Nat):Int)→(n+9223372036854775808) % 18446744073709551616 - 9223372036854775808=n:=fun n hn=>by omega
 rw [e _ rfl]
theorem Uy (a b:Nat) (ha:a<9223372036854775808) (hb:b<9223372036854775808):bits .or .i64 (a:Int) (b:Int)=((a|||b:Nat):Int):=by
 have hx:a|||b<2 ^ 63:=Nat.or_lt_two_pow Lb Lb
 have h1:(BitVec.ofInt 64 (a:Int)).toNat=a:=by
  exact Z0k
 have h2:(BitVec.ofInt 64 (b:Int)).toNat=b:=by
  exact Z0k
 show IntKind.i64.wrap ((BitVec.ofInt 64 (a:Int)|||BitVec.ofInt 64 (b:Int)).toNat:Int)=_
 rw [BitVec.toNat_or,h1,h2,IntKind.wrap_i64]
 have e:∀n:Int,n=((a|||b:Nat):Int)→(n+9223372036854775808) % 18446744073709551616 - 9223372036854775808=n:=fun n hn=>by omega
 rw [e _ rfl]
end
section
open Go.RowKit Go.Shelf
attribute [local go_sem] Oper.semAt_some
theorem Q2n {P:Program} {n r:Nat} {o:Oper} {a:Act} {w:World} {K:Act→World→Prop} {Q:Exit→Act→World→Prop} (hd:∀c,o.op≠.defer c) (h:o.wpIn Fence.wide n P a w K Q):o.wpIn (Fence.wide.inRound r) n P a w K Q:=by
 unfold Oper.wpIn at*
 refine ⟨fun _ _=>trivial, ?_⟩
 have h2:=h.2
 rw [show Fence.wide.round=none from rfl,Oper.semAt_none] at h2
 rw [Fence.inRound_round,Oper.semAt_some _ _ _ hd]
 exact h2
theorem GZ {P:Program} {n r:Nat} {md:Region.Mode} {ops:Array Oper} {Q:Exit→Act→World→Prop} (hd:∀(i:Nat) (o:Oper),ops[i]?=some o→∀c,o.op≠.defer c):
 ∀(fuel:Nat) (listed:Array Bool) (a:Act) (w:World),wpAnyIn Fence.wide n P md ops Q fuel listed a w→wpAnyIn (Fence.wide.inRound r) n P md ops Q fuel listed a w
 |0,_,_,_,h=>h
 |fuel+1,_,_,_,h=>⟨h.1,fun i hi=>by
  have h2:=wpOpIn_mono (fun a' w' h'=>GZ (r:=r) hd fuel _ a' w' h') (h.2 i hi)
  unfold wpOpIn at h2 ⊢
  cases ho:ops[i]? with
  |none=>simpa only [ho] using h2
  |some o=>
   simp only [ho] at h2 ⊢
   split
   · rename_i hw
     rw [if_pos hw] at h2
     exact Q2n (hd i o ho) h2
   · rename_i hw
     rw [if_neg hw] at h2
     exact ⟨fun _ _=>trivial,h2.2⟩⟩
theorem KU {P:Program} {n r id:Nat} {ops:Array Oper} {Q:Exit→Act→World→Prop} {a:Act} {w:World} (hm:P.follows .mixedOrders=true) (hd:∀o∈ops.toList,∀c,o.op≠.defer c)
 (h:wpAnyIn Fence.wide n P .any ops Q ops.size (Array.replicate ops.size false) a w.drew):(Code.region id ops true).wpIn (Fence.wide.inRound r) n P Q a w:=
 wpIn_region_any hm (GZ (fun i o ho=>hd o (by rw [Array.mem_toList_iff];exact Array.mem_of_getElem? ho)) _ _ _ _ h)
end
section
open Go.RowKit Go.Lib
section
variable {P:Program} {ops:Array Oper} {Q:Exit→Act→World→Prop} {md:Region.Mode} {S:World→Prop}
theorem tk (i:Nat) {oi:Oper} {v:Value} {fuel:Nat} {listed l':Array Bool} {a a':Act} {w:World} (h:wpAnyH P md ops Q S fuel l' a' w)
 (hi:ops[i]?=some oi:=by
   simp only [List.getElem?_toArray,List.getElem?_cons_succ,List.getElem?_cons_zero]
   exact rfl)
 (hs:Region.noSelect ops=true:=by kernel_rfl) (hf:Region.free md ops listed i=true:=by kernel_rfl) (hr:(Region.ready md ops listed).contains i=true:=by kernel_rfl)
 (hQ:∀c a w,Q (.panic c) (a.put oi.dst v) w→Q (.panic c) a w:=by exact fun _ _ _ h=>h)
 (hw:Region.wanted oi (yielded ops a.tmps)=true:=by rfl)
 (hy:∀w,S w→(execOp a.eval oi).run P w=.ok (.value v) w:=by
   intro w hSw
   try dsimp only at hSw
   try simp only [List.getElem_toArray,List.getElem_cons_succ,List.getElem_cons_zero]
   go_split_ands
   go_simp
   try with_reducible rfl)
 (hS:S w:=by assumption)
 (ha:a.put oi.dst v=a':=by
   try simp only [Act.put,List.getElem_toArray,List.getElem_cons_succ,List.getElem_cons_zero,List.setIfInBounds_toArray,List.set_cons_zero,List.set_cons_succ]
   exact rfl)
 (hl:listed.setIfInBounds i true=l':=by
   try simp only [List.setIfInBounds_toArray,List.set_cons_zero,List.set_cons_succ]
   exact rfl):wpAnyH P md ops Q S (fuel+1) listed a w:=by
 subst ha hl
 exact wpAnyH_take hi hs hf hr hQ (.inl ⟨hw,hy⟩) hS h
theorem tu (i:Nat) {oi:Oper} {fuel:Nat} {listed l':Array Bool} {a a':Act} {w:World} (h:wpAnyH P md ops Q S fuel l' a' w)
 (hi:ops[i]?=some oi:=by
   simp only [List.getElem?_toArray,List.getElem?_cons_succ,List.getElem?_cons_zero]
   exact rfl)
 (hs:Region.noSelect ops=true:=by kernel_rfl) (hf:Region.free md ops listed i=true:=by kernel_rfl) (hr:(Region.ready md ops listed).contains i=true:=by kernel_rfl)
 (hQ:∀c a w,Q (.panic c) (a.put oi.dst undef) w→Q (.panic c) a w:=by exact fun _ _ _ h=>h)
 (hw:Region.wanted oi (yielded ops a.tmps)=false:=by rfl)
 (hS:S w:=by assumption)
 (ha:a.put oi.dst undef=a':=by
   try simp only [Act.put,List.getElem_toArray,List.getElem_cons_succ,List.getElem_cons_zero,List.setIfInBounds_toArray,List.set_cons_zero,List.set_cons_succ]
   exact rfl)
 (hl:listed.setIfInBounds i true=l':=by
   try simp only [List.setIfInBounds_toArray,List.set_cons_zero,List.set_cons_succ]
   exact rfl):wpAnyH P md ops Q S (fuel+1) listed a w:=by
 subst ha hl
 exact wpAnyH_take hi hs hf hr hQ (.inr ⟨hw,rfl⟩) hS h
theorem tc (i:Nat) {o:Oper} {fuel:Nat} {listed l':Array Bool} {a:Act} {w:World}
 (h:∀K':Act→World→Prop,Shut (∀a w,S w→(S w→wpAnyH P md ops Q S fuel l' a w)→K' a w)→Oper.wp P o a w K' Q)
 (hr:Region.ready md ops listed=[i]:=by kernel_rfl)
 (ho:ops[i]?=some o:=by
   simp only [List.getElem?_toArray,List.getElem?_cons_succ,List.getElem?_cons_zero]
   exact rfl)
 (hw:Region.wanted o (yielded ops a.tmps)=true:=by rfl)
 (hl:listed.setIfInBounds i true=l':=by
   try simp only [List.setIfInBounds_toArray,List.set_cons_zero,List.set_cons_succ]
   exact rfl):wpAnyH P md ops Q S (fuel+1) listed a w:=by
 subst hl
 refine wpAnyH_ready (rs:=[i]) hr Lc ?_
 refine AllReadyH.cons (o:=o) ho (fun K hK=> ?_) AllReadyH.nil
 rw [if_pos hw]
 exact h K hK
end
theorem Fr.c {S:List Nat} {w w':World} (h:Fr S w w') {p:Addr} {v:Value} (hc:w.cell? p=some v) (hs:p.block∉S:=by have:=HNE.out;simp<;>omega):w'.cell? p=some v:=h.cell hc hs
theorem Fr.sc {S:List Nat} {a w:World} (h:Fr S a w) (b i:Nat) (u:Value) (hp:b∈S∨a.heap.size≤b:=by exact .inl Lc):Fr S a (w.setCell ⟨b,i,none⟩ u):=h.setCell (p:=⟨b,i,none⟩) hp u
theorem cl (i:Nat) {w:World} {b:Nat} {L:Array Value} {t:TypeId} {z:Nat×Nat} {v:Value} (h:w.heap[b]?=some (.cells L t z))
 (hv:L[i]?=some v:=by
   simp only [List.getElem?_toArray,List.getElem?_cons_succ,List.getElem?_cons_zero]
   exact rfl):w.cell? ⟨b,i,none⟩=some v:=cell_of h hv
end
end Go.Proofs.YtgjklfmnmljilaaGreatDoor

/- A part of the proof. -/
import Derived.Test.YtgjklfmnmljilaaGreatDoorZR02
import Derived.RegionTactic
namespace Go.Proofs.YtgjklfmnmljilaaGreatDoor
set_option linter.unusedVariables false
set_option linter.unusedSimpArgs false
set_option linter.unusedSectionVars false
set_option linter.unnecessarySimpa false
set_option maxRecDepth 100000
set_option maxHeartbeats 8000000
section
open Go.RowKit Go.Shelf
attribute [local go_sem] Oper.semAt_some
def Vt (n k:Nat):Nat:=n % 16 ^ k+n / 16 ^ (k+1)*16 ^ k
theorem Q5l (n k:Nat):(n&&& (2 ^ (4*k) - 1))|||(n / 16 ^ (k+1)*16 ^ k)=Vt n k:=by
 have e:(16:Nat) ^ k=2 ^ (4*k):=by rw [Nat.pow_mul]
 unfold Vt
 rw [e,Nat.and_two_pow_sub_one_eq_mod,Nat.mul_comm (n / 16 ^ (k+1)),Nat.or_comm,←Nat.two_pow_add_eq_or_of_lt (Nat.mod_lt _ (Nat.pow_pos (by decide))),Nat.add_comm]
theorem cut_or (n k A U z:Nat) (hn:n<9223372036854775808) (h1:A≤n) (h2:U≤n) (hA:A=n % 2 ^ (4*k)) (hU:U=n / 2 ^ (4*k+4)*2 ^ (4*k)) (hz:z=Vt n k):bits .or .i64 (A:Int) (U:Int)=(z:Int):=by
 have e:=Q5l n k
 rw [show (16:Nat) ^ (k+1)=2 ^ (4*k+4) by rw [Nat.pow_succ,show (16:Nat) ^ k=2 ^ (4*k) by rw [Nat.pow_mul],Nat.pow_add],Nat.and_two_pow_sub_one_eq_mod,show (16:Nat) ^ k=2 ^ (4*k) by rw [Nat.pow_mul],←hA,←hU,←hz] at e
 rw [Uy A U (by clear e hA hU hz;omega) (by clear e hA hU hz;omega),e]
def Q1G (w:World) (n:Nat) (who:Int) (e:Ending) (w':World):Prop:=
 Fr [] w w'∧((who∉Zr n∧e=.returned (.tuple #[.int .i64 (n:Int),.bool false]))∨
  ∃k:Nat,(Zr n)[k]?=some who∧who∉(Zr n).take k∧e=.returned (.tuple #[.int .i64 (Vt n k:Int),.bool true]))
def Zq (b:Nat) (z:Int) (ok:Bool):Nat→Nat→Obj:=fun _ x=>if x=b+1+1 then .cells #[.int .i64 z] 3 else .cells #[.bool ok] 4
theorem Z0d {P:Prop} (h:P:=by
 try simp only [List.getElem_toArray,List.getElem_cons_succ,List.getElem_cons_zero]
 go_simp
 try with_reducible rfl):P:=h
theorem Q7h (w:World) (n:Nat) (who:Int) (hn:n<9223372036854775808):Calls Tryz.prog 245 #[.int .i64 (n:Int),.int .i64 who] w (Q1G w n who):=by
 obtain ⟨L,hL⟩:∃L,L=Zr n:=⟨_,rfl⟩
 have h16:=VN n
 unfold Q1G
 rw [←hL] at h16 ⊢
 have HL:=Lib.hid hL;clear hL
 refine (callsIn_wide (n:=3)).1 (callsIn_of_wp_marks Tryz.func245 rfl trivial (wpIn_wide.2 ?_) rfl)
 simp only [Tryz.ntmps245,List.size_toArray,List.length_cons,List.length_nil,Nat.reduceAdd,Nat.reduceSub,Array.replicate_succ,Array.replicate_zero,List.push_toArray,List.append_toArray,List.nil_append,List.cons_append]
 go_wp2_with fail
 refine (Vj _ n hn).mono ?_
 rintro e w2 ⟨v,g,lb,rfl,rfl,hg,hI,f2,hlt2⟩
 have hq0:=(Stp.Z9 f2).at (Qh (Qh (Qh (heap_alloc_new w (.cells #[.int .i64 (n:Int)] 3)) (.cells #[.int .i64 who] 3)) (.cells #[.int .i64 0] 3)) (.cells #[.bool false] 4)) Lc
 have hw0:=(Stp.Z9 f2).at (Qh (Qh (heap_alloc_new (w.alloc (.cells #[.int .i64 (n:Int)] 3)) (.cells #[.int .i64 who] 3)) (.cells #[.int .i64 0] 3)) (.cells #[.bool false] 4)) Lc
 have hr0:=(Stp.Z9 f2).at (Qh (heap_alloc_new ((w.alloc (.cells #[.int .i64 (n:Int)] 3)).alloc (.cells #[.int .i64 who] 3)) (.cells #[.int .i64 0] 3)) (.cells #[.bool false] 4)) Lc
 have hs0:=(Stp.Z9 f2).at (heap_alloc_new (((w.alloc (.cells #[.int .i64 (n:Int)] 3)).alloc (.cells #[.int .i64 who] 3)).alloc (.cells #[.int .i64 0] 3)) (.cells #[.bool false] 4)) Lc
 have F2:=(((((Fr.refl [] w).alloc (.cells #[.int .i64 (n:Int)] 3)).alloc (.cells #[.int .i64 who] 3)).alloc (.cells #[.int .i64 0] 3)).alloc (.cells #[.bool false] 4)).trans f2
 simp only [World.size_alloc] at hI hlt2 hw0 hr0 hs0
 have HG:=Lib.hid hg;have HI:=Lib.hid hI;have HQ:=Lib.hid hq0;have HW:=Lib.hid hw0;have HR:=Lib.hid hr0;have HS:=Lib.hid hs0;clear hg hI hq0 hw0 hr0 hs0 f2
 have hb:=F2.size
 obtain ⟨b,hbe⟩:∃b,b=w.heap.size:=⟨_,rfl⟩
 rw [←hbe] at HI HQ HW HR HS hlt2 ⊢
 have hbw:w.heap.size≤b:=Lb
 clear hbe
 have hs2:∀(x:Nat),(x=b+1+1∨x=b+1+1+1)→x=b+1+1∨x=b+1+1+1:=fun _ h=>h
 have qb:=cell_of (i:=0) HQ.out rfl
 go_wp2
 refine VX (xs:=Wp n) (enc:=Uu) rfl HG.out HI.out (fun x=>rfl)
  (fun k W O=>(∀(j:Nat) (y:Int),j<k→L[j]?=some y→y≠who)∧Xg w2 (fun x=>x=b+1+1+1+1) (fun x=>x=b+1+1∨x=b+1+1+1) (Zq b 0 false) k W O)
  (fun c k W O=>(c=.ret∧∃j:Nat,k=j+1∧L[j]?=some who∧who∉L.take j)∧Xg w2 (fun x=>x=b+1+1+1+1) (fun x=>x=b+1+1∨x=b+1+1+1) (fun k=>Zq b (Vt n (k - 1)) true k) k W O)
  ((Xg.stable _ _ _ _ (Nat.le_refl _)).and (fun k=>∀(j:Nat) (y:Int),j<k→L[j]?=some y→y≠who)) (fun c=>(Xg.stable _ _ _ _ (Nat.le_refl _)).and (fun k=>c=.ret∧∃j:Nat,k=j+1∧L[j]?=some who∧who∉L.take j))
  (fun x=>x=b+1+1∨x=b+1+1+1) (fun x hx=>by show x<w2.heap.size;have:=hs2 x hx;omega) (fun x hb h=>by rcases hb with hb|hb;exact hb.elim;have:=hs2 x h;have:x=b+1+1+1+1:=hb;omega)
  ⟨fun j y hj=>Lb,rfl,fun x hb=>by
    rcases hs2 x hb with rfl|rfl
    · simpa [Zq] using HR.out
    · simpa [Zq] using HS.out,Stp.refl _ _⟩ ?round ?done ?stop
 case round=>
  have hmix:Tryz.prog.follows .mixedOrders=true:=by kernel_rfl
  intro l' k x W1 O1 hx
  obtain ⟨hx1,hx2⟩:=VP hx
  rw [←HL.out] at hx2
  obtain ⟨xp,xw⟩:=x
  simp only at hx1 hx2
  subst hx1
  clear hx
  have hkl:=(List.getElem?_eq_some_iff.1 hx2).1
  have HX:=Lib.hid hx2;clear hx2
  simp only [Uu,List.zip_toArray,List.zip_cons_cons,List.zip_nil_right,List.foldl_toArray',List.foldl_cons,List.foldl_nil,List.setIfInBounds_toArray,List.set_cons_zero,List.set_cons_succ]
  gi_wp2
  refine ⟨rfl, ?_⟩
  rintro W2 ⟨hno,hJ⟩ hb2 hsz2
  obtain rfl:=hJ.1
  have hc1:W2.heap[b+1+1]?=some (.cells #[.int .i64 0] 3):=by have:=hJ.2.1 (b+1+1) (.inl rfl);simpa [Zq] using this
  have hc2:W2.heap[b+1+1+1]?=some (.cells #[.bool false] 4):=by have:=hJ.2.1 (b+1+1+1) (.inr rfl);simpa [Zq] using this
  have q1:W2.cell? ⟨b,0,none⟩=some (.int .i64 (n:Int)):=cell_of (i:=0) (hJ.2.2.at HQ.out (by show ¬((b=b+1+1∨b=b+1+1+1)∨b=b+1+1+1+1);omega)) rfl
  have q2:W2.cell? ⟨b+1,0,none⟩=some (.int .i64 who):=cell_of (i:=0) (hJ.2.2.at HW.out (by show ¬((b+1=b+1+1∨b+1=b+1+1+1)∨b+1=b+1+1+1+1);omega)) rfl
  have q3:W2.cell? ⟨b+1+1,0,none⟩=some (.int .i64 0):=cell_of (i:=0) hc1 rfl
  have q4:W2.frozen? ⟨b+1+1,0,none⟩=false:=Qb hc1
  have q5:W2.cell? ⟨b+1+1+1,0,none⟩=some (.bool false):=cell_of (i:=0) hc2 rfl
  have q6:W2.frozen? ⟨b+1+1+1,0,none⟩=false:=Qb hc2
  have HJ:=Lib.hid hJ;have HC1:=Lib.hid hc1;have HC2:=Lib.hid hc2;have HNO:=Lib.hid hno;clear hJ hc1 hc2 hno
  by_cases he:xw=who
  · subst he
    have hk4:(4*(k:Int)).toNat=4*k:=Lb
    have hk5:(4*((k:Int)+1)).toNat=4*k+4:=Lb
    have hw4:IntKind.i64.wrap (4*(k:Int))=4*(k:Int):=by rw [IntKind.wrap_i64];omega
    have hsh:∀x:Int,0≤x→x≤64→Op.shift .shl .i64 1 .i64 x=pure (.int .i64 (IntKind.i64.wrap (1*2 ^ x.toNat))):=fun x h0 h1=>shift_shl .i64 .i64 1 x h0 h1
    have hsh2:=hsh (4*(k:Int)) Lb Lb
    clear hsh
    have hpl:(2:Nat) ^ (4*k)≤2 ^ 60:=Nat.pow_le_pow_right (by decide) Lb
    have hp1:1≤(2:Nat) ^ (4*k):=Nat.pow_pos (by decide)
    have hpc:((2 ^ (4*k):Nat):Int)=(2:Int) ^ (4*k):=Lc
    have hwrap:IntKind.i64.wrap ((2:Int) ^ (4*k))=(2:Int) ^ (4*k):=by rw [←hpc,IntKind.wrap_i64];clear hpc;generalize 2 ^ (4*k)=p at hpl ⊢;omega
    rw [hk4,Int.one_mul,hwrap] at hsh2
    have hand:=YG n (2 ^ (4*k) - 1) Lb Lb
    rw [show ((2 ^ (4*k) - 1:Nat):Int)=(2:Int) ^ (4*k) - 1 by rw [←hpc];clear hpc;generalize 2 ^ (4*k)=p at hp1 ⊢;omega] at hand
    have hws:IntKind.i64.wrap ((2:Int) ^ (4*k) - 1)=(2:Int) ^ (4*k) - 1:=by rw [←hpc,IntKind.wrap_i64];clear hpc;generalize 2 ^ (4*k)=p at hpl hp1 ⊢;omega
    clear hpc
    gi_wp2
    refine KU hmix Lc ?_
    refine wpAnyIn_take (i:=1) (oi:=_) (v:= ?_) rfl rfl (by kernel_rfl) (by kernel_rfl) (by kernel_rfl) (fun _ _ _ h=>h) ⟨Or.inl ⟨by rfl, ?_⟩,fun _=>rfl⟩ ?_
    rotate_left
    · intro w
      exact Z0d
    try go_frame
    refine wpAnyIn_take (i:=2) (oi:=_) (v:= ?_) rfl rfl (by kernel_rfl) (by kernel_rfl) (by kernel_rfl) (fun _ _ _ h=>h) ⟨Or.inl ⟨by rfl, ?_⟩,fun _=>rfl⟩ ?_
    rotate_left
    · intro w
      exact Z0d
    try go_frame
    refine wpAnyIn_take (i:=3) (oi:=_) (v:= ?_) rfl rfl (by kernel_rfl) (by kernel_rfl) (by kernel_rfl) (fun _ _ _ h=>h) ⟨Or.inl ⟨by rfl, ?_⟩,fun _=>rfl⟩ ?_
    rotate_left
    · intro w
      exact Z0d
    try go_frame
    refine wpAnyIn_take (i:=4) (oi:=_) (v:= ?_) rfl rfl (by kernel_rfl) (by kernel_rfl) (by kernel_rfl) (fun _ _ _ h=>h) ⟨Or.inl ⟨by rfl, ?_⟩,fun _=>rfl⟩ ?_
    rotate_left
    · intro w
      exact Z0d
    try go_frame
    refine wpAnyIn_ready (rs:=[0]) (by kernel_rfl) Lc ?_
    refine (AllReadyIn.cons (o:=_) rfl (fun K hK=> ?_) AllReadyIn.nil)
    simp only [List.getElem_toArray,List.getElem_cons_zero]
    try rw [if_pos (by rfl)]
    unfold Oper.wpIn
    refine ⟨fun _ _=>trivial, ?_⟩
    rw [show Fence.wide.round=none from rfl,Oper.semAt_none]
    go_simp
    refine hK _ _ ?_
    clear hK K
    try go_frame
    refine wpAnyIn_take (i:=5) (oi:=_) (v:= ?_) rfl rfl (by kernel_rfl) (by kernel_rfl) (by kernel_rfl) (fun _ _ _ h=>h) ⟨Or.inl ⟨by rfl, ?_⟩,fun _=>rfl⟩ ?_
    rotate_left
    · intro w
      exact Z0d
    try go_frame
    refine wpAnyIn_take (i:=6) (oi:=_) (v:= ?_) rfl rfl (by kernel_rfl) (by kernel_rfl) (by kernel_rfl) (fun _ _ _ h=>h) ⟨Or.inl ⟨by rfl, ?_⟩,fun _=>rfl⟩ ?_
    rotate_left
    · intro w
      exact Z0d
    try go_frame
    refine wpAnyIn_done (by kernel_rfl) ?_ _
    have hw5:IntKind.i64.wrap (4*((k:Int)+1))=4*((k:Int)+1):=by rw [IntKind.wrap_i64];omega
    obtain ⟨U,hU⟩:∃U,U=n / 2 ^ (4*k+4)*2 ^ (4*k):=⟨_,rfl⟩
    obtain ⟨A,hA⟩:∃A,A=n % 2 ^ (4*k):=⟨_,rfl⟩
    have hUn:U≤n:=by
     have h1:n / 2 ^ (4*k+4)≤n / 2 ^ (4*k):=Nat.div_le_div_left (Nat.pow_le_pow_right (by decide) Lb) (Nat.pow_pos (by decide))
     have h2:=Nat.mul_le_mul_right (2 ^ (4*k)) h1
     have h3:=Nat.div_mul_le_self n (2 ^ (4*k))
     omega
    have hAn:A≤n:=by rw [hA];exact Nat.mod_le _ _
    have hw64:wrap64 ((n:Int) / 2 ^ (4*k+4)*2 ^ (4*k))=(U:Int):=by
     have e:((n:Int) / 2 ^ (4*k+4)*2 ^ (4*k))=(U:Int):=by rw [hU];simp
     rw [e];unfold wrap64;omega
    have hA2:(n:Int) % 2 ^ (4*k)=(A:Int):=by rw [hA];simp
    obtain ⟨z,hz⟩:∃z,z=Vt n k:=⟨_,rfl⟩
    have hor:bits .or .i64 (A:Int) (U:Int)=(z:Int):=cut_or n k A U z hn hAn hUn hA hU hz
    have HZ:=Lib.hid hz
    clear hU hA hand hz
    have HX2:=Lib.hid (show L[k]?=some xw∧xw∉L.take k from ⟨HX.out,fun hm=>by
     obtain ⟨j,hj⟩:=List.getElem?_of_mem hm
     rw [List.getElem?_take] at hj
     split at hj
     · rename_i hjk;exact HNO.out j xw hjk hj rfl
     · cases hj⟩)
    have fin:=HJ.out.next (W3:=((W2.setCell ⟨b+1+1,0,none⟩ (.int .i64 (z:Int))).setCell ⟨b+1+1+1,0,none⟩ (.bool true)).drew) (ob':=fun k=>Zq b (Vt n (k - 1)) true k) (k':=k+1)
     ((((Stp.refl (fun x=>x=b+1+1∨x=b+1+1+1) W2).setCell (p:=⟨b+1+1,0,none⟩) (.inl (.inl rfl)) _).setCell (p:=⟨b+1+1+1,0,none⟩) (.inl (.inr rfl)) _).drew) (fun x hb=>by
       rcases hs2 x hb with rfl|rfl
       · show ((W2.setCell ⟨b+1+1,0,none⟩ (.int .i64 (z:Int))).setCell ⟨b+1+1+1,0,none⟩ (.bool true)).heap[b+1+1]?=_
         rw [Below.heap_setCell _ _ _ _ (show b+1+1≠b+1+1+1 by omega)]
         have:=heap_setCell_same (i:=0) HC1.out (.int .i64 (z:Int))
         simpa [Zq,HZ.out] using this
       · have h2:(W2.setCell ⟨b+1+1,0,none⟩ (.int .i64 (z:Int))).heap[b+1+1+1]?=some (.cells #[.bool false] 4):=(Below.heap_setCell _ _ _ _ (show b+1+1+1≠b+1+1 by omega)).trans HC2.out
         have:=heap_setCell_same (i:=0) h2 (.bool true)
         show ((W2.setCell ⟨b+1+1,0,none⟩ (.int .i64 (z:Int))).setCell ⟨b+1+1+1,0,none⟩ (.bool true)).heap[b+1+1+1]?=_
         simpa [Zq] using this)
    have FIN:=Lib.hid fin;clear fin hs2
    gi_wp2
    obtain ⟨O',s1,s2,s3⟩:=FIN.out
    exact ⟨O',s1,s2,⟨rfl,k,rfl,HX2.out.1,HX2.out.2⟩,s3⟩
  · have hno':∀(j:Nat) (y:Int),j<k+1→L[j]?=some y→y≠who:=fun j y hj hy=>by
     rcases Nat.lt_or_ge j k with h|h
     · exact HNO.out j y h hy
     · obtain rfl:j=k:=Lb
       rw [HX.out] at hy
       simp only [Option.some.injEq] at hy
       exact hy▸he
    have HN:=Lib.hid hno';clear hno'
    gi_wp2
    obtain ⟨O',s1,s2,s3⟩:=HJ.out.next (W3:=W2) (ob':=Zq b 0 false) (k':=k+1) (Stp.refl _ _) (fun x hb=>HJ.out.2.1 x hb)
    exact ⟨O',s1,s2,HN.out,s3⟩
 case done=>
  rintro D W' O' hD ⟨hno,hJ⟩ _ hst _ hK hnD
  obtain rfl:=hJ.1
  have hm:who∉L:=VH (by rw [Zb,HL.out];exact Nat.le_refl _) hno
  have hc1:W'.heap[b+1+1]?=some (.cells #[.int .i64 0] 3):=by have:=hJ.2.1 (b+1+1) (.inl rfl);simpa [Zq] using this
  have hc2:W'.heap[b+1+1+1]?=some (.cells #[.bool false] 4):=by have:=hJ.2.1 (b+1+1+1) (.inr rfl);simpa [Zq] using this
  have q1:W'.cell? ⟨b,0,none⟩=some (.int .i64 (n:Int)):=cell_of (i:=0) (hJ.2.2.at HQ.out (by show ¬((b=b+1+1∨b=b+1+1+1)∨b=b+1+1+1+1);omega)) rfl
  have q3:W'.cell? ⟨b+1+1,0,none⟩=some (.int .i64 0):=cell_of (i:=0) hc1 rfl
  have q4:W'.frozen? ⟨b+1+1,0,none⟩=false:=Qb hc1
  have q5:W'.cell? ⟨b+1+1+1,0,none⟩=some (.bool false):=cell_of (i:=0) hc2 rfl
  have q6:W'.frozen? ⟨b+1+1+1,0,none⟩=false:=Qb hc2
  have hD1:D≠b+1+1:=fun e=>hnD (.inl e)
  have hD2:D≠b+1+1+1:=fun e=>hnD (.inr e)
  have h2:(W'.setCell ⟨b+1+1,0,none⟩ (.int .i64 (n:Int))).heap[b+1+1+1]?=some (.cells #[.bool false] 4):=(Below.heap_setCell _ _ _ _ (show b+1+1+1≠b+1+1 by omega)).trans hc2
  have r1:(((W'.setCell ⟨b+1+1,0,none⟩ (.int .i64 (n:Int))).setCell ⟨b+1+1+1,0,none⟩ (.bool false)).putObj D (.deferred none)).cell? ⟨b+1+1,0,none⟩=some (.int .i64 (n:Int)):=by
   refine cell_of (i:=0) (c:=#[.int .i64 (n:Int)]) (t:=3) (z:=(0,0)) ?_ rfl
   rw [World.putObj_heap_other (fun e=>hD1 e.symm),Below.heap_setCell _ _ _ _ (show b+1+1≠b+1+1+1 by omega)]
   have:=heap_setCell_same (i:=0) hc1 (.int .i64 (n:Int))
   simpa using this
  have r2:(((W'.setCell ⟨b+1+1,0,none⟩ (.int .i64 (n:Int))).setCell ⟨b+1+1+1,0,none⟩ (.bool false)).putObj D (.deferred none)).cell? ⟨b+1+1+1,0,none⟩=some (.bool false):=by
   exact Z0Q
  have hK2:((W'.setCell ⟨b+1+1,0,none⟩ (.int .i64 (n:Int))).setCell ⟨b+1+1+1,0,none⟩ (.bool false)).heap[D]?=some (.deferred (some [])):=(Below.heap_setCell _ _ _ _ hD2).trans ((Below.heap_setCell _ _ _ _ hD1).trans hK)
  have fin:Fr [] w (((W'.setCell ⟨b+1+1,0,none⟩ (.int .i64 (n:Int))).setCell ⟨b+1+1+1,0,none⟩ (.bool false)).putObj D (.deferred none)):=(((((Stp.Z9 F2).then hst (fun x hx=>by right;have hx2:(x=b+1+1∨x=b+1+1+1)∨x=b+1+1+1+1:=hx;omega)).setCell (p:=⟨b+1+1,0,none⟩) (.inr (by show w.heap.size≤b+1+1;omega)) _).setCell (p:=⟨b+1+1+1,0,none⟩) (.inr (by show w.heap.size≤b+1+1+1;omega)) _).putObj (.inr Lb) _).Gq (fun x hx=>by simp at hx)
  have FIN:=Lib.hid fin;have R1:=Lib.hid r1;have R2:=Lib.hid r2;have HK2:=Lib.hid hK2;have HM:=Lib.hid hm;clear fin r1 r2 hK2 hst hJ hc1 hc2 h2 hs2 hno hm
  go_wp2
  refine Xv (.tuple #[.int .i64 (n:Int),.bool false]) HK2.out ?_ ?_
  · have r1:=R1.out
    have r2:=R2.out
    simp [results,Tryz.f245,go_sem,r1,r2]
  · exact ⟨FIN.out,.inl ⟨HM.out,rfl⟩⟩
 case stop=>
  rintro D c k W' O' hD hk ⟨⟨rfl,j,hkj,hj1,hj2⟩,hJ⟩ _ hst _ hK hnD
  obtain rfl:j=k:=Lb
  clear hkj
  obtain rfl:=hJ.1
  have hc1:W'.heap[b+1+1]?=some (.cells #[.int .i64 (Vt n j:Int)] 3):=by have:=hJ.2.1 (b+1+1) (.inl rfl);simpa [Zq] using this
  have hc2:W'.heap[b+1+1+1]?=some (.cells #[.bool true] 4):=by have:=hJ.2.1 (b+1+1+1) (.inr rfl);simpa [Zq] using this
  have hD1:D≠b+1+1:=fun e=>hnD (.inl e)
  have hD2:D≠b+1+1+1:=fun e=>hnD (.inr e)
  have r1:(W'.putObj D (.deferred none)).cell? ⟨b+1+1,0,none⟩=some (.int .i64 (Vt n j:Int)):=by
   refine cell_of (i:=0) (c:=#[.int .i64 (Vt n j:Int)]) (t:=3) (z:=(0,0)) ?_ rfl
   rw [World.putObj_heap_other (fun e=>hD1 e.symm)];exact hc1
  have r2:(W'.putObj D (.deferred none)).cell? ⟨b+1+1+1,0,none⟩=some (.bool true):=by
   exact Z0W
  have fin:Fr [] w (W'.putObj D (.deferred none)):=(((Stp.Z9 F2).then hst (fun x hx=>by right;have hx2:(x=b+1+1∨x=b+1+1+1)∨x=b+1+1+1+1:=hx;omega)).putObj (.inr Lb) _).Gq (fun x hx=>by simp at hx)
  have FIN:=Lib.hid fin;have R1:=Lib.hid r1;have R2:=Lib.hid r2;have HM:=Lib.hid (And.intro hj1 hj2);clear fin r1 r2 hst hJ hc1 hc2 hs2 hj1 hj2
  go_wp2
  refine Xv (.tuple #[.int .i64 (Vt n j:Int),.bool true]) hK ?_ ?_
  · have r1:=R1.out
    have r2:=R2.out
    simp [results,Tryz.f245,go_sem,r1,r2]
  · exact ⟨FIN.out,.inr ⟨j,HM.out.1,HM.out.2,rfl⟩⟩
end
section
def Ln (L:List Int):Prop:=(∀x∈L,0≤x∧x≤14)∧L.Nodup
instance (L:List Int):Decidable (Ln L):=by unfold Ln;infer_instance
def wd:List Int→Nat
 |[]=>0
 |x::t=>(x+1).toNat+16*wd t
theorem Q0N {α:Type} [DecidableEq α]:∀(l s:List α),l.Nodup→(∀x∈l,x∈s)→l.length≤s.length
 |[],_,_,_=>Nat.zero_le _
 |a::t,s,hn,h=>by
  rw [List.nodup_cons] at hn
  have ha:=h a (List.mem_cons_self ..)
  have:=Q0N t (s.erase a) hn.2 fun x hx=>(List.mem_erase_of_ne (fun (e:x=a)=>hn.1 (e▸hx))).2 (h x (List.mem_cons_of_mem _ hx))
  rw [List.length_erase_of_mem ha] at this
  have hp:0<s.length:=List.length_pos_of_mem ha
  simp only [List.length_cons];omega
theorem Ln.nil:Ln []:=⟨Lc,Lc⟩
theorem Ln.length {L:List Int} (h:Ln L):L.length≤15:=by
 have:=Q0N L ((List.range 15).map Int.ofNat) h.2 fun x hx=>by
  have:=h.1 x hx
  rw [List.mem_map]
  exact ⟨x.toNat,by rw [List.mem_range];omega,by show ((x.toNat:Nat):Int)=x;omega⟩
 simpa using this
theorem Ln.tail {L:List Int} (h:Ln L):Ln L.tail:=by
 cases L with
 |nil=>exact h
 |cons a t=>exact ⟨fun x hx=>h.1 x (List.mem_cons_of_mem _ hx),(List.nodup_cons.1 h.2).2⟩
theorem Ln.filter {L:List Int} (h:Ln L) (p:Int→Bool):Ln (L.filter p):=⟨fun x hx=>h.1 x (List.mem_filter.1 hx).1,h.2.filter _⟩
theorem EH {L:List Int} {x:Int} (h:Ln L):Ln (L++[x])↔(0≤x∧x≤14∧x∉L):=by
 constructor
 · rintro ⟨h1,h2⟩
   have:=h1 x Lc
   rw [List.nodup_append] at h2
   exact ⟨this.1,this.2,fun hm=>h2.2.2 x hm x Lc rfl⟩
 · rintro ⟨h1,h2,h3⟩
   refine ⟨fun y hy=> ?_, ?_⟩
   · rcases List.mem_append.1 hy with hy|hy
     · exact h.1 y hy
     · rw [List.mem_singleton] at hy;subst hy;exact ⟨h1,h2⟩
   · rw [List.nodup_append]
     refine ⟨h.2,Lc,fun a ha b hb e=> ?_⟩
     rw [List.mem_singleton] at hb
     subst hb;subst e;exact h3 ha
theorem Q3v:∀(f:Nat) (L:List Int),L.length≤f→(∀x∈L,0≤x∧x≤14)→Kg f (wd L)=L
 |0,[],_,_=>rfl
 |f+1,[],_,_=>by simp [Kg,wd]
 |f+1,x::t,h,hx=>by
  have h1:=hx x (List.mem_cons_self ..)
  rw [Kg,wd,if_neg Lb]
  rw [show ((x+1).toNat+16*wd t) / 16=wd t by omega,Q3v f t (by simpa using h) (fun y hy=>hx y (List.mem_cons_of_mem _ hy))]
  congr 1
  omega
theorem Vk {L:List Int} (h:Ln L):Zr (wd L)=L:=Q3v 16 L (by have:=h.length;omega) h.1
theorem Df:∀(L:List Int),(∀x∈L,0≤x∧x≤14)→wd L<16 ^ L.length
 |[],_=>by simp [wd]
 |x::t,hx=>by
  have h1:=hx x (List.mem_cons_self ..)
  have h2:=Df t (fun y hy=>hx y (List.mem_cons_of_mem _ hy))
  rw [wd,List.length_cons,Nat.pow_succ];omega
theorem WO {L:List Int} (h:Ln L):wd L<1152921504606846976:=Nat.lt_of_lt_of_le (Df L h.1) (by
 have:=Nat.pow_le_pow_right (n:=16) (by decide) h.length
 exact Nat.le_trans this (by decide))
theorem wd_inj {L M:List Int} (h:Ln L) (h':Ln M) (e:wd L=wd M):L=M:=by rw [←Vk h,←Vk h',e]
theorem Q7T {L:List Int} (h:Ln L):wd L / 16=wd L.tail:=by
 cases L with
 |nil=>rfl
 |cons a t=>have:=h.1 a (List.mem_cons_self ..);simp only [wd,List.tail_cons];omega
theorem Ee:∀(L:List Int) (x:Int),wd (L++[x])=wd L+(x+1).toNat*16 ^ L.length
 |[],x=>by simp [wd]
 |a::t,x=>by
  rw [List.cons_append,wd,wd,Ee t x,List.length_cons,Nat.pow_succ,Nat.mul_add,Nat.add_assoc,Nat.mul_left_comm,Nat.mul_comm 16 (16 ^ t.length)]
theorem Q5j (n:Nat):Vt n 0=n / 16:=by simp [Vt,Nat.mod_one]
theorem Q5k (n k:Nat):Vt n (k+1)=n % 16+16*Vt (n / 16) k:=by
 unfold Vt
 rw [Nat.pow_succ 16 k,Nat.mul_comm (16 ^ k) 16,Nat.mod_mul,Nat.pow_succ 16 (k+1),Nat.mul_comm (16 ^ (k+1)) 16,←Nat.div_div_eq_div_mul,Nat.mul_add,Nat.add_assoc,Nat.pow_succ 16 k,Nat.mul_comm (16 ^ k) 16]
 congr 2
 rw [Nat.mul_left_comm]
theorem Q5O:∀(k:Nat) (L:List Int),(∀x∈L,0≤x∧x≤14)→k<L.length→Vt (wd L) k=wd (L.eraseIdx k)
 |0,a::t,hx,_=>by
  have h1:=hx a (List.mem_cons_self ..)
  rw [Q5j];simp only [wd,List.eraseIdx_zero,List.tail_cons];omega
 |k+1,a::t,hx,hk=>by
  have h1:=hx a (List.mem_cons_self ..)
  rw [Q5k,List.eraseIdx_cons_succ,wd,wd,show ((a+1).toNat+16*wd t) / 16=wd t by omega,Q5O k t (fun y hy=>hx y (List.mem_cons_of_mem _ hy)) (by simpa using hk)]
  omega
def rm (L:List Int) (x:Int):List Int:=L.filter fun y=>decide (y≠x)
theorem Q3f {L:List Int} {x:Int} (h:x∉L):rm L x=L:=List.filter_eq_self.2 fun y hy=>by simp;exact fun e=>h (e▸hy)
theorem Q1m:∀(k:Nat) (L:List Int) (x:Int),L.Nodup→L[k]?=some x→L.eraseIdx k=rm L x
 |0,a::t,x,hn,h=>by
  simp only [List.getElem?_cons_zero,Option.some.injEq] at h
  subst h
  rw [List.nodup_cons] at hn
  have:=Q3f hn.1
  simp only [rm] at this
  simp only [rm,List.eraseIdx_zero,List.tail_cons,ne_eq,not_true_eq_false,decide_false,Bool.false_eq_true,not_false_eq_true,List.filter_cons_of_neg]
  exact this.symm
 |k+1,a::t,x,hn,h=>by
  simp only [List.getElem?_cons_succ] at h
  rw [List.nodup_cons] at hn
  have hm:=List.mem_of_getElem? h
  have hax:a≠x:=fun e=>hn.1 (e▸hm)
  have:=Q1m k t x hn.2 h
  simp only [rm] at this
  simp [rm,hax]
  simpa using this
 |0,[],_,_,h=>by simp at h
 |k+1,[],_,_,h=>by simp at h
theorem Ln.rm {L:List Int} (h:Ln L) (x:Int):Ln (rm L x):=h.filter _
theorem Q7U {L:List Int} {k:Nat} {x:Int} (h:Ln L) (hk:L[k]?=some x):Vt (wd L) k=wd (rm L x):=by
 rw [Q5O k L h.1 (List.getElem?_eq_some_iff.1 hk).1,Q1m k L x h.2 hk]
end
section
open Go.RowKit Go.Shelf
attribute [local go_sem] Oper.semAt_some
theorem Q19 (w:World) (L:List Int) (h:Ln L):Calls Tryz.prog 258 #[.int .i64 (wd L:Int)] w fun e w'=>e=.returned (.int .i64 (L.length:Int))∧Fr [] w w':=by
 have:=Q8U w (wd L) (by have:=WO h;omega)
 rwa [Vk h] at this
theorem Q1d (w:World) (L:List Int) (who:Int) (h:Ln L):Calls Tryz.prog 196 #[.int .i64 (wd L:Int),.int .i64 who] w fun e w'=>e=.returned (.bool (decide (who∈L)))∧Fr [] w w':=by
 have:=Q8Y w (wd L) who (by have:=WO h;omega)
 rwa [Vk h] at this
theorem Q2Q (w:World) (L:List Int) (h:Ln L):Calls Tryz.prog 241 #[.int .i64 (wd L:Int)] w fun e w'=>e=.returned (DJ L)∧Fr [] w w':=by
 have:=Q6X w (wd L) (by have:=WO h;omega)
 rwa [Vk h] at this
theorem Q2W (w:World) (L:List Int) (who:Int) (h:Ln L):Calls Tryz.prog 245 #[.int .i64 (wd L:Int),.int .i64 who] w fun e w'=>
 e=.returned (.tuple #[.int .i64 (wd (rm L who):Int),.bool (decide (who∈L))])∧Fr [] w w':=by
 refine (Q7h w (wd L) who (by have:=WO h;omega)).mono fun e w'=> ?_
 rintro ⟨f,⟨hm,rfl⟩|⟨k,hk, -,rfl⟩⟩
 · rw [Vk h] at hm
   exact ⟨by rw [Q3f hm,decide_eq_false hm],f⟩
 · rw [Vk h] at hk
   exact ⟨by rw [Q7U h hk,decide_eq_true (List.mem_of_getElem? hk)],f⟩
theorem Q6s (w:World) (L:List Int) (h:Ln L):Calls Tryz.prog 243 #[.int .i64 (wd L:Int)] w fun e w'=>e=.returned (.int .i64 (wd L.tail:Int))∧Fr [] w w':=by
 have hlt:=WO h
 have ht:=Q7T h
 rw [←ht]
 clear ht
 generalize wd L=n at hlt ⊢
 go_in
 go_wp2
 go_ret
 exact ⟨by first|rfl|simp,Fr.refl _ _⟩
def VD (L:List Int) (x:Int):List Int:=if Ln (L++[x]) then L++[x] else L
theorem Z11 {P:Prop} (h:P:=by
 go_wp2
 go_ret2
 exact ⟨by rw [HB.out.1,HB.out.2];rfl,f1⟩):P:=h
theorem Q2j (w:World) (L:List Int) (who:Int) (h:Ln L):Calls Tryz.prog 268 #[.int .i64 (wd L:Int),.int .i64 who] w fun e w'=>
 e=.returned (.tuple #[.int .i64 (wd (VD L who):Int),.bool (decide (Ln (L++[who])))])∧Fr [] w w':=by
 have hlt:=WO h
 have hl15:=h.length
 obtain ⟨c,hc⟩:∃c,c=L.length:=⟨_,rfl⟩
 obtain ⟨n,hn⟩:∃n,n=wd L:=⟨_,rfl⟩
 have HN:=Lib.hid hn
 have HC:=Lib.hid hc
 rw [←hn] at hlt ⊢
 rw [←hc] at hl15
 clear hn hc
 have hno:¬(0≤who∧who≤14∧who∉L)→(wd (VD L who):Int)=(n:Int)∧decide (Ln (L++[who]))=false:=fun hh=>by
  have h1:¬Ln (L++[who]):=fun h2=>hh ((EH h).1 h2)
  exact ⟨by unfold VD;rw [if_neg h1,HN.out],decide_eq_false h1⟩
 have hyes:0≤who→who≤14→who∉L→(wd (VD L who):Int)=(n:Int)+(who+1)*2 ^ (4*c)∧decide (Ln (L++[who]))=true∧c<15∧(who+1)*2 ^ (4*c)≤1152921504606846976∧(n:Int)+(who+1)*2 ^ (4*c)≤1152921504606846976:=fun a1 a2 a3=>by
  have h1:Ln (L++[who]):=(EH h).2 ⟨a1,a2,a3⟩
  have h2:=WO h1
  have h3:=h1.length
  rw [List.length_append,List.length_singleton,←HC.out] at h3
  rw [Ee] at h2
  have e:(((who+1).toNat*16 ^ L.length:Nat):Int)=(who+1)*2 ^ (4*c):=by
   rw [HC.out,show (16:Nat) ^ L.length=2 ^ (4*L.length) by rw [Nat.pow_mul],Int.natCast_mul,Int.toNat_of_nonneg Lb]
   simp
  refine ⟨?_,decide_eq_true h1,Lb, ?_, ?_⟩
  · unfold VD;rw [if_pos h1,Ee,HN.out,Int.natCast_add,e]
  · rw [←e];omega
  · rw [←e,HN.out];omega
 have HNO:=Lib.hid hno;have HY:=Lib.hid hyes;have HH:=Lib.hid h
 have hlen:=Q19
 clear hno hyes
 go_in
 go_wp2_with fail
 rw [HN.out]
 refine (Q19 _ L h).mono ?_
 rintro e w1 ⟨rfl,f1⟩
 rw [←HN.out,←HC.out]
 clear h hlen
 by_cases ha:who<0
 · have HB:=Lib.hid (HNO.out Lb)
   exact Z11
 · by_cases hb:14<who
   · have HB:=Lib.hid (HNO.out Lb)
     exact Z11
   · by_cases hd:15≤(c:Int)
     · have HB:=Lib.hid (HNO.out (fun hh=>by have:=(HY.out hh.1 hh.2.1 hh.2.2).2.2.1;omega))
       exact Z11
     · go_wp2_with fail
       rw [HN.out]
       refine (Q1d _ L who HH.out).mono ?_
       rintro e w2 ⟨rfl,f2⟩
       rw [←HN.out]
       have F2:=f1.trans f2
       by_cases hm:who∈L
       · have HB:=Lib.hid (HNO.out (fun hh=>hh.2.2 hm))
         rw [decide_eq_true hm]
         clear hm
         go_wp2
         go_ret2
         exact ⟨by rw [HB.out.1,HB.out.2];rfl,F2⟩
       · obtain ⟨y1,y2,y3,y4,y5⟩:=HY.out Lb Lb hm
         rw [decide_eq_false hm]
         clear hm
         have Y:=Lib.hid (And.intro y1 y2)
         have hsh:∀x a:Int,0≤x→x≤64→Op.shift .shl .i64 a .i64 x=pure (.int .i64 (IntKind.i64.wrap (a*2 ^ x.toNat))):=fun x a h0 h1=>shift_shl .i64 .i64 a x h0 h1
         have hsh2:=hsh (4*(c:Int)) (who+1) Lb Lb
         rw [show (4*(c:Int)).toNat=4*c by omega] at hsh2
         have hp0:0≤(who+1)*2 ^ (4*c):=Int.mul_nonneg Lb (Int.pow_nonneg (by decide))
         rw [show IntKind.i64.wrap ((who+1)*2 ^ (4*c))=(who+1)*2 ^ (4*c) by rw [IntKind.wrap_i64];omega] at hsh2
         obtain ⟨X,hX⟩:∃X,X=(who+1)*2 ^ (4*c):=⟨_,rfl⟩
         have HX:=Lib.hid hX
         rw [←hX] at hp0 y4 y5 hsh2
         clear hX hsh y1 y2
         go_wp2
         go_ret2
         exact ⟨by rw [Y.out.1,Y.out.2,←HX.out,←(show wrap64 ((n:Int)+wrap64 X)=(n:Int)+X by unfold wrap64;omega)];rfl,F2⟩
end
section
open Go.RowKit Go.Shelf
theorem Q2R {w wr w1:World} {B n:Nat} {e:TypeId} {v:Value} {xs:List Value} {o:Obj} (f:Fr [] w wr) (hown:wr.ownsRow B e 1 v n xs) (hB:w.heap.size≤B) (hg:(wr.alloc o).grownBy w1 v.ownBlock):Fr [] w w1:=
 (f.alloc o).grown hg (fun k hk=>.inr (Nat.le_trans hB (hown.lt k hk).1))
theorem V8 {L:List Int} {k:Nat} {x:Int} (h:L[k]?=some x):L.take (k+1)=L.take k++[x]:=by
 rw [List.take_add_one,h];rfl
def Q6h:Nat→Nat→List Int
 |0,_=>[]
 |f+1,n=>if n % 16=0 then [] else ((n:Int) % 16 - 1)::Q6h f (n / 16)
def refL (n:Nat):List Int:=Q6h 16 n
theorem Q3i:∀(f:Nat) (L:List Int),L.length≤f→(∀x∈L,0≤x∧x≤14)→Q6h f (wd L)=L
 |0,[],_,_=>rfl
 |f+1,[],_,_=>by simp [Q6h,wd]
 |f+1,x::t,h,hx=>by
  have h1:=hx x (List.mem_cons_self ..)
  rw [Q6h,wd,if_neg Lb]
  rw [show ((x+1).toNat+16*wd t) / 16=wd t by omega,Q3i f t (by simpa using h) (fun y hy=>hx y (List.mem_cons_of_mem _ hy))]
  congr 1
  omega
theorem Q8o {L:List Int} (h:Ln L):refL (wd L)=L:=Q3i 16 L (by have:=h.length;omega) h.1
def Q3h (q:Int):List Int:=if q<0 then [] else refL q.toNat
theorem Q6g {L:List Int} (h:Ln L):Q3h (wd L:Int)=L:=by unfold Q3h;rw [if_neg Lb,Int.toNat_natCast,Q8o h]
end
section
open Go.RowKit
structure JQ (T:Nat) (w:World) (p q cap:Nat) (cur:Array Value) (L:List Int) (t:Int):Prop where
 hp:w.heap[p]?=some (.cells #[.slice (some ⟨q,0,none⟩) L.length cap,.int .i64 t] T (0,0))
 hq:w.heap[q]?=some (.cells cur 3 (0,0))
 hl:L.length≤cap
 hm:cap≤maxLen
 hs:cur.size=cap
 ht:∀(j:Nat) (v:Int),L[j]?=some v→cur[j]?=some (.int .i64 v)
 hne:p≠q
section
variable {T:Nat} {w:World} {p q cap:Nat} {cur:Array Value} {L:List Int} {t:Int}
theorem JQ.c0 (h:JQ T w p q cap cur L t):w.cell? ⟨p,0,none⟩=some (.slice (some ⟨q,0,none⟩) L.length cap):=cell_of h.hp rfl
theorem JQ.c1 (h:JQ T w p q cap cur L t):w.cell? ⟨p,1,none⟩=some (.int .i64 t):=cell_of h.hp rfl
theorem JQ.f1 (h:JQ T w p q cap cur L t) (i:Nat):w.frozen? ⟨p,i,none⟩=false:=Qb h.hp
theorem JQ.cq (h:JQ T w p q cap cur L t) {i:Nat} {v:Int} (hi:L[i]?=some v):w.cell? ⟨q,i,none⟩=some (.int .i64 v):=cell_of h.hq (h.ht i v hi)
theorem JQ.fq (h:JQ T w p q cap cur L t) (i:Nat):w.frozen? ⟨q,i,none⟩=false:=Qb h.hq
theorem JQ.touch (h:JQ T w p q cap cur L t) (u:Int):JQ T (w.setCell ⟨p,1,none⟩ (.int .i64 u)) p q cap cur L u:=
 ⟨heap_setCell_same h.hp _,Xy h.hq (fun e=>h.hne e.symm) _,h.hl,h.hm,h.hs,h.ht,h.hne⟩
theorem JQ.put (h:JQ T w p q cap cur L t) (i:Nat) (u:Int):JQ T (w.setCell ⟨q,i,none⟩ (.int .i64 u)) p q cap (cur.setIfInBounds i (.int .i64 u)) (L.set i u) t:=by
 refine ⟨by rw [List.length_set];exact Xy h.hp h.hne _,heap_setCell_same h.hq _,by simpa using h.hl,h.hm,by simpa using h.hs,fun j v hv=> ?_,h.hne⟩
 rw [List.getElem?_set] at hv
 rw [Array.getElem?_setIfInBounds]
 split at hv
 · rename_i e;subst e
   split at hv
   · rename_i hlt
     have:i<cur.size:=by have:=h.hl;have:=h.hs;omega
     simp_all
   · cases hv
 · rename_i e
   rw [if_neg e];exact h.ht j v hv
theorem JQ.alloc (h:JQ T w p q cap cur L t) (o:Obj):JQ T (w.alloc o) p q cap cur L t:=
 ⟨Qh h.hp _,Qh h.hq _,h.hl,h.hm,h.hs,h.ht,h.hne⟩
theorem JQ.drew (h:JQ T w p q cap cur L t):JQ T w.drew p q cap cur L t:=⟨h.hp,h.hq,h.hl,h.hm,h.hs,h.ht,h.hne⟩
theorem JQ.fr {S:List Nat} {w':World} (h:JQ T w p q cap cur L t) (f:Fr S w w') (hp:p∉S) (hq:q∉S):JQ T w' p q cap cur L t:=
 ⟨f.at h.hp hp,f.at h.hq hq,h.hl,h.hm,h.hs,h.ht,h.hne⟩
theorem JQ.plt (h:JQ T w p q cap cur L t):p<w.heap.size:=Q9 h.hp
theorem JQ.qlt (h:JQ T w p q cap cur L t):q<w.heap.size:=Q9 h.hq
end
def QJ (T:Nat) (w:World) (p q:Nat) (L:List Int) (t:Int):Prop:=∃cap cur,JQ T w p q cap cur L t
theorem QJ.fr {T:Nat} {S:List Nat} {w w':World} {p q:Nat} {L:List Int} {t:Int} (h:QJ T w p q L t) (f:Fr S w w') (hp:p∉S) (hq:q∉S):QJ T w' p q L t:=by
 obtain ⟨cap,cur,h⟩:=h;exact ⟨cap,cur,h.fr f hp hq⟩
theorem QJ.drew {T:Nat} {w:World} {p q:Nat} {L:List Int} {t:Int} (h:QJ T w p q L t):QJ T w.drew p q L t:=by obtain ⟨cap,cur,h⟩:=h;exact ⟨cap,cur,h.drew⟩
theorem QJ.ne {T:Nat} {w:World} {p q:Nat} {L:List Int} {t:Int} (h:QJ T w p q L t):p≠q:=by obtain ⟨_,_,h⟩:=h;exact h.hne
theorem QJ.plt {T:Nat} {w:World} {p q:Nat} {L:List Int} {t:Int} (h:QJ T w p q L t):p<w.heap.size:=by obtain ⟨_,_,h⟩:=h;exact h.plt
theorem QJ.qlt {T:Nat} {w:World} {p q:Nat} {L:List Int} {t:Int} (h:QJ T w p q L t):q<w.heap.size:=by obtain ⟨_,_,h⟩:=h;exact h.qlt
def Left (T p q:Nat) (L:List Int) (t:Int) (w w':World):Prop:=QJ T w' p q L t∧Fr [p,q] w w'
theorem XH {L:List Int} {i:Int} (h0:0≤i) (h1:i<L.length):L[i.toNat]?=some (L.getD i.toNat 0):=by
 have:i.toNat<L.length:=Lb
 simp [this]
theorem Q8S (w:World) (p q:Nat) (L:List Int) (t i:Int) (hM:QJ 112 w p q L t) (ht0:0≤t) (ht1:t<4611686018427387904) (hi0:0≤i) (hi1:i<L.length):
 Calls Tryz.prog 44 #[.pointer (some ⟨p,0,none⟩),.int .i64 i] w fun e w'=>e=.returned (.int .i64 (L.getD i.toNat 0))∧Left 112 p q L (t+1) w w':=by
 obtain ⟨cap,cur,h⟩:=hM
 have hL:L.length≤9223372036854775807:=by have:=h.hl;have:=h.hm;unfold maxLen at this;omega
 have c0:=h.c0;have c1:=h.c1;have f1:=h.f1 1;have hp:=h.plt;have hq:=h.qlt
 have cq:=h.cq (XH hi0 hi1)
 have hne:=h.hne
 have H:JQ 112 (w.setCell ⟨p,1,none⟩ (.int .i64 (t+1))) p q cap cur L (t+1):=h.touch _
 generalize L.getD i.toNat 0=v at cq ⊢
 go_in
 go_wp2
 go_ret
 exact ⟨rfl,⟨cap,cur,H⟩,(Fr.refl _ _).setCell (.inl Lc) _⟩
theorem YV (w:World) (p q:Nat) (L:List Int) (t i:Int) (hM:QJ 112 w p q L t) (hi:i<0):
 Calls Tryz.prog 44 #[.pointer (some ⟨p,0,none⟩),.int .i64 i] w fun e w'=>e=.returned (.int .i64 0)∧Left 112 p q L t w w':=by
 obtain ⟨cap,cur,h⟩:=hM
 have hL:L.length≤9223372036854775807:=by have:=h.hl;have:=h.hm;unfold maxLen at this;omega
 have c0:=h.c0;have c1:=h.c1;have f1:=h.f1 1;have hp:=h.plt;have hq:=h.qlt
 go_in
 go_wp2
 go_ret
 exact ⟨rfl,⟨cap,cur,h⟩,Fr.refl _ _⟩
theorem Q4W (w:World) (p q:Nat) (L:List Int) (t i:Int) (hM:QJ 112 w p q L t) (hi0:0≤i) (hi:(L.length:Int)≤i):
 Calls Tryz.prog 44 #[.pointer (some ⟨p,0,none⟩),.int .i64 i] w fun e w'=>e=.returned (.int .i64 0)∧Left 112 p q L t w w':=by
 obtain ⟨cap,cur,h⟩:=hM
 have hL:L.length≤9223372036854775807:=by have:=h.hl;have:=h.hm;unfold maxLen at this;omega
 have c0:=h.c0;have c1:=h.c1;have f1:=h.f1 1;have hp:=h.plt;have hq:=h.qlt
 go_in
 go_wp2
 go_ret
 exact ⟨rfl,⟨cap,cur,h⟩,Fr.refl _ _⟩
theorem Q62 (w:World) (p q:Nat) (L:List Int) (t i v:Int) (hM:QJ 112 w p q L t) (ht0:0≤t) (ht1:t<4611686018427387904) (hi0:0≤i) (hi1:i<L.length):
 Calls Tryz.prog 45 #[.pointer (some ⟨p,0,none⟩),.int .i64 i,.int .i64 v] w fun e w'=>e=.returned (.bool true)∧Left 112 p q (L.set i.toNat v) (t+1) w w':=by
 obtain ⟨cap,cur,h⟩:=hM
 have hL:L.length≤9223372036854775807:=by have:=h.hl;have:=h.hm;unfold maxLen at this;omega
 have c0:=h.c0;have c1:=h.c1;have f1:=h.f1 1;have hp:=h.plt;have hq:=h.qlt
 have cq:=h.cq (XH hi0 hi1)
 have fq:=h.fq i.toNat
 have hne:=h.hne
 have H:=((h.touch (t+1)).put i.toNat v).alloc (.cells #[.int .i64 v] 3)
 generalize L.getD i.toNat 0=u at cq
 go_in
 go_wp2
 go_ret
 exact ⟨rfl,⟨cap,_,H⟩,(((Fr.refl _ _).setCell (.inl Lc) _).setCell (.inl Lc) _).alloc _⟩
theorem Q48 (w:World) (p q:Nat) (L:List Int) (t i v:Int) (hM:QJ 112 w p q L t) (hi:i<0):
 Calls Tryz.prog 45 #[.pointer (some ⟨p,0,none⟩),.int .i64 i,.int .i64 v] w fun e w'=>e=.returned (.bool false)∧Left 112 p q L t w w':=by
 obtain ⟨cap,cur,h⟩:=hM
 have hL:L.length≤9223372036854775807:=by have:=h.hl;have:=h.hm;unfold maxLen at this;omega
 have c0:=h.c0;have c1:=h.c1;have f1:=h.f1 1;have hp:=h.plt;have hq:=h.qlt
 go_in
 go_wp2
 go_ret
 exact ⟨rfl,⟨cap,cur,(h.alloc _)⟩,(Fr.refl _ _).alloc _⟩
theorem Q20 (w:World) (p q:Nat) (L:List Int) (t i v:Int) (hM:QJ 112 w p q L t) (hi0:0≤i) (hi:(L.length:Int)≤i):
 Calls Tryz.prog 45 #[.pointer (some ⟨p,0,none⟩),.int .i64 i,.int .i64 v] w fun e w'=>e=.returned (.bool false)∧Left 112 p q L t w w':=by
 obtain ⟨cap,cur,h⟩:=hM
 have hL:L.length≤9223372036854775807:=by have:=h.hl;have:=h.hm;unfold maxLen at this;omega
 have c0:=h.c0;have c1:=h.c1;have f1:=h.f1 1;have hp:=h.plt;have hq:=h.qlt
 go_in
 go_wp2
 go_ret
 exact ⟨rfl,⟨cap,cur,(h.alloc _)⟩,(Fr.refl _ _).alloc _⟩
theorem cas_no (w:World) (p q:Nat) (L:List Int) (t i o n:Int) (hM:QJ 112 w p q L t) (ht0:0≤t) (ht1:t<4611686018427387904) (hi0:0≤i) (hi1:i<L.length) (hv:(L.getD i.toNat 0 != o)=true):
 Calls Tryz.prog 159 #[.pointer (some ⟨p,0,none⟩),.int .i64 i,.int .i64 o,.int .i64 n] w fun e w'=>e=.returned (.bool false)∧Left 112 p q (L) (t+1) w w':=by
 obtain ⟨cap,cur,h⟩:=hM
 have hL:L.length≤9223372036854775807:=by have:=h.hl;have:=h.hm;unfold maxLen at this;omega
 have c0:=h.c0;have c1:=h.c1;have f1:=h.f1 1;have hp:=h.plt;have hq:=h.qlt
 have cq:=h.cq (XH hi0 hi1)
 have fq:=h.fq i.toNat
 have hne:=h.hne
 have H:=(((h.touch (t+1)).alloc (.cells #[.int .i64 o] 3)).alloc (.cells #[.int .i64 n] 3)).drew
 generalize L.getD i.toNat 0=u at cq hv
 go_in
 go_wp2
 go_region
 all_goals go_wp2
 all_goals (go_ret;exact ⟨rfl,⟨cap,_,H⟩,((((Fr.refl _ _).setCell (.inl Lc) _).alloc _).alloc _).drew⟩)
theorem Q9c (w:World) (p q:Nat) (L:List Int) (t i o n:Int) (hM:QJ 112 w p q L t) (ht0:0≤t) (ht1:t<4611686018427387904) (hi0:0≤i) (hi1:i<L.length) (hv:(L.getD i.toNat 0 != o)=false):
 Calls Tryz.prog 159 #[.pointer (some ⟨p,0,none⟩),.int .i64 i,.int .i64 o,.int .i64 n] w fun e w'=>e=.returned (.bool true)∧Left 112 p q (L.set i.toNat n) (t+1) w w':=by
 obtain ⟨cap,cur,h⟩:=hM
 have hL:L.length≤9223372036854775807:=by have:=h.hl;have:=h.hm;unfold maxLen at this;omega
 have c0:=h.c0;have c1:=h.c1;have f1:=h.f1 1;have hp:=h.plt;have hq:=h.qlt
 have cq:=h.cq (XH hi0 hi1)
 have fq:=h.fq i.toNat
 have hne:=h.hne
 have H:=((((h.touch (t+1)).put i.toNat n).alloc (.cells #[.int .i64 o] 3)).alloc (.cells #[.int .i64 n] 3)).drew
 generalize L.getD i.toNat 0=u at cq hv
 go_in
 go_wp2
 go_region
 all_goals go_wp2
 all_goals (go_ret;exact ⟨rfl,⟨cap,_,H⟩,(((((Fr.refl _ _).setCell (.inl Lc) _).setCell (.inl Lc) _).alloc _).alloc _).drew⟩)
theorem Q9d (w:World) (p q:Nat) (L:List Int) (t i o n:Int) (hM:QJ 112 w p q L t) (hi:i<0):
 Calls Tryz.prog 159 #[.pointer (some ⟨p,0,none⟩),.int .i64 i,.int .i64 o,.int .i64 n] w fun e w'=>e=.returned (.bool false)∧Left 112 p q (L) (t) w w':=by
 obtain ⟨cap,cur,h⟩:=hM
 have hL:L.length≤9223372036854775807:=by have:=h.hl;have:=h.hm;unfold maxLen at this;omega
 have c0:=h.c0;have c1:=h.c1;have f1:=h.f1 1;have hp:=h.plt;have hq:=h.qlt
 go_in
 go_wp2
 go_ret
 exact ⟨rfl,⟨cap,_,(h.alloc _).alloc _⟩,((Fr.refl _ _).alloc _).alloc _⟩
theorem Q7m (w:World) (p q:Nat) (L:List Int) (t i o n:Int) (hM:QJ 112 w p q L t) (hi0:0≤i) (hi:(L.length:Int)≤i):
 Calls Tryz.prog 159 #[.pointer (some ⟨p,0,none⟩),.int .i64 i,.int .i64 o,.int .i64 n] w fun e w'=>e=.returned (.bool false)∧Left 112 p q (L) (t) w w':=by
 obtain ⟨cap,cur,h⟩:=hM
 have hL:L.length≤9223372036854775807:=by have:=h.hl;have:=h.hm;unfold maxLen at this;omega
 have c0:=h.c0;have c1:=h.c1;have f1:=h.f1 1;have hp:=h.plt;have hq:=h.qlt
 go_in
 go_wp2
 go_ret
 exact ⟨rfl,⟨cap,_,(h.alloc _).alloc _⟩,((Fr.refl _ _).alloc _).alloc _⟩
end
end Go.Proofs.YtgjklfmnmljilaaGreatDoor

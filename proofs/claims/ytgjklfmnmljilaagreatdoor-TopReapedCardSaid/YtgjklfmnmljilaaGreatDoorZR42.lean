/- A part of the proof. -/
import Derived.Test.YtgjklfmnmljilaaGreatDoorZR41
import Derived.Lib.SmallJoins
import Derived.Lib.LaidU8
import Derived.Lay
import Derived.MakeChecks
import Derived.ChangeOld
import Derived.LaidMore
import Derived.LaidOnce
import Derived.SevenTiedAt
import Derived.Test.YtgjklfmnmljilaaGreatDoorCards
import Derived.Test.YtgjklfmnmljilaaGreatDoorTie
namespace Go.Proofs.YtgjklfmnmljilaaGreatDoor
set_option linter.unusedVariables false
set_option linter.unusedSimpArgs false
set_option linter.unusedSectionVars false
set_option linter.unnecessarySimpa false
set_option maxRecDepth 100000
set_option maxHeartbeats 8000000
section
open Go.ChangeShapes Go.WideShapes Go.Deep Go.RowKit Go.Joins
theorem YL.empty (w:World) (g:Option Addr):YL w g []:=⟨Lc,Lc,fun j x h=>by simp at h⟩
theorem Q8T {α:Type} {P:Nat→α→Prop} (n:Nat) (h:∀i,i<n→∃x,P i x):∃l:List α,l.length=n∧∀(j:Nat) (x:α),l[j]?=some x→P j x:=by
 induction n with
 |zero=>exact ⟨[],rfl,fun j x hx=>by simp at hx⟩
 |succ n ih=>
  obtain ⟨l,hl,hp⟩:=ih (fun i hi=>h i Lb)
  obtain ⟨x,hx⟩:=h n Lb
  refine ⟨l++[x],by simp [hl],fun j y hy=> ?_⟩
  rw [List.getElem?_append] at hy
  split at hy
  · exact hp j y hy
  · have hj:j - l.length=0:=by
     rcases Nat.eq_zero_or_pos (j - l.length) with h0|h0
     · exact h0
     · rw [List.getElem?_eq_none (by simp;omega)] at hy;cases hy
    rw [hj] at hy
    simp at hy
    subst hy
    rw [show j=n by omega];exact hx
theorem got {α:Type} {o:Option α} {l:List α} {k:Nat} (h:o=l[k]?) (hk:k<l.length):∃y,o=some y:=⟨_,h.trans (List.getElem?_eq_getElem hk)⟩
section
variable {H:Type} {enc:TypeId×Value→H} {w:World} {base:Nat} {spare:Nat→Bool} {held:Bool}
theorem Q6z {fuel:Nat} {g:Option Addr} {len cap:Nat} {x:DataW H×List MemPlace} (h:DataW.trod enc Tryz.prog w base spare held fuel 25 [.slice g len cap]=some x):
 ∃L:List Int,L.length=len∧len≤cap∧YL w g L:=by
 rcases open_ints Tryz.underlying25 Tryz.underlying5 (by kernel_rfl) h with ⟨hcs,_⟩|⟨a,len',cap',zs,hcs,_,hl,hm,hz,_,hcell,hwz⟩
 · simp at hcs
   obtain ⟨rfl,rfl,rfl⟩:=hcs
   exact ⟨[],rfl,Nat.le_refl _,YL.empty _ _⟩
 · simp at hcs
   obtain ⟨rfl,rfl,rfl⟩:=hcs
   obtain ⟨b,off,spot⟩:=a
   have hz':len≤zs.length∧zs.length≤cap:=by simp only at hz;split at hz<;>omega
   refine ⟨zs.take len,by simp;omega,hl,by simp;unfold maxLen at hm;omega,fun n hn=>bounds_u8 (hwz n (List.mem_of_mem_take hn)),fun j y hy=> ?_⟩
   rw [List.getElem?_take] at hy
   split at hy
   · rename_i hj
     have hjz:j<zs.length:=(List.getElem?_eq_some_iff.1 hy).1
     have hc:=hcell j hjz
     have h0:=hcell 0 Lb
     have hspot:spot=none:=by
      have:=World.cell?_spot h0
      simpa [Addr.add] using this
     subst hspot
     refine ⟨b,off,rfl, ?_⟩
     have e:zs.getD j 0=y:=by simp [List.getD,hy]
     rw [e] at hc
     exact KF hc
   · cases hy
theorem list5 {α:Type} (l:List α) (h:l.length=5):∃a0 a1 a2 a3 a4,l=[a0,a1,a2,a3,a4]:=by
 match l,h with
 |[a0,a1,a2,a3,a4],_=>exact ⟨a0,a1,a2,a3,a4,rfl⟩
theorem Q7k:Tryz.prog.cellsOf 5=1:=by kernel_rfl
theorem Q9b:Tryz.prog.cellsOf 23=5:=by kernel_rfl
theorem Q6B {r:Reach} {b0:Nat} {v:Value} {d:DataW H} {p:List MemPlace} (hv:Value.okWide Tryz.prog w r b0 23 v) (h:DataW.Trod enc Tryz.prog w base spare held 23 v d p):
 ∃a0 a1 a2 a3 a4:Int,v=.agg #[.int .u8 a0,.int .u8 a1,.int .u8 a2,.int .u8 a3,.int .u8 a4]∧(0≤a0∧a0≤255)∧(0≤a1∧a1≤255)∧(0≤a2∧a2≤255)∧(0≤a3∧a3≤255)∧(0≤a4∧a4≤255):=by
 obtain ⟨cs,rfl,hsz⟩:=okWide_struct Tryz.underlying23 hv
 obtain ⟨fuel,hf0⟩:=h
 have hf1:DataW.trod enc Tryz.prog w base spare held fuel 23 cs.toList=some (d,p):=hf0
 obtain ⟨zs,m',hm',hz,hzlen,hzl,hg⟩:=DataW.trod_struct Tryz.underlying23 hf1
 rw [Q9b] at hzlen
 obtain ⟨c0,c1,c2,c3,c4,hcs⟩:=list5 cs.toList hzlen
 rw [hcs] at hg
 have hzl5:zs.length=5:=hzl
 have k0:DataW.trod enc Tryz.prog w base spare held m' 5 (([c0,c1,c2,c3,c4].drop 0).take (Tryz.prog.cellsOf 5))=zs[0]?:=hg 0 _ rfl
 have k1:DataW.trod enc Tryz.prog w base spare held m' 5 (([c0,c1,c2,c3,c4].drop 1).take (Tryz.prog.cellsOf 5))=zs[1]?:=hg 1 _ rfl
 have k2:DataW.trod enc Tryz.prog w base spare held m' 5 (([c0,c1,c2,c3,c4].drop 2).take (Tryz.prog.cellsOf 5))=zs[2]?:=hg 2 _ rfl
 have k3:DataW.trod enc Tryz.prog w base spare held m' 5 (([c0,c1,c2,c3,c4].drop 3).take (Tryz.prog.cellsOf 5))=zs[3]?:=hg 3 _ rfl
 have k4:DataW.trod enc Tryz.prog w base spare held m' 5 (([c0,c1,c2,c3,c4].drop 4).take (Tryz.prog.cellsOf 5))=zs[4]?:=hg 4 _ rfl
 rw [Q7k] at k0 k1 k2 k3 k4
 obtain ⟨z0,s0⟩:=got k0 Lb
 obtain ⟨z1,s1⟩:=got k1 Lb
 obtain ⟨z2,s2⟩:=got k2 Lb
 obtain ⟨z3,s3⟩:=got k3 Lb
 obtain ⟨z4,s4⟩:=got k4 Lb
 obtain ⟨a0,e0,_,w0⟩:=DataW.trod_int Tryz.underlying5 s0
 obtain ⟨a1,e1,_,w1⟩:=DataW.trod_int Tryz.underlying5 s1
 obtain ⟨a2,e2,_,w2⟩:=DataW.trod_int Tryz.underlying5 s2
 obtain ⟨a3,e3,_,w3⟩:=DataW.trod_int Tryz.underlying5 s3
 obtain ⟨a4,e4,_,w4⟩:=DataW.trod_int Tryz.underlying5 s4
 simp at e0 e1 e2 e3 e4
 subst e0 e1 e2 e3 e4
 refine ⟨a0,a1,a2,a3,a4, ?_,bounds_u8 w0,bounds_u8 w1,bounds_u8 w2,bounds_u8 w3,bounds_u8 w4⟩
 obtain ⟨l⟩:=cs
 simp at hcs
 subst hcs
 rfl
theorem Q6A {fuel:Nat} {g:Option Addr} {len cap:Nat} {x:DataW H×List MemPlace} (h:DataW.trod enc Tryz.prog w base spare held fuel 24 [.slice g len cap]=some x):
 ∃L:List YA,L.length=len∧W9 w g L:=by
 rcases KW Tryz.underlying24 Tryz.underlying62 (by kernel_rfl) (by kernel_rfl) h with e|⟨a,len',cap',e,hl,hm,hf⟩
 · simp at e
   obtain ⟨rfl,rfl,rfl⟩:=e
   exact ⟨[],rfl,fun t ht=>by simp at ht,fun j t ht=>by simp at ht⟩
 · simp at e
   obtain ⟨rfl,rfl,rfl⟩:=e
   obtain ⟨b,off,spot⟩:=a
   have hspot:len=0∨spot=none:=by
    by_cases h0:len=0
    · exact .inl h0
    · obtain ⟨n,hfi⟩:=hf 0 Lb
      obtain ⟨v0,y0,c0,t0⟩:=hfi 0 _ rfl
      have:=World.cell?_spot c0
      exact .inr (by simpa [Addr.add] using this)
   rcases hspot with h0|rfl
   · subst h0
     exact ⟨[],rfl,fun t ht=>by simp at ht,fun j t ht=>by simp at ht⟩
   obtain ⟨L,hL,hp⟩:=Q8T (P:=fun i (t:YA)=>t.ok∧t.at w b (off+i*6)) len (fun i hi=>by
    obtain ⟨n,hfi⟩:=hf i hi
    obtain ⟨v0,y0,c0,t0⟩:=hfi 0 _ rfl
    obtain ⟨v1,y1,c1,t1⟩:=hfi 1 _ rfl
    obtain ⟨v2,y2,c2,t2⟩:=hfi 2 _ rfl
    obtain ⟨v3,y3,c3,t3⟩:=hfi 3 _ rfl
    obtain ⟨v4,y4,c4,t4⟩:=hfi 4 _ rfl
    obtain ⟨v5,y5,c5,t5⟩:=hfi 5 _ rfl
    obtain ⟨a0,e0,_,w0⟩:=DataW.trod_int Tryz.underlying5 t0
    obtain ⟨a1,e1,_,w1⟩:=DataW.trod_int Tryz.underlying5 t1
    obtain ⟨a2,e2,_,w2⟩:=DataW.trod_int Tryz.underlying5 t2
    obtain ⟨a3,e3,_,w3⟩:=DataW.trod_int Tryz.underlying5 t3
    obtain ⟨a4,e4,_,w4⟩:=DataW.trod_int Tryz.underlying5 t4
    obtain ⟨a5,e5,_,w5⟩:=DataW.trod_int Tryz.underlying5 t5
    simp at e0 e1 e2 e3 e4 e5
    subst e0 e1 e2 e3 e4 e5
    exact ⟨⟨a0,a1,a2,a3,a4,a5⟩,⟨bounds_u8 w0,bounds_u8 w1,bounds_u8 w2,bounds_u8 w3,bounds_u8 w4,bounds_u8 w5⟩,⟨KF c0,by rw [Nat.add_assoc];exact KF c1,by rw [Nat.add_assoc];exact KF c2,by rw [Nat.add_assoc];exact KF c3,by rw [Nat.add_assoc];exact KF c4,by rw [Nat.add_assoc];exact KF c5⟩⟩)
   refine ⟨L,hL,fun t ht=> ?_,fun j t ht=>⟨b,off,rfl,(hp j t ht).2⟩⟩
   obtain ⟨j,hj⟩:=List.getElem?_of_mem ht
   exact (hp j t hj).1
end
def VY:List (String×DataW Unit):=[("math/bits.deBruijn32tab",Rows.laid_math_bits_deBruijn32tab),("math/bits.deBruijn64tab",Rows.laid_math_bits_deBruijn64tab),("coachhouse/slot.fields",Rows.laid_coachhouse_slot_fields)]
theorem Q8V {W:World} (h:Lib.VarReads Tryz.prog W "math/bits.deBruijn64tab" Rows.laid_math_bits_deBruijn64tab):Yj W:=by
 obtain ⟨g,t,cs,fuel,p,hg,ht,hv,hd⟩:=h
 obtain rfl:=Option.some.inj ((show Tryz.prog.globalNamed "math/bits.deBruijn64tab"=some 2 by kernel_rfl).symm.trans hg)
 obtain rfl:=Option.some.inj ((show (Tryz.prog.globals[2]?).map (·.type)=some 251 by kernel_rfl).symm.trans ht)
 intro j hj
 have hj:j<64:=hj
 unfold Rows.laid_math_bits_deBruijn64tab at hd
 obtain ⟨fl,d,q,h1,h2⟩:=Lib.array_elem Tryz.underlying251 hd j hj
 rw [Q7k,Nat.mul_one] at h2
 obtain ⟨k,e1,e2,_⟩:=DataW.trod_int Tryz.underlying5 h2
 rw [World.var?_cell hg hv j]
 have h3:cs.toList[j]?=some (.int .u8 k):=by
  have:=congrArg (·[0]?) e1
  simpa [List.getElem?_take,List.getElem?_drop] using this
 rw [←Array.getElem?_toList,h3]
 obtain ⟨rfl,rfl⟩:=Prod.mk.inj e2
 have h4:(Lib.deBruijn64tab.map fun z:Nat=>(DataW.lit (.int .u8 (z:Int)):DataW Unit))[j]?=some (.lit (.int .u8 k)):=h1
 rw [List.getElem?_map,Option.map_eq_some_iff] at h4
 obtain ⟨z,hz,e⟩:=h4
 rw [List.getD_eq_getElem?_getD,hz]
 simp only [DataW.lit.injEq,Lit.int.injEq,true_and] at e
 rw [←e];rfl
theorem Q3x:Tryz.prog.cellsOf 142=2:=by kernel_rfl
theorem Q3w:Tryz.prog.cellsOf 3=1:=by kernel_rfl
theorem Q53 {W:World} (h:Lib.VarReads Tryz.prog W "coachhouse/slot.fields" Rows.laid_coachhouse_slot_fields):Qe W 0 Qc:=by
 obtain ⟨g,t,cs,fuel,p,hg,ht,hv,hd⟩:=h
 obtain rfl:=Option.some.inj ((show Tryz.prog.globalNamed "coachhouse/slot.fields"=some 0 by kernel_rfl).symm.trans hg)
 obtain rfl:=Option.some.inj ((show (Tryz.prog.globals[0]?).map (·.type)=some 143 by kernel_rfl).symm.trans ht)
 intro j x hx
 have hj:j<9:=(List.getElem?_eq_some_iff.1 hx).1
 unfold Rows.laid_coachhouse_slot_fields at hd
 obtain ⟨fl,d,q,h1,h2⟩:=Lib.array_elem Tryz.underlying143 hd j hj
 rw [Q3x] at h2
 have h4:(Qc.map fun z:Nat×Nat=>(DataW.agg [.lit (.int .i64 (z.1:Int)),.lit (.int .i64 (z.2:Int))]:DataW Unit))[j]?=some d:=h1
 rw [List.getElem?_map,hx] at h4
 simp only [Option.map_some,Option.some.injEq] at h4
 subst h4
 have h5:=Lib.ints_of_struct (k:=.i64) (zs:=[(x.1:Int),(x.2:Int)]) Tryz.underlying142 (fun i f hf=>by
  match i,hf with
  |0,hf=>cases hf;exact ⟨Tryz.underlying3,rfl,Q3w⟩
  |1,hf=>cases hf;exact ⟨Tryz.underlying3,rfl,Q3w⟩
  |i+2,hf=>simp at hf) Q3x h2
 rw [World.var?_cell hg hv (j*2),World.var?_cell hg hv (j*2+1)]
 have e0:=congrArg (·[0]?) h5
 have e1:=congrArg (·[1]?) h5
 simp only [List.getElem?_take,List.getElem?_drop,Nat.add_zero] at e0 e1
 simp at e0 e1
 exact ⟨e0,e1⟩
theorem Q52 {W:World} (h:Yj W):3≤W.heap.size:=by
 have:=World.block_lt_of_cell? W _ (h 0 (by decide))
 simp only at this
 omega
end
section
open Go.ChangeShapes Go.WideShapes Go.ChangeAt Go.RowKit
theorem own:ownKnob Tryz.prog.godebug=none:=by kernel_rfl
theorem laidOut:laidOutB Tryz.prog=true:=by kernel_rfl
theorem lifted (os:Os) (started:os.Started) (H:Type) (enc:TypeId×Value→H):
 ReturnsInHanded {} Tryz.checked os 4 .any (fun w args=>(Rows.topReapedSpec.pre enc Tryz.prog Tryz.f4 [] false w args∧laidMetH Tryz.prog VY w)∧sizedMet enc Tryz.prog Tryz.f4 (OpenSpec.ofChange Rows.topReapedSpec) false w args) (Rows.topReapedSpec.post enc Tryz.prog Tryz.f4 false true false false):=by
 refine returnsInHanded_of_change_and (C:=Tryz.checked) (X:=fun w _=>laidMetH Tryz.prog VY w) (fun _ _ _ hh h=>h.of_heap hh) own started (by kernel_rfl) Tryz.func4
  (ChangeSpec.witness_shaped (enc:=enc) (C:=Tryz.checked) (os:=os) (X:=fun w _=>laidMetH Tryz.prog VY w) false (World.laidAll Tryz.prog os VY) #[.agg #[.int .u8 0,.int .u8 0,.int .u8 0,.int .u8 0,.int .u8 0],.slice none 0 0,.slice none 0 0,.int .u8 0] 8 (World.laidAll_os _ _ _)
    (World.shaped_of_ZipB (by kernel_rfl) (by kernel_rfl)) (by kernel_rfl) (by kernel_rfl) (by kernel_rfl)
    (by rw [MakeChecks.laidMetH_plain _ _ _ (by kernel_rfl)];exact laidMet_laidAll _ (by kernel_rfl) (by kernel_rfl))) ?_
 intro W base args ds gs before hval0 hW _ _ hL _
 have hval:∀(j:Nat) t v,Tryz.f4.params[j]?=some t→args[j]?=some v→Value.okWide Tryz.prog W .any base t v:=hval0
 have hW':=hW
 obtain ⟨p,q,hA0,hV,rfl,hfz,hnd⟩:=hW
 have hA:DataW.TrodAll enc Tryz.prog W 0 (fun _=>true) true Tryz.f4.params.toList args.toList ds p:=hA0
 rw [Tryz.params4] at hA hval
 obtain ⟨v0,vs0,d0,ds0,p0,q0,hargs,rfl,rfl,h0,r0⟩:=trodAll_cons hA
 obtain ⟨v1,vs1,d1,ds1,p1,q1,rfl,rfl,rfl,h1,r1⟩:=trodAll_cons r0
 obtain ⟨v2,vs2,d2,ds2,p2,q2,rfl,rfl,rfl,h2,r2⟩:=trodAll_cons r1
 obtain ⟨v3,vs3,d3,ds3,p3,q3,rfl,rfl,rfl,h3,r3⟩:=trodAll_cons r2
 obtain ⟨rfl,rfl,rfl⟩:=trodAll_nil r3
 obtain rfl:args=#[v0,v1,v2,v3]:=by cases args;simp_all
 obtain ⟨rfl,rfl⟩:=trodVars_none hV
 have k0:=h0
 have lt0:∀x∈p0,x.block<W.heap.size:=by obtain ⟨m,hm⟩:=k0;exact DataW.trod_lt m _ _ _ hm
 obtain ⟨ga0,gb0,gc0,gd0,ge0,rfl,hga0,hgb0,hgc0,hgd0,hge0⟩:=Q6B (hval 0 23 v0 rfl rfl) h0
 have k1:=h1
 have lt1:∀x∈p1,x.block<W.heap.size:=by obtain ⟨m,hm⟩:=k1;exact DataW.trod_lt m _ _ _ hm
 obtain ⟨g1,len1,cap1,rfl⟩:=okWide_slice Tryz.underlying24 (hval 1 24 v1 rfl rfl)
 obtain ⟨l1,hl1,hI1⟩:∃l:List YA,l.length=len1∧W9 W g1 l:=by obtain ⟨fuel,hf⟩:=h1;exact Q6A hf
 subst hl1
 have k2:=h2
 have lt2:∀x∈p2,x.block<W.heap.size:=by obtain ⟨m,hm⟩:=k2;exact DataW.trod_lt m _ _ _ hm
 obtain ⟨g2,len2,cap2,rfl⟩:=okWide_slice Tryz.underlying25 (hval 2 25 v2 rfl rfl)
 obtain ⟨l2,hl2,hlc2,hI2⟩:∃l:List Int,l.length=len2∧len2≤cap2∧YL W g2 l:=by obtain ⟨fuel,hf⟩:=h2;exact Q6z hf
 subst hl2
 have k3:=h3
 have lt3:∀x∈p3,x.block<W.heap.size:=by obtain ⟨m,hm⟩:=k3;exact DataW.trod_lt m _ _ _ hm
 obtain ⟨a3,rfl,_,_,wa3⟩:=open_int Tryz.underlying5 (hval 3 5 v3 rfl rfl) h3
 have ba3:=bounds_u8 wa3
 clear hA0 hval0
 rw [MakeChecks.laidMetH_plain _ _ _ (by kernel_rfl)] at hL
 have hdb:=Q8V (Lib.laidMet.reads hL (by simp [VY]))
 have hfl:=Q53 (Lib.laidMet.reads hL (by simp [VY]))
 refine (WW W (Q52 hdb) hfl hdb ga0 gb0 gc0 gd0 ge0 hga0 hgb0 hgc0 hgd0 hge0 g1 cap1 l1 hI1 g2 cap2 l2 hI2 a3 ⟨ba3.1,ba3.2⟩).mono fun e W' ⟨he,fr⟩=> ?_
 subst he
 have bel:=fr.below (Nat.le_refl _) Lc
 exact ⟨_,rfl,_,_,_,[],_,[],hW',trodAll_mk1 (shut_bool Tryz.underlying4 _),(trodAll_cons_mk (Below.trod laidOut (by kernel_rfl) (of_decide_eq_true (by kernel_rfl)) k0 bel lt0) (trodAll_cons_mk (Below.trod laidOut (by kernel_rfl) (of_decide_eq_true (by kernel_rfl)) k1 bel lt1) (trodAll_cons_mk (Below.trod laidOut (by kernel_rfl) (of_decide_eq_true (by kernel_rfl)) k2 bel lt2) (trodAll_cons_mk (Below.trod laidOut (by kernel_rfl) (of_decide_eq_true (by kernel_rfl)) k3 bel lt3) trodAll_mk0)))),rfl,bel.frame _,fun h=>by cases h⟩
theorem over:Rows.topReapedRow.holds Tryz.pinned (OpenSpec.ofChange Rows.topReapedSpec):=
 OpenClaim.holds_of_wide 4 Tryz.f4 rfl rfl rfl rfl rfl rfl rfl ⟨rfl,rfl,rfl,rfl,rfl⟩ rfl rfl rfl rfl rfl (by kernel_rfl) Tryz.func4 (by kernel_rfl)
  (of_decide_eq_true (by kernel_rfl)) (by unfold Func.isWrapper;first|(rw [if_pos (by decide+kernel)];kernel_rfl)|(rw [if_neg (by decide+kernel)];exact ⟨rfl,rfl⟩))
  (fun os started H enc _=>lifted os started H enc)
theorem proved:Rows.TopReapedCardSaid:=
 Claim7.holds_tied_plain_at .later [] [.data,.data,.data] true (true,"965f1e039195703d9f591f3dfca38b29532b85b8d690fd4f0e8ea4acfa2dcd32") false
  over (fun _ h=>by cases h) (by kernel_rfl) (fun _ h=>by cases h) topReaped_row_tie rfl ⟨rfl,rfl⟩ (by kernel_rfl) rfl
  (fun f fn hf hfn=>by
    obtain rfl:f=4:=Option.some.inj ((show Tryz.prog.funcNamed "coachhouse/coachhousetop.TopReaped"=some 4 by kernel_rfl).symm.trans hf) |>.symm
    obtain rfl:fn=Tryz.f4:=(Option.some.inj (Tryz.func4.symm.trans hfn)).symm
    exact ⟨by kernel_rfl,fun j t ht=>by
     rw [Tryz.params4] at ht
     have hm:t∈[23,24,25,5]:=by simpa using Array.mem_of_getElem? ht
     have hall:([23,24,25,5].all fun u=> !Tryz.prog.wantsStandIn u)=true:=by kernel_rfl
     exact (show Tryz.prog.wantsStandIn t=false by simpa using List.all_eq_true.1 hall t hm)⟩)
  (by kernel_rfl)
end
end Go.Proofs.YtgjklfmnmljilaaGreatDoor

/- A part of the proof: Open to TopSlots. -/
import Derived.Test.YtgjklfmnmljilaaGreatDoorZT01
import Derived.Test.YtgjklfmnmljilaaGreatDoorZT48
import Derived.Test.YtgjklfmnmljilaaGreatDoorZT49
import Derived.Test.YtgjklfmnmljilaaGreatDoorCards
import Derived.Test.YtgjklfmnmljilaaGreatDoorTie
import Derived.ChangeOld
import Derived.ChangeSame
import Derived.Deep.Fields
import Derived.Deep.Slices
import Derived.LaidMore
import Derived.LaidOnce
import Derived.Lay
import Derived.Lib.LaidU8
import Derived.Lib.SmallJoins
import Derived.MakeChecks
import Derived.OpenShut
import Derived.ProofKit
import Derived.SevenTiedAt
namespace Go.Proofs.YtgjklfmnmljilaaGreatDoor
set_option linter.unusedVariables false
set_option linter.unusedSimpArgs false
set_option linter.unusedSectionVars false
set_option linter.unnecessarySimpa false
set_option maxRecDepth 100000
set_option maxHeartbeats 8000000
section
open Go.ChangeShapes Go.WideShapes Go.Deep Go.RowKit
section
variable {H:Type} {enc:TypeId×Value→H} {P:Program} {w:World} {base:Nat} {spare:Nat→Bool} {held:Bool}
theorem KX {t e:TypeId} {fs:Array Field} {fuel:Nat} {cs:List Value} {x:DataW H×List MemPlace} (ht:P.underlying t=some (.slice e)) (he:P.underlying e=some (.struct fs))
 (hone:oneCellFields P fs=true) (hC:P.cellsOf e=fs.size) (h:DataW.trod enc P w base spare held fuel t cs=some x):
 cs=[.slice none 0 0]∨
 ∃(a:Addr) (len cap:Nat),cs=[.slice (some a) len cap]∧len≤cap∧cap≤maxLen∧
  ∀i,i<len→∃n,∀(j:Nat) (f:Field),fs[j]?=some f→∃(v:Value) (y:DataW H×List MemPlace),w.cell? (a.add (i*fs.size+j))=some v∧DataW.trod enc P w base spare held n f.type [v]=some y:=by
 rcases open_slice ht h with h0|⟨a,len,cap,m,n,D,Pl,hcs,hb,hl,hm,hmm,hx,hi⟩
 · exact .inl h0.1
 · refine .inr ⟨a,len,cap,hcs,hl,hm,fun i him=> ?_⟩
   obtain ⟨cs',hc,ht'⟩:=hi i (by split at hmm<;>omega)
   rw [hC] at hc
   obtain ⟨ys,n',hn',hy,hlen,hyl,hf⟩:=DataW.trod_struct he ht'
   obtain ⟨_,hcl,hat⟩:=World.cells?_some hc
   refine ⟨n',fun j f hj=> ?_⟩
   obtain ⟨ho,hk⟩:=hone_of hone j f hj
   have hjl:j<fs.size:=(Array.getElem?_eq_some_iff.1 hj).1
   have hcell:=hat j hjl
   have hv:cs'[j]?=some (cs'[j]'(by omega)):=List.getElem?_eq_getElem (by omega)
   have h1:=hf j f hj
   rw [ho,hk] at h1
   have hone':(cs'.drop j).take 1=[cs'[j]'(by omega)]:=by
    rw [List.drop_eq_getElem_cons (by omega)]
    rfl
   rw [hone'] at h1
   have hys:ys[j]?=some (ys[j]'(by omega)):=List.getElem?_eq_getElem (by omega)
   refine ⟨_,_, ?_,h1.trans hys⟩
   rw [←Go.Deep.add_add,hcell,hv]
theorem Gv {w:World} {b off:Nat} {spot:Option Nat} {n:Nat} {v:Value} (h:w.cell? ((⟨b,off,spot⟩:Addr).add n)=some v):w.cell? ⟨b,off+n,none⟩=some v:=by
 have hs:=World.cell?_spot h
 have:(⟨b,off,spot⟩:Addr).add n=⟨b,off+n,none⟩:=by
  unfold Addr.add at hs ⊢
  split
  · rename_i h0
    rw [if_pos h0] at hs
    simp only at hs
    subst hs;subst h0;rfl
  · rfl
 rw [←this];exact h
end
end
section
open Go.ChangeShapes Go.WideShapes Go.Deep Go.RowKit Go.Joins
theorem WH.empty (w:World) (g:Option Addr):WH w g []:=⟨by simp,by simp,fun j x h=>by simp at h⟩
theorem Q9a {α:Type} {P:Nat→α→Prop} (n:Nat) (h:∀i,i<n→∃x,P i x):∃l:List α,l.length=n∧∀(j:Nat) (x:α),l[j]?=some x→P j x:=by
 induction n with
 |zero=>exact ⟨[],rfl,fun j x hx=>by simp at hx⟩
 |succ n ih=>
  obtain ⟨l,hl,hp⟩:=ih (fun i hi=>h i (by omega))
  obtain ⟨x,hx⟩:=h n (by omega)
  refine ⟨l++[x],by simp [hl],fun j y hy=> ?_⟩
  rw [List.getElem?_append] at hy
  split at hy
  · exact hp j y hy
  · have hj:j - l.length=0:=by
     rcases Nat.eq_zero_or_pos (j - l.length) with h0|h0
     · exact h0
     · rw [List.getElem?_eq_none (by simp;omega)] at hy;cases hy
    rw [hj] at hy
    simp at hy
    subst hy
    rw [show j=n by omega];exact hx
theorem got {α:Type} {o:Option α} {l:List α} {k:Nat} (h:o=l[k]?) (hk:k<l.length):∃y,o=some y:=⟨_,h.trans (List.getElem?_eq_getElem hk)⟩
section
variable {H:Type} {enc:TypeId×Value→H} {w:World} {base:Nat} {spare:Nat→Bool} {held:Bool}
theorem list5 {α:Type} (l:List α) (h:l.length=5):∃a0 a1 a2 a3 a4,l=[a0,a1,a2,a3,a4]:=by
 match l,h with
 |[a0,a1,a2,a3,a4],_=>exact ⟨a0,a1,a2,a3,a4,rfl⟩
theorem Q7K:Tryz.prog.cellsOf 5=1:=by kernel_rfl
theorem Q9w:Tryz.prog.cellsOf 23=5:=by kernel_rfl
theorem Q70 {r:Reach} {b0:Nat} {v:Value} {d:DataW H} {p:List MemPlace} (hv:Value.okWide Tryz.prog w r b0 23 v) (h:DataW.Trod enc Tryz.prog w base spare held 23 v d p):
 ∃a0 a1 a2 a3 a4:Int,v=.agg #[.int .u8 a0,.int .u8 a1,.int .u8 a2,.int .u8 a3,.int .u8 a4]∧(0≤a0∧a0≤255)∧(0≤a1∧a1≤255)∧(0≤a2∧a2≤255)∧(0≤a3∧a3≤255)∧(0≤a4∧a4≤255):=by
 obtain ⟨cs,rfl,hsz⟩:=okWide_struct Tryz.underlying23 hv
 obtain ⟨fuel,hf0⟩:=h
 have hf1:DataW.trod enc Tryz.prog w base spare held fuel 23 cs.toList=some (d,p):=hf0
 obtain ⟨zs,m',hm',hz,hzlen,hzl,hg⟩:=DataW.trod_struct Tryz.underlying23 hf1
 rw [Q9w] at hzlen
 obtain ⟨c0,c1,c2,c3,c4,hcs⟩:=list5 cs.toList hzlen
 rw [hcs] at hg
 have hzl5:zs.length=5:=hzl
 have k0:DataW.trod enc Tryz.prog w base spare held m' 5 (([c0,c1,c2,c3,c4].drop 0).take (Tryz.prog.cellsOf 5))=zs[0]?:=hg 0 _ rfl
 have k1:DataW.trod enc Tryz.prog w base spare held m' 5 (([c0,c1,c2,c3,c4].drop 1).take (Tryz.prog.cellsOf 5))=zs[1]?:=hg 1 _ rfl
 have k2:DataW.trod enc Tryz.prog w base spare held m' 5 (([c0,c1,c2,c3,c4].drop 2).take (Tryz.prog.cellsOf 5))=zs[2]?:=hg 2 _ rfl
 have k3:DataW.trod enc Tryz.prog w base spare held m' 5 (([c0,c1,c2,c3,c4].drop 3).take (Tryz.prog.cellsOf 5))=zs[3]?:=hg 3 _ rfl
 have k4:DataW.trod enc Tryz.prog w base spare held m' 5 (([c0,c1,c2,c3,c4].drop 4).take (Tryz.prog.cellsOf 5))=zs[4]?:=hg 4 _ rfl
 rw [Q7K] at k0 k1 k2 k3 k4
 obtain ⟨z0,s0⟩:=got k0 (by omega)
 obtain ⟨z1,s1⟩:=got k1 (by omega)
 obtain ⟨z2,s2⟩:=got k2 (by omega)
 obtain ⟨z3,s3⟩:=got k3 (by omega)
 obtain ⟨z4,s4⟩:=got k4 (by omega)
 obtain ⟨a0,e0,_,w0⟩:=DataW.trod_int Tryz.underlying5 s0
 obtain ⟨a1,e1,_,w1⟩:=DataW.trod_int Tryz.underlying5 s1
 obtain ⟨a2,e2,_,w2⟩:=DataW.trod_int Tryz.underlying5 s2
 obtain ⟨a3,e3,_,w3⟩:=DataW.trod_int Tryz.underlying5 s3
 obtain ⟨a4,e4,_,w4⟩:=DataW.trod_int Tryz.underlying5 s4
 simp at e0 e1 e2 e3 e4
 subst e0 e1 e2 e3 e4
 refine ⟨a0,a1,a2,a3,a4, ?_,bounds_u8 w0,bounds_u8 w1,bounds_u8 w2,bounds_u8 w3,bounds_u8 w4⟩
 obtain ⟨l⟩:=cs
 simp at hcs
 subst hcs
 rfl
theorem Q6Z {fuel:Nat} {g:Option Addr} {len cap:Nat} {x:DataW H×List MemPlace} (h:DataW.trod enc Tryz.prog w base spare held fuel 24 [.slice g len cap]=some x):
 ∃L:List Y0,L.length=len∧Eb w g L:=by
 rcases KX Tryz.underlying24 Tryz.underlying62 (by kernel_rfl) (by kernel_rfl) h with e|⟨a,len',cap',e,hl,hm,hf⟩
 · simp at e
   obtain ⟨rfl,rfl,rfl⟩:=e
   exact ⟨[],rfl,fun t ht=>by simp at ht,fun j t ht=>by simp at ht⟩
 · simp at e
   obtain ⟨rfl,rfl,rfl⟩:=e
   obtain ⟨b,off,spot⟩:=a
   have hspot:len=0∨spot=none:=by
    by_cases h0:len=0
    · exact .inl h0
    · obtain ⟨n,hfi⟩:=hf 0 (by omega)
      obtain ⟨v0,y0,c0,t0⟩:=hfi 0 _ rfl
      have:=World.cell?_spot c0
      exact .inr (by simpa [Addr.add] using this)
   rcases hspot with h0|rfl
   · subst h0
     exact ⟨[],rfl,fun t ht=>by simp at ht,fun j t ht=>by simp at ht⟩
   obtain ⟨L,hL,hp⟩:=Q9a (P:=fun i (t:Y0)=>t.ok∧t.at w b (off+i*6)) len (fun i hi=>by
    obtain ⟨n,hfi⟩:=hf i hi
    obtain ⟨v0,y0,c0,t0⟩:=hfi 0 _ rfl
    obtain ⟨v1,y1,c1,t1⟩:=hfi 1 _ rfl
    obtain ⟨v2,y2,c2,t2⟩:=hfi 2 _ rfl
    obtain ⟨v3,y3,c3,t3⟩:=hfi 3 _ rfl
    obtain ⟨v4,y4,c4,t4⟩:=hfi 4 _ rfl
    obtain ⟨v5,y5,c5,t5⟩:=hfi 5 _ rfl
    obtain ⟨a0,e0,_,w0⟩:=DataW.trod_int Tryz.underlying5 t0
    obtain ⟨a1,e1,_,w1⟩:=DataW.trod_int Tryz.underlying5 t1
    obtain ⟨a2,e2,_,w2⟩:=DataW.trod_int Tryz.underlying5 t2
    obtain ⟨a3,e3,_,w3⟩:=DataW.trod_int Tryz.underlying5 t3
    obtain ⟨a4,e4,_,w4⟩:=DataW.trod_int Tryz.underlying5 t4
    obtain ⟨a5,e5,_,w5⟩:=DataW.trod_int Tryz.underlying5 t5
    simp at e0 e1 e2 e3 e4 e5
    subst e0 e1 e2 e3 e4 e5
    exact ⟨⟨a0,a1,a2,a3,a4,a5⟩,⟨bounds_u8 w0,bounds_u8 w1,bounds_u8 w2,bounds_u8 w3,bounds_u8 w4,bounds_u8 w5⟩,⟨Gv c0,by rw [Nat.add_assoc];exact Gv c1,by rw [Nat.add_assoc];exact Gv c2,by rw [Nat.add_assoc];exact Gv c3,by rw [Nat.add_assoc];exact Gv c4,by rw [Nat.add_assoc];exact Gv c5⟩⟩)
   refine ⟨L,hL,fun t ht=> ?_,fun j t ht=>⟨b,off,rfl,(hp j t ht).2⟩⟩
   obtain ⟨j,hj⟩:=List.getElem?_of_mem ht
   exact (hp j t hj).1
end
def VT:List (String×DataW Unit):=[("math/bits.deBruijn32tab",Rows.laid_math_bits_deBruijn32tab),("math/bits.deBruijn64tab",Rows.laid_math_bits_deBruijn64tab),("coachhouse/slot.fields",Rows.laid_coachhouse_slot_fields)]
theorem Q9c {W:World} (h:Lib.VarReads Tryz.prog W "math/bits.deBruijn64tab" Rows.laid_math_bits_deBruijn64tab):Vo W:=by
 obtain ⟨g,t,cs,fuel,p,hg,ht,hv,hd⟩:=h
 obtain rfl:=Option.some.inj ((show Tryz.prog.globalNamed "math/bits.deBruijn64tab"=some 2 by kernel_rfl).symm.trans hg)
 obtain rfl:=Option.some.inj ((show (Tryz.prog.globals[2]?).map (·.type)=some 251 by kernel_rfl).symm.trans ht)
 intro j hj
 have hj:j<64:=hj
 unfold Rows.laid_math_bits_deBruijn64tab at hd
 obtain ⟨fl,d,q,h1,h2⟩:=Lib.array_elem Tryz.underlying251 hd j hj
 rw [Q7K,Nat.mul_one] at h2
 obtain ⟨k,e1,e2,_⟩:=DataW.trod_int Tryz.underlying5 h2
 rw [World.var?_cell hg hv j]
 have h3:cs.toList[j]?=some (.int .u8 k):=by
  have:=congrArg (·[0]?) e1
  simpa [List.getElem?_take,List.getElem?_drop] using this
 rw [←Array.getElem?_toList,h3]
 obtain ⟨rfl,rfl⟩:=Prod.mk.inj e2
 have h4:(Lib.deBruijn64tab.map fun z:Nat=>(DataW.lit (.int .u8 (z:Int)):DataW Unit))[j]?=some (.lit (.int .u8 k)):=h1
 rw [List.getElem?_map,Option.map_eq_some_iff] at h4
 obtain ⟨z,hz,e⟩:=h4
 rw [List.getD_eq_getElem?_getD,hz]
 simp only [DataW.lit.injEq,Lit.int.injEq,true_and] at e
 rw [←e];rfl
theorem Q3P:Tryz.prog.cellsOf 142=2:=by kernel_rfl
theorem Q3O:Tryz.prog.cellsOf 3=1:=by kernel_rfl
theorem Q5n {W:World} (h:Lib.VarReads Tryz.prog W "coachhouse/slot.fields" Rows.laid_coachhouse_slot_fields):Qf W 0 Qc:=by
 obtain ⟨g,t,cs,fuel,p,hg,ht,hv,hd⟩:=h
 obtain rfl:=Option.some.inj ((show Tryz.prog.globalNamed "coachhouse/slot.fields"=some 0 by kernel_rfl).symm.trans hg)
 obtain rfl:=Option.some.inj ((show (Tryz.prog.globals[0]?).map (·.type)=some 143 by kernel_rfl).symm.trans ht)
 intro j x hx
 have hj:j<9:=(List.getElem?_eq_some_iff.1 hx).1
 unfold Rows.laid_coachhouse_slot_fields at hd
 obtain ⟨fl,d,q,h1,h2⟩:=Lib.array_elem Tryz.underlying143 hd j hj
 rw [Q3P] at h2
 have h4:(Qc.map fun z:Nat×Nat=>(DataW.agg [.lit (.int .i64 (z.1:Int)),.lit (.int .i64 (z.2:Int))]:DataW Unit))[j]?=some d:=h1
 rw [List.getElem?_map,hx] at h4
 simp only [Option.map_some,Option.some.injEq] at h4
 subst h4
 have h5:=Lib.ints_of_struct (k:=.i64) (zs:=[(x.1:Int),(x.2:Int)]) Tryz.underlying142 (fun i f hf=>by
  match i,hf with
  |0,hf=>cases hf;exact ⟨Tryz.underlying3,rfl,Q3O⟩
  |1,hf=>cases hf;exact ⟨Tryz.underlying3,rfl,Q3O⟩
  |i+2,hf=>simp at hf) Q3P h2
 rw [World.var?_cell hg hv (j*2),World.var?_cell hg hv (j*2+1)]
 have e0:=congrArg (·[0]?) h5
 have e1:=congrArg (·[1]?) h5
 simp only [List.getElem?_take,List.getElem?_drop,Nat.add_zero] at e0 e1
 simp at e0 e1
 exact ⟨e0,e1⟩
theorem Q5m {W:World} (h:Vo W):3≤W.heap.size:=by
 have:=World.block_lt_of_cell? W _ (h 0 (by decide))
 simp only at this
 omega
end
section
open Go.ChangeShapes Go.WideShapes Go.ChangeAt Go.RowKit
theorem own:ownKnob Tryz.prog.godebug=none:=by kernel_rfl
theorem laidOut:laidOutB Tryz.prog=true:=by kernel_rfl
theorem lifted (os:Os) (started:os.Started) (H:Type) (enc:TypeId×Value→H):
 ReturnsInHanded {} Tryz.checked os 5 .any (fun w args=>(Rows.topSlotsSpec.pre enc Tryz.prog Tryz.f5 [] false w args∧laidMetH Tryz.prog VT w)∧sizedMet enc Tryz.prog Tryz.f5 (OpenSpec.ofChange Rows.topSlotsSpec) false w args) (Rows.topSlotsSpec.post enc Tryz.prog Tryz.f5 false true false false):=by
 refine returnsInHanded_of_change_and (C:=Tryz.checked) (X:=fun w _=>laidMetH Tryz.prog VT w) (fun _ _ _ hh h=>h.of_heap hh) own started (by kernel_rfl) Tryz.func5
  (ChangeSpec.witness_shaped (enc:=enc) (C:=Tryz.checked) (os:=os) (X:=fun w _=>laidMetH Tryz.prog VT w) false (World.laidAll Tryz.prog os VT) #[.agg #[.int .u8 0,.int .u8 0,.int .u8 0,.int .u8 0,.int .u8 0],.slice none 0 0] 8 (World.laidAll_os _ _ _)
    (World.shaped_of_ZipB (by kernel_rfl) (by kernel_rfl)) (by kernel_rfl) (by kernel_rfl) (by kernel_rfl)
    (by rw [MakeChecks.laidMetH_plain _ _ _ (by kernel_rfl)];exact laidMet_laidAll _ (by kernel_rfl) (by kernel_rfl))) ?_
 intro W base args ds gs before hval0 hW _ _ hL _
 have hval:∀(j:Nat) t v,Tryz.f5.params[j]?=some t→args[j]?=some v→Value.okWide Tryz.prog W .any base t v:=hval0
 have hW':=hW
 obtain ⟨p,q,hA0,hV,rfl,hfz,hnd⟩:=hW
 have hA:DataW.TrodAll enc Tryz.prog W 0 (fun _=>true) true Tryz.f5.params.toList args.toList ds p:=hA0
 rw [Tryz.params5] at hA hval
 obtain ⟨v0,vs0,d0,ds0,p0,q0,hargs,rfl,rfl,h0,r0⟩:=trodAll_cons hA
 obtain ⟨v1,vs1,d1,ds1,p1,q1,rfl,rfl,rfl,h1,r1⟩:=trodAll_cons r0
 obtain ⟨rfl,rfl,rfl⟩:=trodAll_nil r1
 obtain rfl:args=#[v0,v1]:=by cases args;simp_all
 obtain ⟨rfl,rfl⟩:=trodVars_none hV
 have k0:=h0
 have lt0:∀x∈p0,x.block<W.heap.size:=by obtain ⟨m,hm⟩:=k0;exact DataW.trod_lt m _ _ _ hm
 obtain ⟨ga0,gb0,gc0,gd0,ge0,rfl,hga0,hgb0,hgc0,hgd0,hge0⟩:=Q70 (hval 0 23 v0 rfl rfl) h0
 have k1:=h1
 have lt1:∀x∈p1,x.block<W.heap.size:=by obtain ⟨m,hm⟩:=k1;exact DataW.trod_lt m _ _ _ hm
 obtain ⟨g1,len1,cap1,rfl⟩:=okWide_slice Tryz.underlying24 (hval 1 24 v1 rfl rfl)
 obtain ⟨l1,hl1,hI1⟩:∃l:List Y0,l.length=len1∧Eb W g1 l:=by obtain ⟨fuel,hf⟩:=h1;exact Q6Z hf
 subst hl1
 clear hA0 hval0
 rw [MakeChecks.laidMetH_plain _ _ _ (by kernel_rfl)] at hL
 have hdb:=Q9c (Lib.laidMet.reads hL (by simp [VT]))
 have hfl:=Q5n (Lib.laidMet.reads hL (by simp [VT]))
 refine (D5 W (Q5m hdb) hfl hdb ga0 gb0 gc0 gd0 ge0 hga0 hgb0 hgc0 hgd0 hge0 g1 cap1 l1 hI1).mono fun e W' ⟨he,fr⟩=> ?_
 subst he
 have bel:=fr.below (Nat.le_refl _) (by simp)
 exact ⟨_,rfl,_,_,_,[],_,[],hW',trodAll_mk1 (shut_bool Tryz.underlying4 _),(trodAll_cons_mk (Below.trod laidOut (by kernel_rfl) (of_decide_eq_true (by kernel_rfl)) k0 bel lt0) (trodAll_cons_mk (Below.trod laidOut (by kernel_rfl) (of_decide_eq_true (by kernel_rfl)) k1 bel lt1) trodAll_mk0)),rfl,bel.frame _,fun h=>by cases h⟩
theorem over:Rows.topSlotsRow.holds Tryz.pinned (OpenSpec.ofChange Rows.topSlotsSpec):=
 OpenClaim.holds_of_wide 5 Tryz.f5 rfl rfl rfl rfl rfl rfl rfl ⟨rfl,rfl,rfl,rfl,rfl⟩ rfl rfl rfl rfl rfl (by kernel_rfl) Tryz.func5 (by kernel_rfl)
  (of_decide_eq_true (by kernel_rfl)) (by unfold Func.isWrapper;first|(rw [if_pos (by decide+kernel)];kernel_rfl)|(rw [if_neg (by decide+kernel)];exact ⟨rfl,rfl⟩))
  (fun os started H enc _=>lifted os started H enc)
theorem proved:Rows.TopSlotsCardSaid:=
 Claim7.holds_tied_plain_at .later [] [.data,.data,.data] true (true,"965f1e039195703d9f591f3dfca38b29532b85b8d690fd4f0e8ea4acfa2dcd32") false
  over (fun _ h=>by cases h) (by kernel_rfl) (fun _ h=>by cases h) topSlots_row_tie rfl ⟨rfl,rfl⟩ (by kernel_rfl) rfl
  (fun f fn hf hfn=>by
    obtain rfl:f=5:=Option.some.inj ((show Tryz.prog.funcNamed "coachhouse/coachhousetop.TopSlots"=some 5 by kernel_rfl).symm.trans hf) |>.symm
    obtain rfl:fn=Tryz.f5:=(Option.some.inj (Tryz.func5.symm.trans hfn)).symm
    exact ⟨by kernel_rfl,fun j t ht=>by
     rw [Tryz.params5] at ht
     have hm:t∈[23,24]:=by simpa using Array.mem_of_getElem? ht
     have hall:([23,24].all fun u=> !Tryz.prog.wantsStandIn u)=true:=by kernel_rfl
     exact (show Tryz.prog.wantsStandIn t=false by simpa using List.all_eq_true.1 hall t hm)⟩)
  (by kernel_rfl)
end
end Go.Proofs.YtgjklfmnmljilaaGreatDoor

/- A part of the proof. -/
import Derived.Test.YtgjklfmnmljilaaGreatDoorZR17
import Derived.Lib.ReflectliteSwap
namespace Go.Proofs.YtgjklfmnmljilaaGreatDoor
set_option linter.unusedVariables false
set_option linter.unusedSimpArgs false
set_option linter.unusedSectionVars false
set_option linter.unnecessarySimpa false
set_option maxRecDepth 100000
set_option maxHeartbeats 8000000
section
open Go.RowKit Go.Shelf
attribute [local go_sem] Oper.semAt_some
def fld (i:Nat):Nat×Nat:=Qc.getD i (0,0)
def Da (V:List Nat):Nat→Nat
 |0=>0
 |i+1=>Da V i+V.getD i 0*2 ^ (fld i).1
theorem Q7a:∀i<8,(fld (i+1)).1=(fld i).1+(fld i).2:=by decide
theorem Q79:∀i<9,FOk (fld i).1 (fld i).2:=by unfold FOk;decide
theorem Q3C (V:List Nat) (h:∀i<9,V.getD i 0<2 ^ (fld i).2):∀i<9,Da V i<2 ^ (fld i).1
 |0,_=>by show 0<_;exact Nat.two_pow_pos _
 |i+1,hi=>by
  have h1:=Q3C V h i Lb
  have h2:=h i Lb
  rw [Q7a i Lb,Nat.pow_add]
  show Da V i+V.getD i 0*2 ^ (fld i).1<_
  have h3:(V.getD i 0+1)*2 ^ (fld i).1≤2 ^ (fld i).2*2 ^ (fld i).1:=Nat.mul_le_mul_right _ h2
  rw [Nat.add_mul,Nat.one_mul] at h3
  rw [Nat.mul_comm (2 ^ (fld i).1)]
  omega
theorem Q6x (w:World) (b q:Nat) (V:List Nat) (hb:Qe w b Qc) (hV:∀i<9,w.cell? ⟨q,i,none⟩=some (.int .i64 (V.getD i 0:Nat))) (hs:∀i<9,V.getD i 0<2 ^ (fld i).2):
 Calls Tryz.prog 91 #[.slice (some ⟨b,0,none⟩) 9 9,.slice (some ⟨q,0,none⟩) 9 9] w fun e w'=>e=.returned (.tuple #[.int .i64 (Da V 9:Nat),.bool true])∧Fr [] w w':=by
 have HA:=Lib.hid (Q5C w b hb)
 have HF:=Lib.hid hb
 have HV:=Lib.hid hV
 have HS:=Lib.hid hs
 have HL:=Lib.hid (Q3C V hs)
 clear hb hV hs
 go_in
 go_wp2_with fail
 refine HA.out.mono ?_
 rintro e w1 ⟨rfl,f1⟩
 have F1:=Lib.hid f1
 clear f1
 go_wp2_with fail
 go_loopw [6,21] (fun s6 s21 wr=>∃i:Nat,i≤9∧s6=.int .i64 (Da V i:Nat)∧s21=.int .i64 i∧Fr [] w wr) (fun s6 s21 _=>9 - (intOf s21).toNat)
 case atStart=>exact ⟨0,Nat.zero_le _,rfl,rfl,F1.out⟩
 case round=>
  obtain ⟨i,hi,rfl,rfl,f2⟩:=hrel
  by_cases hlt:i<9
  · have hok:=Q79 i hlt
    have hcl:=HF.out i _ (Yl hlt)
    have hv:=HV.out i hlt
    have hvs:=HS.out i hlt
    have hal:=HL.out i hlt
    have hac:Da V (i+1)=Da V i+V.getD i 0*2 ^ (fld i).1:=rfl
    rw [show Qc.getD i (0,0)=fld i from rfl] at hcl
    obtain ⟨⟨fa,fn'⟩,hfx⟩:∃x,fld i=x:=⟨_,rfl⟩
    obtain ⟨v,hvx⟩:∃x,V.getD i 0=x:=⟨_,rfl⟩
    obtain ⟨A,hA⟩:∃x,Da V i=x:=⟨_,rfl⟩
    rw [hfx] at hcl hok hvs hal hac
    rw [hvx] at hv hvs hac
    rw [hA] at hac hal ⊢
    dsimp only at hcl hok hvs hal hac
    have HAC:=Lib.hid hac
    have e0:=f2.cell hcl.1 Lc
    have e1:=f2.cell hcl.2 Lc
    have e2:=f2.cell hv Lc
    have hlt':(i:Int)<9:=Lb
    have hi0:(0:Int)≤(i:Int):=Lb
    have hi1e:(0:Int)≤(i:Int)+1:=Lb
    have hqb:q<wr.heap.size:=World.block_lt_of_cell? wr _ e2
    obtain ⟨p,hp⟩:∃x,wr.heap.size=x:=⟨_,rfl⟩
    obtain ⟨W2,hW2⟩:∃W2,wr.alloc (.cells #[.int .i64 fa,.int .i64 fn'] 142)=W2:=⟨_,rfl⟩
    have y0:W2.cell? ⟨p,0,none⟩=some (.int .i64 fa):=by rw [←hW2,←hp];exact cell_of (i:=0) (heap_alloc_new wr _) rfl
    have y1:W2.cell? ⟨p,1,none⟩=some (.int .i64 fn'):=by rw [←hW2,←hp];exact cell_of (i:=1) (heap_alloc_new wr _) rfl
    have y2:W2.cell? ⟨q,i,none⟩=some (.int .i64 v):=by rw [←hW2];exact ((Fr.refl [] wr).alloc _).cell e2 Lc
    have F4:=Lib.hid (show Fr [] w W2 by rw [←hW2];exact f2.alloc _)
    have HMX:=Lib.hid fun (w':World)=>Hg w' fa fn' hok
    have HPT:=Lib.hid fun (w':World)=>Q76 w' A v fa fn' hok hal hvs
    have hvm:(v:Int)≤((2 ^ fn' - 1:Nat):Int):=by have:=Nat.two_pow_pos fn';omega
    have hvm':¬(((2 ^ fn' - 1:Nat):Int)<(v:Int)):=Lb
    have hv0:¬((v:Int)<0):=Lb
    unfold fVal at HMX HPT
    generalize 2 ^ fn' - 1=MX at HMX hvm hvm'
    generalize A+v*2 ^ fa=R at HAC HPT
    clear hcl hok f2 hv hvs hal hac
    go_wp2_with fail
    go_region_held3 (fun w'=>w'.cell? ⟨p,0,none⟩=some (.int .i64 fa)∧w'.cell? ⟨p,1,none⟩=some (.int .i64 fn')∧w'.cell? ⟨q,i,none⟩=some (.int .i64 v)) (first|go_keep|exact ⟨f3.cell y0 Lc,f3.cell y1 Lc,f3.cell y2 Lc⟩)
     (first|(go_at_call 144;refine (HMX.out _).mono ?_;rintro en w3 ⟨rfl,f3⟩))
    have F5:=Lib.hid (F4.out.drew.trans f3)
    have z0:w3.cell? ⟨p,0,none⟩=some (.int .i64 fa):=f3.cell (show W2.drew.cell? _=_ from y0) Lc
    have z1:w3.cell? ⟨p,1,none⟩=some (.int .i64 fn'):=f3.cell (show W2.drew.cell? _=_ from y1) Lc
    have z2:w3.cell? ⟨q,i,none⟩=some (.int .i64 v):=f3.cell (show W2.drew.cell? _=_ from y2) Lc
    clear f3 y0 y1 y2 e0 e1 e2
    try clear hHeld
    go_wp2_with fail
    go_region_held3 (fun w'=>w'.cell? ⟨p,0,none⟩=some (.int .i64 fa)∧w'.cell? ⟨p,1,none⟩=some (.int .i64 fn')∧w'.cell? ⟨q,i,none⟩=some (.int .i64 v)) (first|go_keep|exact ⟨f6.cell z0 Lc,f6.cell z1 Lc,f6.cell z2 Lc⟩)
     (first|(go_at_call 145;refine (HPT.out _).mono ?_;rintro en w6 ⟨rfl,f6⟩))
    have F6:=Lib.hid (F5.out.drew.trans f6)
    go_wp2
    exact ⟨⟨i+1,Lb,by rw [HAC.out],by go_num,F6.out⟩,by simp [intOf];omega⟩
  · obtain rfl:i=9:=Lb
    have F3:=Lib.hid f2
    clear f2
    go_wp2_with fail
    go_ret2
    exact ⟨rfl,F3.out⟩
def Q6v (x:Nat):List Nat:=Qc.map fun f=>Dq x f.1 f.2
def VE (x i:Nat):List Value:=((Q6v x).take i).map fun (n:Nat)=>Value.int .i64 (n:Int)
theorem Q0I (x:Nat):∀i<9,VE x (i+1)=VE x i++[.int .i64 ((Dq x (fld i).1 (fld i).2:Nat):Int)]:=by
 intro i hi
 unfold VE
 rw [List.take_add_one,List.map_append]
 congr 1
 unfold Q6v
 rw [List.getElem?_map,Yl hi]
 rfl
theorem Q0L {w w':World} {B n size:Nat} {e:TypeId} {v:Value} {xs:List Value} (h:w.ownsRow B e size v n xs) (f:Fr [] w w'):w'.ownsRow B e size v n xs:=by
 refine ⟨h.1,h.2.imp id ?_⟩
 rintro ⟨g,cap,cur,rfl,hb,hg,rest⟩
 exact ⟨g,cap,cur,rfl,hb,f.at hg Lc,rest⟩
def Q7A (w:World) (x:Nat) (e:Ending) (w':World):Prop:=∃v,e=.returned v∧w'.ownsRow w.heap.size 3 1 v 9 (VE x 9)∧Fr [] w w'
theorem Q4y (w:World) (b x:Nat) (hb:Qe w b Qc) (hx:x<9223372036854775808):
 Calls Tryz.prog 87 #[.int .i64 (x:Nat),.slice (some ⟨b,0,none⟩) 9 9] w (Q7A w x):=by
 obtain ⟨i0,hi,hz0,hz1,hz2⟩:=info_parts VO
 have HF:=Lib.hid hb
 have HX:=Lib.hid hx
 obtain ⟨X,hX⟩:∃X:Int,(x:Int)=X:=⟨_,rfl⟩
 have HXE:=Lib.hid hX
 rw [hX]
 clear hb hx hX
 go_in
 go_wp2_with fail
 go_loopw [5,10] (fun s5 s10 wr=>∃i:Nat,i≤9∧s10=.int .i64 i∧wr.ownsRow w.heap.size 3 1 s5 i (VE x i)∧Fr [] w wr) (fun s5 s10 _=>9 - (intOf s10).toNat)
 case atStart=>exact ⟨0,Nat.zero_le _,rfl,(show VE x 0=[] from rfl)▸World.ownsRow_nil _ _ _ _,Fr.refl _ _⟩
 case round=>
  obtain ⟨i,hi9,rfl,hown,f2⟩:=hrel
  by_cases hlt:i<9
  · have hok:=Q79 i hlt
    have hcl:=HF.out i _ (Yl hlt)
    have hnx:=Q0I x i hlt
    rw [show Qc.getD i (0,0)=fld i from rfl] at hcl
    obtain ⟨⟨fa,fn'⟩,hfx⟩:∃x,fld i=x:=⟨_,rfl⟩
    rw [hfx] at hcl hok hnx
    dsimp only at hcl hok hnx
    have HNX:=Lib.hid hnx
    have e0:=f2.cell hcl.1 Lc
    have e1:=f2.cell hcl.2 Lc
    have hlt':(i:Int)<9:=Lb
    have hi0:(0:Int)≤(i:Int):=Lb
    have hi1e:(0:Int)≤(i:Int)+1:=Lb
    obtain ⟨p,hp⟩:∃x,wr.heap.size=x:=⟨_,rfl⟩
    obtain ⟨W2,hW2⟩:∃W2,wr.alloc (.cells #[.int .i64 fa,.int .i64 fn'] 142)=W2:=⟨_,rfl⟩
    have y0:W2.cell? ⟨p,0,none⟩=some (.int .i64 fa):=by rw [←hW2,←hp];exact cell_of (i:=0) (heap_alloc_new wr _) rfl
    have y1:W2.cell? ⟨p,1,none⟩=some (.int .i64 fn'):=by rw [←hW2,←hp];exact cell_of (i:=1) (heap_alloc_new wr _) rfl
    have hlo:=f2.size
    have F4:=Lib.hid (show Fr [] w W2 by rw [←hW2];exact f2.alloc _)
    have HOW:=Lib.hid (show W2.ownsRow w.heap.size 3 1 u5 i (VE x i) by rw [←hW2];exact hown.alloc _)
    have HGT:=Lib.hid fun (w':World)=>Q7c w' x fa fn' HX.out hok
    rw [HXE.out] at HGT
    have HRT:=Lib.hid fun (w':World)=>Yw w' fa fn' hok
    unfold fVal at HGT HRT
    generalize Dq x fa fn'=R at HNX HGT
    clear hcl hok f2 hnx hown
    go_wp2_with fail
    refine (HRT.out W2).mono ?_
    rintro e w3 ⟨rfl,f3⟩
    have z0:w3.cell? ⟨p,0,none⟩=some (.int .i64 fa):=f3.cell y0 Lc
    have z1:w3.cell? ⟨p,1,none⟩=some (.int .i64 fn'):=f3.cell y1 Lc
    have F5:=Lib.hid (F4.out.trans f3)
    have HOW3:=Lib.hid (Q0L HOW.out f3)
    clear f3 y0 y1 e0 e1
    go_wp2_with fail
    refine (HGT.out w3).mono ?_
    rintro e w4 ⟨rfl,f4⟩
    have F6:=Lib.hid (F5.out.trans f4)
    have hown4:=Q0L HOW3.out f4
    have hs4:=F6.out.size
    clear f4
    go_wp2_with (first
     |(at_builtin;refine wpList_append_own _ rfl _ _ 44 rfl w.heap.size 3 i0 (.int .i64 0) 1 8 Tryz.underlying44 hi hz0 hz1 hz2 rfl (by decide) _ _ _ rfl (hown4.alloc _) ⟨w4.heap.size,0,none⟩ 1 1 [.int .i64 (R:Nat)] rfl rfl (cell_one_new _ _ _) (by simp [Value.oneCell']) (by unfold maxLen;omega) Lb (by simp;omega) ?_)
     |go_in)
    intro v' w5 hown' hgrow _
    have F7:=Lib.hid (Q2R F6.out hown4 (Nat.le_refl _) hgrow)
    rw [←HNX.out] at hown'
    have HO7:=Lib.hid hown'
    clear hown' hgrow hown4
    go_wp2_with fail
    exact ⟨⟨i+1,Lb,by go_num,HO7.out,F7.out⟩,by simp [intOf];omega⟩
  · obtain rfl:i=9:=Lb
    have F3:=Lib.hid f2
    have HO:=Lib.hid hown
    clear f2 hown
    go_wp2_with fail
    go_ret
    exact ⟨_,rfl,HO.out,F3.out⟩
theorem Q3A (w:World) (b:Bool):Calls Tryz.prog 92 #[.bool b] w fun e w'=>e=.returned (.int .i64 (Ye b))∧Fr [] w w':=by
 cases b
 all_goals
  go_in
  go_wp2
  go_ret
  exact ⟨rfl,Fr.refl _ _⟩
theorem Q7s (w:World) (s:Q7) (h:s.right):Calls Tryz.prog 90 #[s.val] w fun e w'=>e=.returned s.val∧Fr [] w w':=by
 obtain ⟨st,own,str,br,mkd,us,gen,ep,ver⟩:=s
 have h1:=h.strL;have h2:=h.mkI;have h3:=h.brL;have h4:=h.usL;have h5:=h.epL;have h6:=h.ownE;have h7:=h.ownL
 have a0:=h.st0;have a1:=h.st1
 dsimp only at h1 h2 h3 h4 h5 h6 h7 a0 a1
 unfold Q7.val
 dsimp only
 have FF:=Lib.hid (fun (o o':Obj)=>((Fr.refl [] w).alloc o).alloc o')
 clear h
 have hst:st=0∨st=1∨st=2∨st=3∨st=4∨st=5∨st=6:=Lb
 rcases hst with rfl|rfl|rfl|rfl|rfl|rfl|rfl
 all_goals
  first|(simp at h1;subst h1)|skip
  first|(simp at h2;subst h2)|skip
  first|(simp at h3;subst h3)|skip
  first|(simp at h4;subst h4)|skip
  first|(simp at h5;subst h5)|skip
  first|(simp at h6;subst h6)|skip
  first|(simp at h7;subst h7)|skip
  try clear h1
  try clear h2
  try clear h3
  try clear h4
  try clear h5
  try clear h6
  try clear h7
  clear a0 a1
  go_in
  go_wp2
  refine ⟨rfl,_, ?_,rfl,FF.out _ _⟩
  simp [results,Tryz.f90,go_sem]
end
section
open Go.RowKit Go.Shelf Go.Lib
attribute [local go_sem] Oper.semAt_some
def DL:List Value:=[.int .i64 0,.int .i64 3,.int .i64 3,.int .i64 4,.int .i64 7,.int .i64 8,.int .i64 15,.int .i64 1,.int .i64 16,.int .i64 1,.int .i64 17,.int .i64 6,.int .i64 23,.int .i64 12,.int .i64 35,.int .i64 12,.int .i64 47,.int .i64 15]
theorem Dz (w:World) (b:Nat) (h:Qe w b Qc):(loadVar 143 ⟨b,0,none⟩).run Tryz.prog w=.ok (.agg DL.toArray) w:=by
 obtain ⟨ie,hie,hsz⟩:∃ie,Tryz.prog.info? 143=some ie∧DL.length=ie.size:=⟨_,rfl,rfl⟩
 refine Lib.rl_loadVar_cells _ ie hie (fun w=> ?_) b 0 DL hsz w ?_
 · simp [go_sem]
 · intro k v hk
   match k,hk with
   |0,hk=>cases hk;exact (h 0 _ rfl).1
   |1,hk=>cases hk;exact (h 0 _ rfl).2
   |2,hk=>cases hk;exact (h 1 _ rfl).1
   |3,hk=>cases hk;exact (h 1 _ rfl).2
   |4,hk=>cases hk;exact (h 2 _ rfl).1
   |5,hk=>cases hk;exact (h 2 _ rfl).2
   |6,hk=>cases hk;exact (h 3 _ rfl).1
   |7,hk=>cases hk;exact (h 3 _ rfl).2
   |8,hk=>cases hk;exact (h 4 _ rfl).1
   |9,hk=>cases hk;exact (h 4 _ rfl).2
   |10,hk=>cases hk;exact (h 5 _ rfl).1
   |11,hk=>cases hk;exact (h 5 _ rfl).2
   |12,hk=>cases hk;exact (h 6 _ rfl).1
   |13,hk=>cases hk;exact (h 6 _ rfl).2
   |14,hk=>cases hk;exact (h 7 _ rfl).1
   |15,hk=>cases hk;exact (h 7 _ rfl).2
   |16,hk=>cases hk;exact (h 8 _ rfl).1
   |17,hk=>cases hk;exact (h 8 _ rfl).2
   |k+18,hk=>simp [DL] at hk
theorem Q1j {w:World} {b:Nat} (h:w.heap[b]?=some (.cells #[.int .i64 0,.int .i64 3,.int .i64 3,.int .i64 4,.int .i64 7,.int .i64 8,.int .i64 15,.int .i64 1,.int .i64 16,.int .i64 1,.int .i64 17,.int .i64 6,.int .i64 23,.int .i64 12,.int .i64 35,.int .i64 12,.int .i64 47,.int .i64 15] 143 (0,0))):Qe w b Qc:=by
 intro i f hf
 match i,hf with
 |0,hf=>cases hf;exact ⟨cell_of h rfl,cell_of h rfl⟩
 |1,hf=>cases hf;exact ⟨cell_of h rfl,cell_of h rfl⟩
 |2,hf=>cases hf;exact ⟨cell_of h rfl,cell_of h rfl⟩
 |3,hf=>cases hf;exact ⟨cell_of h rfl,cell_of h rfl⟩
 |4,hf=>cases hf;exact ⟨cell_of h rfl,cell_of h rfl⟩
 |5,hf=>cases hf;exact ⟨cell_of h rfl,cell_of h rfl⟩
 |6,hf=>cases hf;exact ⟨cell_of h rfl,cell_of h rfl⟩
 |7,hf=>cases hf;exact ⟨cell_of h rfl,cell_of h rfl⟩
 |8,hf=>cases hf;exact ⟨cell_of h rfl,cell_of h rfl⟩
 |i+9,hf=>simp [Qc] at hf
def Q1y (b:Bool):Nat:=if b then 1 else 0
theorem EX (b:Bool):Ye b=(Q1y b:Int):=by cases b<;>rfl
def Dk (st own str:Int) (br mkd:Bool) (us gen ep ver:Int):List Nat:=[st.toNat,own.toNat,str.toNat,Q1y br,Q1y mkd,us.toNat,gen.toNat,ep.toNat,ver.toNat]
theorem Q0u {w:World} {q:Nat} {st own str:Int} {br mkd:Bool} {us gen ep ver:Int} (hc:w.heap[q]?=some (.cells #[.int .i64 st,.int .i64 own,.int .i64 str,.int .i64 (Ye br),.int .i64 (Ye mkd),.int .i64 us,.int .i64 gen,.int .i64 ep,.int .i64 ver] 3 (0,0))) (h:(Q7.mk st own str br mkd us gen ep ver).right):
 ∀i<9,w.cell? ⟨q,i,none⟩=some (.int .i64 ((Dk st own str br mkd us gen ep ver).getD i 0:Nat)):=by
 have h0:=h.st0;have h1:=h.own0;have h2:=h.str0;have h3:=h.us0;have h4:=h.gen0;have h5:=h.ep0;have h6:=h.ver0
 dsimp only at h0 h1 h2 h3 h4 h5 h6
 intro i hi
 match i,hi with
 |0,_=>exact cell_of hc (congrArg (fun z=>some (Value.int .i64 z)) ((Int.toNat_of_nonneg h0).symm))
 |1,_=>exact cell_of hc (congrArg (fun z=>some (Value.int .i64 z)) ((Int.toNat_of_nonneg h1).symm))
 |2,_=>exact cell_of hc (congrArg (fun z=>some (Value.int .i64 z)) ((Int.toNat_of_nonneg h2).symm))
 |3,_=>exact cell_of hc (congrArg (fun z=>some (Value.int .i64 z)) (EX br))
 |4,_=>exact cell_of hc (congrArg (fun z=>some (Value.int .i64 z)) (EX mkd))
 |5,_=>exact cell_of hc (congrArg (fun z=>some (Value.int .i64 z)) ((Int.toNat_of_nonneg h3).symm))
 |6,_=>exact cell_of hc (congrArg (fun z=>some (Value.int .i64 z)) ((Int.toNat_of_nonneg h4).symm))
 |7,_=>exact cell_of hc (congrArg (fun z=>some (Value.int .i64 z)) ((Int.toNat_of_nonneg h5).symm))
 |8,_=>exact cell_of hc (congrArg (fun z=>some (Value.int .i64 z)) ((Int.toNat_of_nonneg h6).symm))
theorem Q7r (b:Bool):Q1y b<2:=by cases b<;>decide
theorem Q66 {st own str:Int} {br mkd:Bool} {us gen ep ver:Int} (h:(Q7.mk st own str br mkd us gen ep ver).right):∀i<9,(Dk st own str br mkd us gen ep ver).getD i 0<2 ^ (fld i).2:=by
 have h0:=h.st1;have h1:=h.own1;have h2:=h.str1;have h3:=h.us1;have h4:=h.gen1;have h5:=h.ep1;have h6:=h.ver1
 dsimp only at h0 h1 h2 h3 h4 h5 h6
 intro i hi
 match i,hi with
 |0,_=>show st.toNat<8;omega
 |1,_=>show own.toNat<16;omega
 |2,_=>show str.toNat<256;omega
 |3,_=>show Q1y br<2;exact Q7r _
 |4,_=>show Q1y mkd<2;exact Q7r _
 |5,_=>show us.toNat<64;omega
 |6,_=>show gen.toNat<4096;omega
 |7,_=>show ep.toNat<4096;omega
 |8,_=>show ver.toNat<32768;omega
theorem Q4f {st own str:Int} {br mkd:Bool} {us gen ep ver:Int} (h:(Q7.mk st own str br mkd us gen ep ver).right):((Da (Dk st own str br mkd us gen ep ver) 9:Nat):Int)=(Q7.mk st own str br mkd us gen ep ver).enc:=by
 have h0:=h.st0;have h1:=h.own0;have h2:=h.str0;have h3:=h.us0;have h4:=h.gen0;have h5:=h.ep0;have h6:=h.ver0
 dsimp only at h0 h1 h2 h3 h4 h5 h6
 have e:Da (Dk st own str br mkd us gen ep ver) 9=0+st.toNat*1+own.toNat*8+str.toNat*128+Q1y br*32768+Q1y mkd*65536+us.toNat*131072+gen.toNat*8388608+ep.toNat*34359738368+ver.toNat*140737488355328:=rfl
 rw [e]
 unfold Q7.enc
 dsimp only
 rw [EX,EX]
 omega
theorem ZM {P:Program} {ops:Array Oper} {rest:List Oper} {o:Oper} {a:Act} {Q:Exit→Act→World→Prop} {w:World} (hgd:o.guard=none) (x:Operand) (t:TypeId)
 (ho:o.op=.load t x) (ad:Addr) (v:Value) (hx:a.eval x=.pointer (some ad)) (hl:(loadVar t ad).run P w=.ok v w)
 (h:wpList P ops Q rest (a.put o.dst v) w):wpList P ops Q (o::rest) a w:=
 wpList_plain hgd fun _ hK=>by
  unfold Oper.wp execOp
  simp only [ho,hx]
  have e:(Instr.loadAt t (.pointer (some ad))).run P w=.ok v w:=hl
  simp only [Sem.run_bind,Sem.run_pure,Result.andThen_ok,e]
  exact hK _ _ h
theorem XJ (w:World) (s:Q7) (h:s.right) (hG:Qe w 0 Qc):Calls Tryz.prog 66 #[s.val] w fun e w'=>e=.returned (.tuple #[.int .i64 s.enc,.bool true])∧Fr [] w w':=by
 have HB:=hid fun (w':World)=>Q7s w' s h
 have HR:=hid h
 have HG:=hid hG
 clear hG
 have h1:¬((6:Int)<s.st):=by have:=h.st1;omega
 clear h
 obtain ⟨st,own,str,br,mkd,us,gen,ep,ver⟩:=s
 unfold Q7.val at HB ⊢
 dsimp only at HB h1 ⊢
 have FF:=hid (fun (o:Obj)=>(Fr.refl [] w).alloc o)
 have hc:=heap_alloc_new w (.cells #[.int .i64 st,.int .i64 own,.int .i64 str,.bool br,.bool mkd,.int .i64 us,.int .i64 gen,.int .i64 ep,.int .i64 ver] 54)
 obtain ⟨w1,hw1⟩:∃x,w.alloc (.cells #[.int .i64 st,.int .i64 own,.int .i64 str,.bool br,.bool mkd,.int .i64 us,.int .i64 gen,.int .i64 ep,.int .i64 ver] 54)=x:=⟨_,rfl⟩
 rw [hw1] at hc
 obtain ⟨p,hp⟩:∃x,w.heap.size=x:=⟨_,rfl⟩
 rw [hp] at hc
 have c0:w1.cell? ⟨p,0,none⟩=some (.int .i64 st):=cell_of (i:=0) hc rfl
 have c1:w1.cell? ⟨p,1,none⟩=some (.int .i64 own):=cell_of (i:=1) hc rfl
 have c2:w1.cell? ⟨p,2,none⟩=some (.int .i64 str):=cell_of (i:=2) hc rfl
 have c3:w1.cell? ⟨p,3,none⟩=some (.bool br):=cell_of (i:=3) hc rfl
 have c4:w1.cell? ⟨p,4,none⟩=some (.bool mkd):=cell_of (i:=4) hc rfl
 have c5:w1.cell? ⟨p,5,none⟩=some (.int .i64 us):=cell_of (i:=5) hc rfl
 have c6:w1.cell? ⟨p,6,none⟩=some (.int .i64 gen):=cell_of (i:=6) hc rfl
 have c7:w1.cell? ⟨p,7,none⟩=some (.int .i64 ep):=cell_of (i:=7) hc rfl
 have c8:w1.cell? ⟨p,8,none⟩=some (.int .i64 ver):=cell_of (i:=8) hc rfl
 have HC:=hid hc
 have F1:=hid (show Fr [] w w1 by rw [←hw1];exact FF.out _)
 clear hc
 go_in
 go_wp2_with fail
 have hd:decide ((6:Int)<st)=false:=decide_eq_false Lb
 clear h1
 go_region_held3 (fun w'=>w'.cell? ⟨p,0,none⟩=some (.int .i64 st)∧w'.cell? ⟨p,1,none⟩=some (.int .i64 own)∧w'.cell? ⟨p,2,none⟩=some (.int .i64 str)∧w'.cell? ⟨p,3,none⟩=some (.bool br)∧w'.cell? ⟨p,4,none⟩=some (.bool mkd)∧w'.cell? ⟨p,5,none⟩=some (.int .i64 us)∧w'.cell? ⟨p,6,none⟩=some (.int .i64 gen)∧w'.cell? ⟨p,7,none⟩=some (.int .i64 ep)∧w'.cell? ⟨p,8,none⟩=some (.int .i64 ver)) (first|go_keep|exact ⟨f3.cell c0 Lc,f3.cell c1 Lc,f3.cell c2 Lc,f3.cell c3 Lc,f3.cell c4 Lc,f3.cell c5 Lc,f3.cell c6 Lc,f3.cell c7 Lc,f3.cell c8 Lc⟩)
  (first|(go_at_call 90;refine (HB.out _).mono ?_;rintro en w3 ⟨rfl,f3⟩))
 have F3:=hid (F1.out.drew.trans f3)
 have z0:w3.cell? ⟨p,0,none⟩=some (.int .i64 st):=f3.cell (show w1.drew.cell? _=_ from c0) Lc
 have z1:w3.cell? ⟨p,1,none⟩=some (.int .i64 own):=f3.cell (show w1.drew.cell? _=_ from c1) Lc
 have z2:w3.cell? ⟨p,2,none⟩=some (.int .i64 str):=f3.cell (show w1.drew.cell? _=_ from c2) Lc
 have z3:w3.cell? ⟨p,3,none⟩=some (.bool br):=f3.cell (show w1.drew.cell? _=_ from c3) Lc
 have z4:w3.cell? ⟨p,4,none⟩=some (.bool mkd):=f3.cell (show w1.drew.cell? _=_ from c4) Lc
 have z5:w3.cell? ⟨p,5,none⟩=some (.int .i64 us):=f3.cell (show w1.drew.cell? _=_ from c5) Lc
 have z6:w3.cell? ⟨p,6,none⟩=some (.int .i64 gen):=f3.cell (show w1.drew.cell? _=_ from c6) Lc
 have z7:w3.cell? ⟨p,7,none⟩=some (.int .i64 ep):=f3.cell (show w1.drew.cell? _=_ from c7) Lc
 have z8:w3.cell? ⟨p,8,none⟩=some (.int .i64 ver):=f3.cell (show w1.drew.cell? _=_ from c8) Lc
 have HG3:=hid (HG.out.fr F3.out Lc)
 have hld:=Dz w3 0 HG3.out
 unfold DL at hld
 clear f3 c0 c1 c2 c3 c4 c5 c6 c7 c8
 try clear hHeld
 go_wp2_with (first|(refine ZM rfl _ _ rfl _ _ rfl hld ?_)|fail)
 obtain ⟨w5,hw5⟩:∃x,w3.alloc (.cells #[.int .i64 0,.int .i64 3,.int .i64 3,.int .i64 4,.int .i64 7,.int .i64 8,.int .i64 15,.int .i64 1,.int .i64 16,.int .i64 1,.int .i64 17,.int .i64 6,.int .i64 23,.int .i64 12,.int .i64 35,.int .i64 12,.int .i64 47,.int .i64 15] 143)=x:=⟨_,rfl⟩
 have f35:Fr [] w3 w5:=by rw [←hw5];exact (Fr.refl [] w3).alloc _
 have G5:=hid (show Qe w5 w3.heap.size Qc by rw [←hw5];exact Q1j (heap_alloc_new w3 _))
 have y0:w5.cell? ⟨p,0,none⟩=some (.int .i64 st):=f35.cell z0 Lc
 have y1:w5.cell? ⟨p,1,none⟩=some (.int .i64 own):=f35.cell z1 Lc
 have y2:w5.cell? ⟨p,2,none⟩=some (.int .i64 str):=f35.cell z2 Lc
 have y3:w5.cell? ⟨p,3,none⟩=some (.bool br):=f35.cell z3 Lc
 have y4:w5.cell? ⟨p,4,none⟩=some (.bool mkd):=f35.cell z4 Lc
 have y5:w5.cell? ⟨p,5,none⟩=some (.int .i64 us):=f35.cell z5 Lc
 have y6:w5.cell? ⟨p,6,none⟩=some (.int .i64 gen):=f35.cell z6 Lc
 have y7:w5.cell? ⟨p,7,none⟩=some (.int .i64 ep):=f35.cell z7 Lc
 have y8:w5.cell? ⟨p,8,none⟩=some (.int .i64 ver):=f35.cell z8 Lc
 have F5:=hid (F3.out.trans f35)
 rw [hw5]
 clear f35 hw5 hld z0 z1 z2 z3 z4 z5 z6 z7 z8
 try clear HG3 HG HB HC FF
 refine wp_region_held_drew (S:=fun w'=>w'.cell? ⟨p,0,none⟩=some (.int .i64 st)∧w'.cell? ⟨p,1,none⟩=some (.int .i64 own)∧w'.cell? ⟨p,2,none⟩=some (.int .i64 str)∧w'.cell? ⟨p,3,none⟩=some (.bool br)∧w'.cell? ⟨p,4,none⟩=some (.bool mkd)∧w'.cell? ⟨p,5,none⟩=some (.int .i64 us)∧w'.cell? ⟨p,6,none⟩=some (.int .i64 gen)∧w'.cell? ⟨p,7,none⟩=some (.int .i64 ep)∧w'.cell? ⟨p,8,none⟩=some (.int .i64 ver)) (by kernel_rfl) ⟨y0,y1,y2,y3,y4,y5,y6,y7,y8⟩ (fun hHeld=> ?_)
 refine tk 0 ?_
 refine tk 1 ?_
 refine tk 2 ?_
 refine tk 3 ?_
 refine tk 4 ?_
 refine tk 5 ?_
 refine tk 6 ?_
 refine tk 7 ?_
 refine tk 8 ?_
 refine tk 10 ?_
 refine tk 11 ?_
 refine tk 13 ?_
 refine tk 14 ?_
 refine tk 15 ?_
 refine tk 16 ?_
 refine tk 17 ?_
 refine tk 18 ?_
 refine tk 19 ?_
 refine tk 20 ?_
 refine tc 9 (fun K hK=> ?_)
 go_simp
 refine (Q3A _ br).mono ?_
 rintro e w6 ⟨rfl,f6⟩
 go_wp2_with fail
 refine hK.out _ _ ⟨f6.cell y0 Lc,f6.cell y1 Lc,f6.cell y2 Lc,f6.cell y3 Lc,f6.cell y4 Lc,f6.cell y5 Lc,f6.cell y6 Lc,f6.cell y7 Lc,f6.cell y8 Lc⟩ (fun hHeld=> ?_)
 clear hK K
 try go_frame
 refine tc 12 (fun K hK=> ?_)
 go_simp
 refine (Q3A _ mkd).mono ?_
 rintro e w7 ⟨rfl,f7⟩
 go_wp2_with fail
 refine hK.out _ _ ⟨f7.cell (f6.cell y0 Lc) Lc,f7.cell (f6.cell y1 Lc) Lc,f7.cell (f6.cell y2 Lc) Lc,f7.cell (f6.cell y3 Lc) Lc,f7.cell (f6.cell y4 Lc) Lc,f7.cell (f6.cell y5 Lc) Lc,f7.cell (f6.cell y6 Lc) Lc,f7.cell (f6.cell y7 Lc) Lc,f7.cell (f6.cell y8 Lc) Lc⟩ (fun hHeld=> ?_)
 clear hK K
 try go_frame
 refine tc 21 (fun K hK=> ?_)
 go_simp
 refine hK.out _ _ ⟨((Fr.refl [] w7).alloc _).cell (f7.cell (f6.cell y0 Lc) Lc) Lc,((Fr.refl [] w7).alloc _).cell (f7.cell (f6.cell y1 Lc) Lc) Lc,((Fr.refl [] w7).alloc _).cell (f7.cell (f6.cell y2 Lc) Lc) Lc,((Fr.refl [] w7).alloc _).cell (f7.cell (f6.cell y3 Lc) Lc) Lc,((Fr.refl [] w7).alloc _).cell (f7.cell (f6.cell y4 Lc) Lc) Lc,((Fr.refl [] w7).alloc _).cell (f7.cell (f6.cell y5 Lc) Lc) Lc,((Fr.refl [] w7).alloc _).cell (f7.cell (f6.cell y6 Lc) Lc) Lc,((Fr.refl [] w7).alloc _).cell (f7.cell (f6.cell y7 Lc) Lc) Lc,((Fr.refl [] w7).alloc _).cell (f7.cell (f6.cell y8 Lc) Lc) Lc⟩ (fun hHeld=> ?_)
 clear hK K
 try go_frame
 obtain ⟨w8,hw8⟩:∃x,w7.alloc (.cells #[.int .i64 st,.int .i64 own,.int .i64 str,.int .i64 (Ye br),.int .i64 (Ye mkd),.int .i64 us,.int .i64 gen,.int .i64 ep,.int .i64 ver] 3)=x:=⟨_,rfl⟩
 have HV8:∀i<9,w8.cell? ⟨w7.heap.size,i,none⟩=some (.int .i64 ((Dk st own str br mkd us gen ep ver).getD i 0:Nat)):=by rw [←hw8];exact Q0u (heap_alloc_new w7 _) HR.out
 have f8:Fr [] w7 w8:=by rw [←hw8];exact (Fr.refl [] w7).alloc _
 have f58:=((Fr.refl [] w5).drew.trans f6).trans (f7.trans f8)
 have HF8:Qe w8 w3.heap.size Qc:=G5.out.fr f58 Lc
 have HPK:=hid (Q6x w8 w3.heap.size w7.heap.size (Dk st own str br mkd us gen ep ver) HF8 HV8 (Q66 HR.out))
 rw [Q4f HR.out] at HPK
 have F8:=hid (F5.out.trans f58)
 have x0:w8.cell? ⟨p,0,none⟩=some (.int .i64 st):=f58.cell y0 Lc
 have x1:w8.cell? ⟨p,1,none⟩=some (.int .i64 own):=f58.cell y1 Lc
 have x2:w8.cell? ⟨p,2,none⟩=some (.int .i64 str):=f58.cell y2 Lc
 have x3:w8.cell? ⟨p,3,none⟩=some (.bool br):=f58.cell y3 Lc
 have x4:w8.cell? ⟨p,4,none⟩=some (.bool mkd):=f58.cell y4 Lc
 have x5:w8.cell? ⟨p,5,none⟩=some (.int .i64 us):=f58.cell y5 Lc
 have x6:w8.cell? ⟨p,6,none⟩=some (.int .i64 gen):=f58.cell y6 Lc
 have x7:w8.cell? ⟨p,7,none⟩=some (.int .i64 ep):=f58.cell y7 Lc
 have x8:w8.cell? ⟨p,8,none⟩=some (.int .i64 ver):=f58.cell y8 Lc
 rw [hw8]
 clear f58 f6 f7 f8 HF8 HV8 hHeld y0 y1 y2 y3 y4 y5 y6 y7 y8
 refine tc 22 (fun K hK=> ?_)
 go_simp
 refine (HPK.out).mono ?_
 rintro e w9 ⟨rfl,f9⟩
 go_wp2_with fail
 refine hK.out _ _ ⟨f9.cell x0 Lc,f9.cell x1 Lc,f9.cell x2 Lc,f9.cell x3 Lc,f9.cell x4 Lc,f9.cell x5 Lc,f9.cell x6 Lc,f9.cell x7 Lc,f9.cell x8 Lc⟩ (fun hHeld=> ?_)
 clear hK K
 try go_frame
 refine tk 23 ?_
 refine tk 24 ?_
 refine tk 25 ?_
 refine tk 26 ?_
 refine wpAnyH_done (by kernel_rfl) ?_ _
 have F9:=hid (F8.out.trans f9)
 clear f9 hHeld
 go_wp2
 go_ret2
 exact ⟨rfl,F9.out⟩
def Xw (s:Q7) (own more:Int):Value:=.agg #[.int .i64 s.st,.int .i64 s.own,.int .i64 s.str,.bool s.br,.bool s.mkd,.int .i64 s.us,.int .i64 s.gen,.int .i64 s.ep,.int .i64 s.ver,.int .i64 own,.int .i64 more]
theorem set9 {w:World} {b t:Nat} {a0 a1 a2 a3 a4 a5 a6 a7 a8:Value} (h:w.heap[b]?=some (.cells #[a0,a1,a2,a3,a4,a5,a6,a7,a8] t (0,0))) (x0 x1 x2 x3 x4 x5 x6 x7 x8:Value):(((((((((w.setCell ⟨b,0,none⟩ x0).setCell ⟨b,1,none⟩ x1).setCell ⟨b,2,none⟩ x2).setCell ⟨b,3,none⟩ x3).setCell ⟨b,4,none⟩ x4).setCell ⟨b,5,none⟩ x5).setCell ⟨b,6,none⟩ x6).setCell ⟨b,7,none⟩ x7).setCell ⟨b,8,none⟩ x8).heap[b]?=some (.cells #[x0,x1,x2,x3,x4,x5,x6,x7,x8] t (0,0)):=by
 have h0:=heap_setCell_same (i:=0) h x0
 have h1:=heap_setCell_same (i:=1) h0 x1
 have h2:=heap_setCell_same (i:=2) h1 x2
 have h3:=heap_setCell_same (i:=3) h2 x3
 have h4:=heap_setCell_same (i:=4) h3 x4
 have h5:=heap_setCell_same (i:=5) h4 x5
 have h6:=heap_setCell_same (i:=6) h5 x6
 have h7:=heap_setCell_same (i:=7) h6 x7
 have h8:=heap_setCell_same (i:=8) h7 x8
 simpa using h8
theorem Q3B {w:World} {b:Nat} {o:Obj} (h:w.heap[b]?=some o):w.drew.heap[b]?=some o:=h
theorem Vh (w:World) (s:Q7) (own more k:Int):Calls Tryz.prog 200 #[Xw s own more,.int .i64 k] w fun e w'=>e=.returned (.bool (decide (s.st=k)))∧Fr [] w w':=by
 obtain ⟨st,so,str,br,mkd,us,gen,ep,ver⟩:=s
 unfold Xw
 dsimp only
 have FF:=hid (fun (o:Obj)=>(Fr.refl [] w).alloc o)
 by_cases h:st=k
 · subst h
   go_in
   go_wp2
   go_ret
   exact ⟨Lc,FF.out _⟩
 · go_in
   go_wp2
   go_ret
   exact ⟨by simp [h],FF.out _⟩
theorem Z0R {P:Prop} (h:P:=by
 go_in
 go_wp2_with fail
 refine (HI.out _).mono ?_
 rintro e w2 ⟨rfl,f2⟩
 have F2:=hid ((FF.out _).trans f2)
 clear f2
 go_wp2
 go_ret
 exact ⟨Lc,F2.out⟩):P:=h
theorem YU (w:World) (s:Q7) (own more k:Int):Calls Tryz.prog 202 #[Xw s own more,.int .i64 k] w fun e w'=>e=.returned (.bool (Jh s k own))∧Fr [] w w':=by
 have HI:=hid fun (w':World)=>Vh w' s own more k
 unfold Jh
 obtain ⟨st,so,str,br,mkd,us,gen,ep,ver⟩:=s
 unfold Xw at*
 dsimp only at*
 have FF:=hid (fun (o:Obj)=>(Fr.refl [] w).alloc o)
 by_cases h:st=k
 · subst h
   rw [show decide (st=st)=true by simp] at HI ⊢
   rw [Bool.true_and]
   by_cases h':so=own
   · subst h'
     go_in
     go_wp2_with fail
     refine (HI.out _).mono ?_
     rintro e w2 ⟨rfl,f2⟩
     have hc2:=f2.at (heap_alloc_new w _) Lc
     have q1:=cell_of (i:=1) hc2 rfl
     have q9:=cell_of (i:=9) hc2 rfl
     have F2:=hid ((FF.out _).trans f2)
     clear hc2 f2
     go_wp2
     go_ret
     exact ⟨Lc,F2.out⟩
   · go_in
     go_wp2_with fail
     refine (HI.out _).mono ?_
     rintro e w2 ⟨rfl,f2⟩
     have hc2:=f2.at (heap_alloc_new w _) Lc
     have q1:=cell_of (i:=1) hc2 rfl
     have q9:=cell_of (i:=9) hc2 rfl
     have F2:=hid ((FF.out _).trans f2)
     clear hc2 f2
     go_wp2
     go_ret
     exact ⟨by simp [h'],F2.out⟩
 · rw [decide_eq_false h] at HI ⊢
   exact Z0R
theorem Q4c (w:World) (s:Q7) (own more:Int):Calls Tryz.prog 203 #[Xw s own more] w fun e w'=>e=.returned (.bool (Jp s))∧Fr [] w w':=by
 have HI:=hid fun (w':World)=>Vh w' s own more 2
 unfold Jp
 obtain ⟨st,so,str,br,mkd,us,gen,ep,ver⟩:=s
 unfold Xw at*
 dsimp only at*
 have FF:=hid (fun (o:Obj)=>(Fr.refl [] w).alloc o)
 by_cases h:st=2
 · subst h
   rw [show decide ((2:Int)=2)=true by simp] at HI ⊢
   go_in
   go_wp2_with fail
   refine (HI.out _).mono ?_
   rintro e w2 ⟨rfl,f2⟩
   have hc2:=f2.at (heap_alloc_new w _) Lc
   have q1:=cell_of (i:=3) hc2 rfl
   have F2:=hid ((FF.out _).trans f2)
   clear hc2 f2
   go_wp2
   go_ret
   exact ⟨Lc,F2.out⟩
 · rw [decide_eq_false h] at HI ⊢
   exact Z0R
theorem WY (w:World) (s:Q7) (own more k:Int) (h0:0≤k) (h1:k≤6):Calls Tryz.prog 199 #[Xw s own more,.int .i64 k] w fun e w'=>e=.returned (toV s k own).val∧Fr [] w w':=by
 have hk:k=0∨k=1∨k=2∨k=3∨k=4∨k=5∨k=6:=Lb
 obtain ⟨st,so,str,br,mkd,us,gen,ep,ver⟩:=s
 unfold Xw
 dsimp only
 have FF:=hid (fun (o o' o'':Obj)=>((((Fr.refl [] w).alloc o).alloc o').alloc o'').drew)
 clear h0 h1
 rcases hk with rfl|rfl|rfl|rfl|rfl|rfl|rfl
 all_goals
  go_in
  go_wp2_with fail
  go_region
  all_goals go_wp2
  refine ⟨rfl,_, ?_,rfl,FF.out _ _ _⟩
  simp [results,Tryz.f199,go_sem,toV,Q7.val]
theorem Z0i {P:Prop} (h:P:=by
 rw [hW] at hb FW ⊢
 have m0:=cell_of (i:=0) hb rfl
 have m1:=cell_of (i:=1) hb rfl
 have m2:=cell_of (i:=2) hb rfl
 have m3:=cell_of (i:=3) hb rfl
 have m4:=cell_of (i:=4) hb rfl
 have m5:=cell_of (i:=5) hb rfl
 have m6:=cell_of (i:=6) hb rfl
 have m7:=cell_of (i:=7) hb rfl
 have m8:=cell_of (i:=8) hb rfl
 refine ⟨rfl,_, ?_,rfl,FW.out⟩
 simp [results,Tryz.f201,go_sem,m0,m1,m2,m3,m4,m5,m6,m7,m8,hmin.out]):P:=h
theorem Ul (w:World) (s:Q7) (own more:Int) (h:s.right):Calls Tryz.prog 201 #[Xw s own more] w fun e w'=>e=.returned (Js s own).val∧Fr [] w w':=by
 have HT:=hid fun (w':World)=>WY w' s own more 3 Lb Lb
 unfold Q7.val at HT ⊢
 unfold Js
 have hu0:0≤(toV s 3 own).us:=by unfold toV;dsimp only;split;exact h.us0;omega
 have hu1:(toV s 3 own).us≤63:=by unfold toV;dsimp only;split;exact h.us1;omega
 have hg0:0≤(toV s 3 own).gen:=h.gen0
 have hg1:(toV s 3 own).gen≤4095:=h.gen1
 have hgs:(toV s 3 own).gen=s.gen:=rfl
 have hus:(toV s 3 own).us=s.us:=by unfold toV;simp
 rw [←hgs,←hus]
 clear hgs hus h
 dsimp only
 generalize toV s 3 own=r at*
 obtain ⟨st,so,str,br,mkd,us,gen,ep,ver⟩:=s
 obtain ⟨rst,rso,rstr,rbr,rmkd,rus,rgen,rep,rver⟩:=r
 unfold Xw at*
 dsimp only at*
 have hz:=heap_alloc_new (w.alloc (.cells #[.int .i64 st,.int .i64 so,.int .i64 str,.bool br,.bool mkd,.int .i64 us,.int .i64 gen,.int .i64 ep,.int .i64 ver,.int .i64 own,.int .i64 more] 150)) (.cells #[.int .i64 0,.int .i64 0,.int .i64 0,.bool false,.bool false,.int .i64 0,.int .i64 0,.int .i64 0,.int .i64 0] 54)
 rw [World.size_alloc] at hz
 have F1:=hid (((Fr.refl [] w).alloc (.cells #[.int .i64 st,.int .i64 so,.int .i64 str,.bool br,.bool mkd,.int .i64 us,.int .i64 gen,.int .i64 ep,.int .i64 ver,.int .i64 own,.int .i64 more] 150)).alloc (.cells #[.int .i64 0,.int .i64 0,.int .i64 0,.bool false,.bool false,.int .i64 0,.int .i64 0,.int .i64 0,.int .i64 0] 54))
 go_in
 go_wp2_with fail
 generalize (w.alloc (.cells #[.int .i64 st,.int .i64 so,.int .i64 str,.bool br,.bool mkd,.int .i64 us,.int .i64 gen,.int .i64 ep,.int .i64 ver,.int .i64 own,.int .i64 more] 150)).alloc (.cells #[.int .i64 0,.int .i64 0,.int .i64 0,.bool false,.bool false,.int .i64 0,.int .i64 0,.int .i64 0,.int .i64 0] 54)=w1 at hz F1 ⊢
 refine (HT.out _).mono ?_
 rintro e w2 ⟨rfl,f2⟩
 have hz2:=f2.at hz Lc
 have F2:=hid (F1.out.trans f2)
 clear hz f2
 have v0:w2.cell? ⟨w.heap.size+1,0,none⟩=some (.int .i64 0):=cell_of hz2 rfl
 have u0:=Qb (i:=0) hz2
 have v1:w2.cell? ⟨w.heap.size+1,1,none⟩=some (.int .i64 0):=cell_of hz2 rfl
 have u1:=Qb (i:=1) hz2
 have v2:w2.cell? ⟨w.heap.size+1,2,none⟩=some (.int .i64 0):=cell_of hz2 rfl
 have u2:=Qb (i:=2) hz2
 have v3:w2.cell? ⟨w.heap.size+1,3,none⟩=some (.bool false):=cell_of hz2 rfl
 have u3:=Qb (i:=3) hz2
 have v4:w2.cell? ⟨w.heap.size+1,4,none⟩=some (.bool false):=cell_of hz2 rfl
 have u4:=Qb (i:=4) hz2
 have v5:w2.cell? ⟨w.heap.size+1,5,none⟩=some (.int .i64 0):=cell_of hz2 rfl
 have u5:=Qb (i:=5) hz2
 have v6:w2.cell? ⟨w.heap.size+1,6,none⟩=some (.int .i64 0):=cell_of hz2 rfl
 have u6:=Qb (i:=6) hz2
 have v7:w2.cell? ⟨w.heap.size+1,7,none⟩=some (.int .i64 0):=cell_of hz2 rfl
 have u7:=Qb (i:=7) hz2
 have v8:w2.cell? ⟨w.heap.size+1,8,none⟩=some (.int .i64 0):=cell_of hz2 rfl
 have u8:=Qb (i:=8) hz2
 have hsz2:w.heap.size+1<w2.heap.size:=Q9 hz2
 by_cases hm:rus+1≤63
 · have hmin:=hid (show min (rus+1) 63=rus+1 by omega)
   have HZ:=hid hz2
   clear hz2
   go_wp2
   have hb:=Qh (set9 HZ.out (.int .i64 rst) (.int .i64 rso) (.int .i64 rstr) (.bool rbr) (.bool rmkd) (.int .i64 (rus+1)) (.int .i64 ((rgen+1) % 4096)) (.int .i64 rep) (.int .i64 rver)) (.cells #[.int .i64 rst,.int .i64 rso,.int .i64 rstr,.bool rbr,.bool rmkd,.int .i64 (rus+1),.int .i64 ((rgen+1) % 4096),.int .i64 rep,.int .i64 rver] 54)
   have FW:=hid ((((((((((F2.out.setCell (p:=⟨w.heap.size+1,0,none⟩) (.inr Lc) (.int .i64 rst)).setCell (p:=⟨w.heap.size+1,1,none⟩) (.inr Lc) (.int .i64 rso)).setCell (p:=⟨w.heap.size+1,2,none⟩) (.inr Lc) (.int .i64 rstr)).setCell (p:=⟨w.heap.size+1,3,none⟩) (.inr Lc) (.bool rbr)).setCell (p:=⟨w.heap.size+1,4,none⟩) (.inr Lc) (.bool rmkd)).setCell (p:=⟨w.heap.size+1,5,none⟩) (.inr Lc) (.int .i64 (rus+1))).setCell (p:=⟨w.heap.size+1,6,none⟩) (.inr Lc) (.int .i64 ((rgen+1) % 4096))).setCell (p:=⟨w.heap.size+1,7,none⟩) (.inr Lc) (.int .i64 rep)).setCell (p:=⟨w.heap.size+1,8,none⟩) (.inr Lc) (.int .i64 rver)).alloc (.cells #[.int .i64 rst,.int .i64 rso,.int .i64 rstr,.bool rbr,.bool rmkd,.int .i64 (rus+1),.int .i64 ((rgen+1) % 4096),.int .i64 rep,.int .i64 rver] 54))
   obtain ⟨W,hW⟩:∃W,(((((((((w2.setCell ⟨w.heap.size+1,0,none⟩ (.int .i64 rst)).setCell ⟨w.heap.size+1,1,none⟩ (.int .i64 rso)).setCell ⟨w.heap.size+1,2,none⟩ (.int .i64 rstr)).setCell ⟨w.heap.size+1,3,none⟩ (.bool rbr)).setCell ⟨w.heap.size+1,4,none⟩ (.bool rmkd)).setCell ⟨w.heap.size+1,5,none⟩ (.int .i64 (rus+1))).setCell ⟨w.heap.size+1,6,none⟩ (.int .i64 ((rgen+1) % 4096))).setCell ⟨w.heap.size+1,7,none⟩ (.int .i64 rep)).setCell ⟨w.heap.size+1,8,none⟩ (.int .i64 rver)).alloc (.cells #[.int .i64 rst,.int .i64 rso,.int .i64 rstr,.bool rbr,.bool rmkd,.int .i64 (rus+1),.int .i64 ((rgen+1) % 4096),.int .i64 rep,.int .i64 rver] 54)=W:=⟨_,rfl⟩
   exact Z0i
 · have hmin:=hid (show min (rus+1) 63=63 by omega)
   have HZ:=hid hz2
   clear hz2
   go_wp2
   have hb:=Qh (set9 HZ.out (.int .i64 rst) (.int .i64 rso) (.int .i64 rstr) (.bool rbr) (.bool rmkd) (.int .i64 63) (.int .i64 ((rgen+1) % 4096)) (.int .i64 rep) (.int .i64 rver)) (.cells #[.int .i64 rst,.int .i64 rso,.int .i64 rstr,.bool rbr,.bool rmkd,.int .i64 63,.int .i64 ((rgen+1) % 4096),.int .i64 rep,.int .i64 rver] 54)
   have FW:=hid ((((((((((F2.out.setCell (p:=⟨w.heap.size+1,0,none⟩) (.inr Lc) (.int .i64 rst)).setCell (p:=⟨w.heap.size+1,1,none⟩) (.inr Lc) (.int .i64 rso)).setCell (p:=⟨w.heap.size+1,2,none⟩) (.inr Lc) (.int .i64 rstr)).setCell (p:=⟨w.heap.size+1,3,none⟩) (.inr Lc) (.bool rbr)).setCell (p:=⟨w.heap.size+1,4,none⟩) (.inr Lc) (.bool rmkd)).setCell (p:=⟨w.heap.size+1,5,none⟩) (.inr Lc) (.int .i64 63)).setCell (p:=⟨w.heap.size+1,6,none⟩) (.inr Lc) (.int .i64 ((rgen+1) % 4096))).setCell (p:=⟨w.heap.size+1,7,none⟩) (.inr Lc) (.int .i64 rep)).setCell (p:=⟨w.heap.size+1,8,none⟩) (.inr Lc) (.int .i64 rver)).alloc (.cells #[.int .i64 rst,.int .i64 rso,.int .i64 rstr,.bool rbr,.bool rmkd,.int .i64 63,.int .i64 ((rgen+1) % 4096),.int .i64 rep,.int .i64 rver] 54))
   obtain ⟨W,hW⟩:∃W,(((((((((w2.setCell ⟨w.heap.size+1,0,none⟩ (.int .i64 rst)).setCell ⟨w.heap.size+1,1,none⟩ (.int .i64 rso)).setCell ⟨w.heap.size+1,2,none⟩ (.int .i64 rstr)).setCell ⟨w.heap.size+1,3,none⟩ (.bool rbr)).setCell ⟨w.heap.size+1,4,none⟩ (.bool rmkd)).setCell ⟨w.heap.size+1,5,none⟩ (.int .i64 63)).setCell ⟨w.heap.size+1,6,none⟩ (.int .i64 ((rgen+1) % 4096))).setCell ⟨w.heap.size+1,7,none⟩ (.int .i64 rep)).setCell ⟨w.heap.size+1,8,none⟩ (.int .i64 rver)).alloc (.cells #[.int .i64 rst,.int .i64 rso,.int .i64 rstr,.bool rbr,.bool rmkd,.int .i64 63,.int .i64 ((rgen+1) % 4096),.int .i64 rep,.int .i64 rver] 54)=W:=⟨_,rfl⟩
   exact Z0i
end
end Go.Proofs.YtgjklfmnmljilaaGreatDoor

/- A part of the proof. -/
import Derived.Test.YtgjklfmnmljilaaGreatDoorZR19
namespace Go.Proofs.YtgjklfmnmljilaaGreatDoor
set_option linter.unusedVariables false
set_option linter.unusedSimpArgs false
set_option linter.unusedSectionVars false
set_option linter.unnecessarySimpa false
set_option maxRecDepth 100000
set_option maxHeartbeats 8000000
section
open Go.RowKit Go.Shelf Go.Lib
attribute [local go_sem] Oper.semAt_some
theorem Q5u (s:Q7) (own more:Int) (h:s.right):Xq 139 s own more ((VF s own more).getD s) (VF s own more).isSome:=by
 intro w
 have HM:=hid fun w'=>YU w' s own more 3
 have hs0:=h.str0;have hs1:=h.str1
 clear h
 unfold VF
 generalize Jh s 3 own=m at HM ⊢
 obtain ⟨st,so,str,br,mkd,us,gen,ep,ver⟩:=s
 dsimp only [Xw,Q7.val] at*
 obtain ⟨SV,hSV⟩:∃SV,(if m=true∧br=false then (Yx str (min more.toNat 8)).map fun i=>(⟨st,so,((str.toNat|||2 ^ i:Nat):Int),br,mkd,us,gen,ep,ver⟩:Q7) else none)=SV:=⟨_,rfl⟩
 rw [hSV]
 rcases (by cases m<;>cases br<;>simp:m=false∨(m=true∧br=true)∨(m=true∧br=false)) with rfl|⟨rfl,rfl⟩|⟨rfl,rfl⟩
 all_goals
  simp at hSV
  have HX:=hid hSV
  clear hSV
  go_in
  go_wp2_with fail
  generalize hw:World.alloc w _=w1,hb:(World.heap w).size=b
  generalize hw2:World.alloc w1 _=w2
  generalize hw3:World.alloc w2 _=w3
  have B:=(Bag.nil [] w).al3 hw hb hw2 hw3
  clear hb hw hw2 hw3
  refine (HM.out _).mono ?_
  rintro e w4 ⟨rfl,f⟩
  replace B:=B.tm f
  clear f
 iterate 2
  · have hx:=HX.out
    subst hx
    simp only [Option.getD_none,Option.isSome_none]
    exact Q6D
 by_cases hmo:more≤8
 all_goals
  have q:=B.q 2;have q0:=B.q 0
  go_wp2_with fail
  clear q q0
  go_loopw [19] (fun s19 wr=>∃i:Nat,(i:Int)≤8∧s19=.int .i64 i∧(∀j<i,Xz str j=true)∧Fr [] w4 wr) (fun s19 _=>9 - (intOf s19).toNat)
  case atStart=>exact ⟨0,Lb,rfl,fun j hj=>absurd hj (Nat.not_lt_zero _),Fr.refl _ _⟩
  case round=>
   obtain ⟨i,hi8,rfl,hall,f5⟩:=hrel
   replace B:=B.tm f5
   have hi0:(0:Int)≤(i:Int):=Lb
   have hi1e:(0:Int)≤(i:Int)+1:=Lb
   have HF5:=hid f5;have HALL:=hid hall
   clear f5 hall
   by_cases hlt:(i:Int)<min more 8
   · have hl1:(i:Int)<more:=Lb
     have hl2:(i:Int)<8:=Lb
     have HTA:=hid (Q0m hs0 hs1 (show i<8 by omega))
     have HOR:=hid (show bits .or .i64 str (IntKind.i64.wrap ((2:Int) ^ i))=((str.toNat|||2 ^ i:Nat):Int) from by rw [DX];exact set_or hs0 hs1 (show i<8 by omega))
     have q:=B.q 2;have u:=B.u 2
     go_wp2_with fail
     go_region
     rw [HTA.out]
     by_cases hbit:Xz str i=true
     · rw [hbit]
       clear q u
       go_wp2
       exact ⟨⟨i+1,Lb,by go_num,fun j hj=>by rcases Nat.lt_or_ge j i with h|h;exact HALL.out j h;rw [show j=i by omega];exact hbit,HF5.out.drew⟩,by simp [intOf];omega⟩
     · have hbit:Xz str i=false:=by simpa using hbit
       have hfo:=D7 HALL.out hbit (show i<min more.toNat 8 by omega)
       have hx:=HX.out
       rw [hfo] at hx
       subst hx
       try simp only [Option.map_some,Option.getD_some,Option.isSome_some]
       rw [hbit]
       clear q u
       replace B:=B.drew
       go_wp2_with fail
       refine rgc 2 2 B fun _ B=> ?_
       refine tj 0 ?_
       refine tj 2 ?_
       refine tj 3 ?_
       have q:=B.q 2
       refine tc 1 fun K hK=> ?_
       go_simp
       refine bk hK ?_
       clear hK K q
       try go_frame
       refine tj 4 ?_
       rw [HOR.out]
       refine tj 5 ?_
       exact Z0E
   · have hfo:=D8 HALL.out (show min more.toNat 8≤i by omega)
     have hx:=HX.out
     rw [hfo] at hx
     subst hx
     try simp only [Option.map_none,Option.getD_none,Option.isSome_none]
     first
      |have hn:¬(i:Int)<more:=Lb
      |have hn:¬(i:Int)<8:=Lb
     exact Q6D
theorem Q25 (w:World) (s:Q7) (h:s.right) (hG:Qe w 0 Qc):Calls Tryz.prog 89 #[s.val] w fun e w'=>e=.returned (.bool true)∧Fr [] w w':=by
 have HE:=hid fun (w':World) (hg:Qe w' 0 Qc)=>XJ w' s h hg
 have HR:=hid h
 have HG:=hid hG
 clear hG h
 generalize s.enc=en at HE
 obtain ⟨st,own,str,br,mkd,us,gen,ep,ver⟩:=s
 unfold Q7.val at HE ⊢
 dsimp only at HE ⊢
 have f1:=(Fr.refl [] w).alloc (.cells #[.int .i64 st,.int .i64 own,.int .i64 str,.bool br,.bool mkd,.int .i64 us,.int .i64 gen,.int .i64 ep,.int .i64 ver] 54)
 have FF:=hid f1
 have HG1:=hid (HG.out.fr f1 Lc)
 clear f1
 go_in
 go_wp2_with fail
 refine (HE.out _ HG1.out).mono ?_
 rintro e w2 ⟨rfl,f2⟩
 have F2:=hid (FF.out.trans f2)
 clear f2
 go_wp2
 go_ret
 exact ⟨rfl,F2.out⟩
theorem Q7p (b:Bool):(Ye b==1)=b:=by cases b<;>rfl
def partsOf (st own str:Int) (br mkd:Bool) (us gen ep ver:Int):List Value:=[.int .i64 st,.int .i64 own,.int .i64 str,.int .i64 (Ye br),.int .i64 (Ye mkd),.int .i64 us,.int .i64 gen,.int .i64 ep,.int .i64 ver]
theorem Q4x {s:Q7} (h:s.right):VE s.enc.toNat 9=partsOf s.st s.own s.str s.br s.mkd s.us s.gen s.ep s.ver:=by
 obtain ⟨p1,p2,p3,p4,p5,p6,p7,p8,p9⟩:=Gc h
 have hx:((s.enc.toNat:Nat):Int)=s.enc:=Int.toNat_of_nonneg (Ho h)
 have hb:=h.ver1;have hb0:=h.ver0
 generalize s.enc.toNat=x at hx ⊢
 show [Value.int .i64 ((x / 1 % 8:Nat):Int),.int .i64 ((x / 8 % 16:Nat):Int),.int .i64 ((x / 128 % 256:Nat):Int),.int .i64 ((x / 32768 % 2:Nat):Int),.int .i64 ((x / 65536 % 2:Nat):Int),.int .i64 ((x / 131072 % 64:Nat):Int),.int .i64 ((x / 8388608 % 4096:Nat):Int),.int .i64 ((x / 34359738368 % 4096:Nat):Int),.int .i64 ((x / 140737488355328 % 32768:Nat):Int)]=_
 rw [show ((x / 1 % 8:Nat):Int)=s.st by omega,show ((x / 8 % 16:Nat):Int)=s.own by omega,show ((x / 128 % 256:Nat):Int)=s.str by omega,show ((x / 32768 % 2:Nat):Int)=Ye s.br by omega,show ((x / 65536 % 2:Nat):Int)=Ye s.mkd by omega,show ((x / 131072 % 64:Nat):Int)=s.us by omega,show ((x / 8388608 % 4096:Nat):Int)=s.gen by omega,show ((x / 34359738368 % 4096:Nat):Int)=s.ep by omega,show ((x / 140737488355328 % 32768:Nat):Int)=s.ver by omega]
 rfl
theorem Ji (w:World) (s:Q7) (h:s.right) (hG:Qe w 0 Qc):Calls Tryz.prog 64 #[.int .i64 s.enc] w fun e w'=>e=.returned (.tuple #[s.val,.bool true])∧Fr [] w w':=by
 have HE:=hid fun (w':World) (hg:Qe w' 0 Qc)=>XJ w' s h hg
 have HP:=hid fun (w':World) (b:Nat) (hb:Qe w' b Qc)=>Q4y w' b s.enc.toNat hb (by have:=Q7f h;have:=Ho h;omega)
 have HPE:=hid (Q4x h)
 have HR:=hid h
 have HX:=hid (Int.toNat_of_nonneg (Ho h))
 clear h
 obtain ⟨en,hen⟩:∃en,s.enc=en:=⟨_,rfl⟩
 rw [hen] at HE HP HPE HX ⊢
 clear hen
 obtain ⟨st,own,str,br,mkd,us,gen,ep,ver⟩:=s
 unfold Q7.val at HE ⊢
 dsimp only at HE HPE ⊢
 have HG1:=hid (hG.fr ((Fr.refl [] w).alloc (.cells #[.int .i64 0,.int .i64 0,.int .i64 0,.bool false,.bool false,.int .i64 0,.int .i64 0,.int .i64 0,.int .i64 0] 54)) Lc)
 have F1:=hid ((Fr.refl [] w).alloc (.cells #[.int .i64 0,.int .i64 0,.int .i64 0,.bool false,.bool false,.int .i64 0,.int .i64 0,.int .i64 0,.int .i64 0] 54))
 have HB1:=hid (heap_alloc_new w (.cells #[.int .i64 0,.int .i64 0,.int .i64 0,.bool false,.bool false,.int .i64 0,.int .i64 0,.int .i64 0,.int .i64 0] 54))
 have hld:=Dz _ 0 HG1.out
 unfold DL at hld
 clear hG
 go_in
 go_wp2_with (first|(refine ZM rfl _ _ rfl _ _ rfl hld ?_)|fail)
 have HG2:=hid (Q1j (heap_alloc_new (w.alloc (.cells #[.int .i64 0,.int .i64 0,.int .i64 0,.bool false,.bool false,.int .i64 0,.int .i64 0,.int .i64 0,.int .i64 0] 54)) (.cells #[.int .i64 0,.int .i64 3,.int .i64 3,.int .i64 4,.int .i64 7,.int .i64 8,.int .i64 15,.int .i64 1,.int .i64 16,.int .i64 1,.int .i64 17,.int .i64 6,.int .i64 23,.int .i64 12,.int .i64 35,.int .i64 12,.int .i64 47,.int .i64 15] 143)))
 have F2:=hid (F1.out.alloc (.cells #[.int .i64 0,.int .i64 3,.int .i64 3,.int .i64 4,.int .i64 7,.int .i64 8,.int .i64 15,.int .i64 1,.int .i64 16,.int .i64 1,.int .i64 17,.int .i64 6,.int .i64 23,.int .i64 12,.int .i64 35,.int .i64 12,.int .i64 47,.int .i64 15] 143))
 have HB2:=hid (Qh HB1.out (.cells #[.int .i64 0,.int .i64 3,.int .i64 3,.int .i64 4,.int .i64 7,.int .i64 8,.int .i64 15,.int .i64 1,.int .i64 16,.int .i64 1,.int .i64 17,.int .i64 6,.int .i64 23,.int .i64 12,.int .i64 35,.int .i64 12,.int .i64 47,.int .i64 15] 143))
 have HG02:=hid (HG1.out.fr ((Fr.refl [] _).alloc (.cells #[.int .i64 0,.int .i64 3,.int .i64 3,.int .i64 4,.int .i64 7,.int .i64 8,.int .i64 15,.int .i64 1,.int .i64 16,.int .i64 1,.int .i64 17,.int .i64 6,.int .i64 23,.int .i64 12,.int .i64 35,.int .i64 12,.int .i64 47,.int .i64 15] 143)) Lc)
 rw [World.size_alloc] at HG2
 clear HG1 HB1 F1 hld
 have hpc:=HP.out _ _ HG2.out
 rw [HX.out] at hpc
 refine hpc.mono ?_
 rintro e w3 ⟨v,rfl,hrow,f3⟩
 clear hpc
 rw [HPE.out] at hrow
 obtain ⟨hlen,hn|⟨g,cap,cur,rfl,hbg,hg,hcap,hcm,hcs,htk⟩⟩:=hrow
 · exact absurd hn.2 (by decide)
 have hrow:w3.ownsRow _ 3 1 (.slice (some ⟨g,0,none⟩) 9 cap) 9 (partsOf st own str br mkd us gen ep ver):=⟨hlen,.inr ⟨g,cap,cur,rfl,hbg,hg,hcap,hcm,hcs,htk⟩⟩
 have F3:=hid (F2.out.trans f3)
 have HB3:=hid (f3.at HB2.out Lc)
 have HG3:=hid (HG02.out.fr f3 Lc)
 have y0:w3.cell? ⟨g,0,none⟩=some (.int .i64 st):=by rw [hrow.cellAt 0 (by decide)];rfl
 have y1:w3.cell? ⟨g,1,none⟩=some (.int .i64 own):=by rw [hrow.cellAt 1 (by decide)];rfl
 have y2:w3.cell? ⟨g,2,none⟩=some (.int .i64 str):=by rw [hrow.cellAt 2 (by decide)];rfl
 have y3:w3.cell? ⟨g,3,none⟩=some (.int .i64 (Ye br)):=by rw [hrow.cellAt 3 (by decide)];rfl
 have y4:w3.cell? ⟨g,4,none⟩=some (.int .i64 (Ye mkd)):=by rw [hrow.cellAt 4 (by decide)];rfl
 have y5:w3.cell? ⟨g,5,none⟩=some (.int .i64 us):=by rw [hrow.cellAt 5 (by decide)];rfl
 have y6:w3.cell? ⟨g,6,none⟩=some (.int .i64 gen):=by rw [hrow.cellAt 6 (by decide)];rfl
 have y7:w3.cell? ⟨g,7,none⟩=some (.int .i64 ep):=by rw [hrow.cellAt 7 (by decide)];rfl
 have y8:w3.cell? ⟨g,8,none⟩=some (.int .i64 ver):=by rw [hrow.cellAt 8 (by decide)];rfl
 clear hrow hlen hbg hg hcm hcs htk f3
 go_wp2_with fail
 have HBR:=hid (Q7p br)
 have HMK:=hid (Q7p mkd)
 refine wp_region_held_drew (S:=fun w'=>w'.cell? ⟨g,0,none⟩=some (.int .i64 st)∧w'.cell? ⟨g,1,none⟩=some (.int .i64 own)∧w'.cell? ⟨g,2,none⟩=some (.int .i64 str)∧w'.cell? ⟨g,3,none⟩=some (.int .i64 (Ye br))∧w'.cell? ⟨g,4,none⟩=some (.int .i64 (Ye mkd))∧w'.cell? ⟨g,5,none⟩=some (.int .i64 us)∧w'.cell? ⟨g,6,none⟩=some (.int .i64 gen)∧w'.cell? ⟨g,7,none⟩=some (.int .i64 ep)∧w'.cell? ⟨g,8,none⟩=some (.int .i64 ver)) (by kernel_rfl) ⟨y0,y1,y2,y3,y4,y5,y6,y7,y8⟩ (fun hHeld=> ?_)
 refine tk 0 ?_
 refine tk 1 ?_
 refine tk 2 ?_
 refine tk 3 ?_
 refine tk 4 ?_
 refine tk 5 ?_
 refine tk 6 ?_
 refine tk 7 ?_
 refine tk 8 ?_
 refine tk 9 ?_
 refine tk 10 ?_
 refine tk 11 ?_
 refine tk 12 ?_
 try rw [HBR.out]
 refine tk 13 ?_
 refine tk 14 ?_
 refine tk 15 ?_
 refine tk 16 ?_
 try rw [HMK.out]
 refine tk 17 ?_
 refine tk 18 ?_
 refine tk 19 ?_
 refine tk 20 ?_
 refine tk 21 ?_
 refine tk 22 ?_
 refine tk 23 ?_
 refine tk 24 ?_
 refine tk 25 ?_
 refine tk 26 ?_
 refine tk 27 ?_
 refine tk 28 ?_
 refine tk 29 ?_
 refine tc 30 (fun K hK=> ?_)
 go_simp
 refine hK.out _ _ ⟨((Fr.refl [] w3).drew.alloc _).cell y0 Lc,((Fr.refl [] w3).drew.alloc _).cell y1 Lc,((Fr.refl [] w3).drew.alloc _).cell y2 Lc,((Fr.refl [] w3).drew.alloc _).cell y3 Lc,((Fr.refl [] w3).drew.alloc _).cell y4 Lc,((Fr.refl [] w3).drew.alloc _).cell y5 Lc,((Fr.refl [] w3).drew.alloc _).cell y6 Lc,((Fr.refl [] w3).drew.alloc _).cell y7 Lc,((Fr.refl [] w3).drew.alloc _).cell y8 Lc⟩ (fun hHeld=> ?_)
 clear hK K
 try go_frame
 refine tc 31 (fun K hK=> ?_)
 go_simp
 refine hK.out _ _ ⟨((Fr.refl [] w3).alloc _).drew.cell y0 Lc,((Fr.refl [] w3).alloc _).drew.cell y1 Lc,((Fr.refl [] w3).alloc _).drew.cell y2 Lc,((Fr.refl [] w3).alloc _).drew.cell y3 Lc,((Fr.refl [] w3).alloc _).drew.cell y4 Lc,((Fr.refl [] w3).alloc _).drew.cell y5 Lc,((Fr.refl [] w3).alloc _).drew.cell y6 Lc,((Fr.refl [] w3).alloc _).drew.cell y7 Lc,((Fr.refl [] w3).alloc _).drew.cell y8 Lc⟩ (fun hHeld=> ?_)
 clear hK K
 try go_frame
 refine wpAnyH_done (by kernel_rfl) ?_ _
 have hb5:=heap_alloc_new w3 (.cells #[.int .i64 st,.int .i64 own,.int .i64 str,.bool br,.bool mkd,.int .i64 us,.int .i64 gen,.int .i64 ep,.int .i64 ver] 54)
 have f35:=(Fr.refl [] w3).alloc (.cells #[.int .i64 st,.int .i64 own,.int .i64 str,.bool br,.bool mkd,.int .i64 us,.int .i64 gen,.int .i64 ep,.int .i64 ver] 54)
 have HB5:=hid (f35.at HB3.out Lc)
 have HG5:=hid (HG3.out.fr f35.drew Lc)
 have F5:=hid (F3.out.trans f35.drew)
 obtain ⟨w5,hw5⟩:∃x,w3.alloc (.cells #[.int .i64 st,.int .i64 own,.int .i64 str,.bool br,.bool mkd,.int .i64 us,.int .i64 gen,.int .i64 ep,.int .i64 ver] 54)=x:=⟨_,rfl⟩
 rw [hw5] at hb5 HB5 HG5 F5 ⊢
 have x0:w5.cell? ⟨w3.heap.size,0,none⟩=some (.int .i64 st):=cell_of hb5 rfl
 have x1:w5.cell? ⟨w3.heap.size,1,none⟩=some (.int .i64 own):=cell_of hb5 rfl
 have x2:w5.cell? ⟨w3.heap.size,2,none⟩=some (.int .i64 str):=cell_of hb5 rfl
 have x3:w5.cell? ⟨w3.heap.size,3,none⟩=some (.bool br):=cell_of hb5 rfl
 have x4:w5.cell? ⟨w3.heap.size,4,none⟩=some (.bool mkd):=cell_of hb5 rfl
 have x5:w5.cell? ⟨w3.heap.size,5,none⟩=some (.int .i64 us):=cell_of hb5 rfl
 have x6:w5.cell? ⟨w3.heap.size,6,none⟩=some (.int .i64 gen):=cell_of hb5 rfl
 have x7:w5.cell? ⟨w3.heap.size,7,none⟩=some (.int .i64 ep):=cell_of hb5 rfl
 have x8:w5.cell? ⟨w3.heap.size,8,none⟩=some (.int .i64 ver):=cell_of hb5 rfl
 clear f35 hw5 HG3 F3 HB3 hHeld y0 y1 y2 y3 y4 y5 y6 y7 y8
 have hb5d:w5.drew.heap[w3.heap.size]?=_:=hb5
 have HB5X:=hid hb5d
 clear hb5 hb5d
 go_wp2_with fail
 refine (HE.out _ HG5.out).mono ?_
 rintro e w6 ⟨rfl,f6⟩
 have HB6:=f6.at (show w5.drew.heap[w.heap.size]?=_ from HB5.out) Lc
 have hb6:=f6.at HB5X.out Lc
 have F6:=hid (F5.out.trans f6)
 clear f6 HB5 HB5X HG5 F5 x0 x1 x2 x3 x4 x5 x6 x7 x8
 have x0:w6.cell? ⟨w3.heap.size,0,none⟩=some (.int .i64 st):=cell_of hb6 rfl
 have x1:w6.cell? ⟨w3.heap.size,1,none⟩=some (.int .i64 own):=cell_of hb6 rfl
 have x2:w6.cell? ⟨w3.heap.size,2,none⟩=some (.int .i64 str):=cell_of hb6 rfl
 have x3:w6.cell? ⟨w3.heap.size,3,none⟩=some (.bool br):=cell_of hb6 rfl
 have x4:w6.cell? ⟨w3.heap.size,4,none⟩=some (.bool mkd):=cell_of hb6 rfl
 have x5:w6.cell? ⟨w3.heap.size,5,none⟩=some (.int .i64 us):=cell_of hb6 rfl
 have x6:w6.cell? ⟨w3.heap.size,6,none⟩=some (.int .i64 gen):=cell_of hb6 rfl
 have x7:w6.cell? ⟨w3.heap.size,7,none⟩=some (.int .i64 ep):=cell_of hb6 rfl
 have x8:w6.cell? ⟨w3.heap.size,8,none⟩=some (.int .i64 ver):=cell_of hb6 rfl
 have v0:w6.cell? ⟨w.heap.size,0,none⟩=some (.int .i64 0):=cell_of HB6 rfl
 have v1:w6.cell? ⟨w.heap.size,1,none⟩=some (.int .i64 0):=cell_of HB6 rfl
 have v2:w6.cell? ⟨w.heap.size,2,none⟩=some (.int .i64 0):=cell_of HB6 rfl
 have v3:w6.cell? ⟨w.heap.size,3,none⟩=some (.bool false):=cell_of HB6 rfl
 have v4:w6.cell? ⟨w.heap.size,4,none⟩=some (.bool false):=cell_of HB6 rfl
 have v5:w6.cell? ⟨w.heap.size,5,none⟩=some (.int .i64 0):=cell_of HB6 rfl
 have v6:w6.cell? ⟨w.heap.size,6,none⟩=some (.int .i64 0):=cell_of HB6 rfl
 have v7:w6.cell? ⟨w.heap.size,7,none⟩=some (.int .i64 0):=cell_of HB6 rfl
 have v8:w6.cell? ⟨w.heap.size,8,none⟩=some (.int .i64 0):=cell_of HB6 rfl
 have u0:=Qb (i:=0) HB6
 have u1:=Qb (i:=1) HB6
 have u2:=Qb (i:=2) HB6
 have u3:=Qb (i:=3) HB6
 have u4:=Qb (i:=4) HB6
 have u5:=Qb (i:=5) HB6
 have u6:=Qb (i:=6) HB6
 have u7:=Qb (i:=7) HB6
 have u8:=Qb (i:=8) HB6
 go_wp2_with fail
 have FE:=hid (((((((((F6.out.setCell (p:=⟨w.heap.size,0,none⟩) (.inr (Nat.le_refl _)) (.int .i64 st)).setCell (p:=⟨w.heap.size,1,none⟩) (.inr (Nat.le_refl _)) (.int .i64 own)).setCell (p:=⟨w.heap.size,2,none⟩) (.inr (Nat.le_refl _)) (.int .i64 str)).setCell (p:=⟨w.heap.size,3,none⟩) (.inr (Nat.le_refl _)) (.bool br)).setCell (p:=⟨w.heap.size,4,none⟩) (.inr (Nat.le_refl _)) (.bool mkd)).setCell (p:=⟨w.heap.size,5,none⟩) (.inr (Nat.le_refl _)) (.int .i64 us)).setCell (p:=⟨w.heap.size,6,none⟩) (.inr (Nat.le_refl _)) (.int .i64 gen)).setCell (p:=⟨w.heap.size,7,none⟩) (.inr (Nat.le_refl _)) (.int .i64 ep)).setCell (p:=⟨w.heap.size,8,none⟩) (.inr (Nat.le_refl _)) (.int .i64 ver))
 refine ⟨rfl,_, ?_,rfl,FE.out⟩
 simp [results,Tryz.f64,go_sem,v0,v1,v2,v3,v4,v5,v6,v7,v8]
theorem Qu {P:Program} {f:FuncId} {fn:Func} {c:Code} (hf:P.funcs[f]?=some fn) (hname:(fn.name== "runtime.NumGoroutine")=false) (hb:fn.body=some c) (args:Array Value) (w:World):
 (callFunc f args).run P w=.ok (.enter f args) w:=by
 have h1:fn.name≠ "runtime.NumGoroutine":=by simpa using hname
 simp [callFunc,hf,h1,hb,go_sem]
theorem VQ {P:Program} {L:List FuncId} {k:Nat} (h:L.all (fun f=>(P.funcs[f]?).any fun fn=>fn.name != "runtime.NumGoroutine"&&fn.body.isSome)=true) (hk:k<L.length) (args:Array Value) (w:World):(callFunc (L.getD k 0) args).run P w=.ok (.enter (L.getD k 0) args) w:=by
 rw [List.all_eq_true] at h
 have h:=h _ (List.getElem_mem hk)
 have e:L.getD k 0=L[k]:=by simp [List.getD_eq_getElem?_getD,hk]
 rw [e]
 generalize L[k]=f at h
 cases hf:P.funcs[f]? with
 |none=>rw [hf] at h;cases h
 |some fn=>
  rw [hf] at h
  simp only [Option.any_some,Bool.and_eq_true,Option.isSome_iff_exists] at h
  obtain ⟨h1,c,hc⟩:=h
  exact Qu hf (by simpa using h1) hc args w
def Xm (L:List FuncId):Array Value:=(L.map fun f=>Value.func (.func f) #[] #[]).toArray
abbrev tF:Th:=⟨false,[0],fun w=>Qe w 0 Qc,fun f h k=>k.fr f (h _ Lc)⟩
theorem Bag.flds {w:World} (hG:Qe w 0 Qc):Bag [] w [tF] w:=
 have h0:0<w.heap.size:=World.block_lt_of_cell? _ _ (hG 0 _ rfl).1
 (Bag.nil [] w).add tF hG (fun x hx=>by simp at hx;subst hx;exact h0) (fun i x hx=>by simp [gt,Th.nil]) (fun h=>by cases h)
def YK:List FuncId:=[125,126,127,128,129,130,131,132,133,134,135,136,137,138,139,140,141,142]
theorem Yt {f:Nat} {s t:Q7} {own more:Int} {b:Bool} (C:Xq f s own more t b) {o:Option Q7} (e:o=if b=true then some t else none):∃t,Xq f s own more t o.isSome∧∀u,o=some u→t=u:=by
 subst e
 exact ⟨t,by cases b<;>exact C,by cases b<;>simp⟩
theorem chg_fn (s:Q7) (own more:Int) (h:s.right) (d:Nat) (hd:d<18):∃t:Q7,Xq (YK.getD d 0) s own more t (chg d s own more).isSome∧(∀u,chg d s own more=some u→t=u):=by
 have T:=ten s own more h
 have U:=three s own more
 have V:=two s own more
 match d,hd with
 |0,_=>exact Yt T.1 rfl
 |1,_=>exact Yt T.2.1 rfl
 |2,_=>exact Yt T.2.2.1 rfl
 |3,_=>exact Yt T.2.2.2.1 rfl
 |4,_=>exact Yt U.2.2 rfl
 |5,_=>exact Yt T.2.2.2.2.1 rfl
 |6,_=>exact Yt T.2.2.2.2.2.1 rfl
 |7,_=>exact Yt T.2.2.2.2.2.2.1 rfl
 |8,_=>exact Yt T.2.2.2.2.2.2.2.1 rfl
 |9,_=>exact Yt T.2.2.2.2.2.2.2.2.1 rfl
 |10,_=>exact Yt V.1 rfl
 |11,_=>exact Yt U.1 rfl
 |12,_=>exact Yt T.2.2.2.2.2.2.2.2.2 rfl
 |13,_=>exact Yt V.2 rfl
 |14,_=>exact ⟨_,Q5u s own more h,fun u hu=>by rw [show VF s own more=some u from hu];rfl⟩
 |15,_=>exact ⟨_,Q5q s own more h,fun u hu=>by rw [show Vz s own more=some u from hu];rfl⟩
 |16,_=>
  have C:=Q5o s own more h
  rw [show chg 16 s own more=if Jh s 5 own then some (toV s 1 own) else if Jh s 4 own then some (Js s own) else none from rfl]
  cases h5:Jh s 5 own<;>cases h4:Jh s 4 own<;>rw [h5,h4] at C<;>exact ⟨_,C,Lc⟩
 |17,_=>exact Yt U.2.1 rfl
 |d+18,hd=>exact absurd hd Lb
theorem Q1u (w:World):Calls Tryz.prog 88 #[] w fun e w'=>e=.returned (.slice (some ⟨w.heap.size,0,none⟩) 18 18)∧w'.heap[w.heap.size]?=some (.cells (Xm YK) 148 (0,0))∧Fr [] w w':=by
 have H:=hid (And.intro (heap_alloc_new w (.cells (Xm YK) 148)) ((Fr.refl [] w).alloc (.cells (Xm YK) 148)))
 go_in
 go_wp2
 go_ret
 exact ⟨rfl,H.out⟩
def XA:Q7:=⟨0,0,0,false,false,0,0,0,0⟩
theorem Yu (w:World) (s:Q7) (d:Nat) (own more:Int) (h:s.right) (hd:d<18) (o0:0≤own) (o1:own≤15) (hG:Qe w 0 Qc):
 Calls Tryz.prog 65 #[s.val,.int .i64 (d:Int),.int .i64 own,.int .i64 more] w fun e w'=>e=.returned (.tuple #[((Qk s d own more).getD XA).val,.bool (Qk s d own more).isSome])∧Fr [] w w':=by
 have HR:=hid fun w' hg=>Q25 w' s h hg
 obtain ⟨t,hct,hcu⟩:=chg_fn s own more h d hd
 unfold Xq at hct
 have HC:=hid hct
 have HU:=hid hcu
 clear hct hcu
 have hv0:=h.ver0;have hv1:=h.ver1
 rw [show Qk s d own more=(chg d s own more).map fun t=>{t with ver:=(s.ver+1) % 32768} from if_pos ⟨o0,o1⟩]
 have hcf:=VQ (P:=Tryz.prog) (L:=YK) (k:=d) (by decide+kernel) hd
 have hfd:(Xm YK)[d]?=some (.func (.func (YK.getD d 0)) #[] #[]):=by
  have:d<YK.length:=hd
  simp [Xm,List.getD_eq_getElem?_getD,this]
 have hcv:=Q1u
 generalize Xm YK=FA at hfd hcv
 generalize YK.getD d 0=fn at HC hfd hcf
 have HV:=hid hcv
 have B:=Bag.flds hG
 clear h hG hcv
 generalize chg d s own more=co at HC HU ⊢
 obtain ⟨st,so,str,br,mkd,us,gen,ep,ver⟩:=s
 obtain ⟨rst,rso,rstr,rbr,rmkd,rus,rgen,rep,rver⟩:=t
 dsimp only [Q7.val,Xw] at HR HC hv0 hv1 ⊢
 go_in
 go_wp2_with fail
 generalize hw:World.alloc w _=w1,hb:(World.heap w).size=b
 generalize hw2:World.alloc w1 _=w2
 replace B:=B.al2 hw hb hw2
 clear hb hw hw2
 refine (HV.out _).mono ?_
 rintro e w3 ⟨rfl,hf3,f3⟩
 generalize hbf:(World.heap w2).size=bf at hf3 ⊢
 replace B:=B.nw (T':=tR bf FA 148) hf3 f3 (fun x hx=>by simp at hx;subst hx;exact ⟨Nat.le_of_eq hbf,Q9 hf3⟩)
 clear hbf hf3 f3
 have q:=B.q 1
 go_wp2_with fail
 refine (HR.out _ (B.g 0)).mono ?_
 rintro e w4 ⟨rfl,f4⟩
 replace B:=B.tm f4
 clear f4 q
 have hd0:¬((d:Int)<0):=Lb
 have hd1:¬((18:Int)≤(d:Int)):=Lb
 have hd2:(d:Int)<18:=Lb
 have hd3:(0:Int)≤(d:Int):=Lb
 go_wp2_with fail
 refine rg B fun _ B=> ?_
 iterate 8 refine tb ?_
 refine wpAnyH_ready (rs:=[8,12]) (by kernel_rfl) Lc ?_
 refine AllReadyH.cons (o:=_) rfl (fun K hK=> ?_) (AllReadyH.cons (o:=_) rfl (fun K hK=> ?_) AllReadyH.nil)
 all_goals
  simp only [List.getElem_toArray,List.getElem_cons_succ,List.getElem_cons_zero]
  go_simp
  first
   |(refine (HC.out _).mono ?_
     rintro e w5 ⟨rfl,f5⟩
     replace B:=B.tm f5
     go_wp2_with fail
     refine bk hK ?_
     clear hK K
     try go_frame
     refine tj 9 ?_
     refine tj 10 ?_
     refine tj 11 ?_
     refine tc 12 fun K hK=> ?_
     go_simp
     generalize hb:(World.heap _).size=b7,hw:World.alloc _ _=w7
     replace B:=B.al hw hb
     refine bk hK ?_
     clear hK K hw hb
     try go_frame)
   |(generalize hb:(World.heap _).size=b7,hw:World.alloc _ _=w7
     replace B:=B.al hw hb
     refine bk hK ?_
     clear hK K hw hb
     try go_frame
     refine tc 8 fun K hK=> ?_
     go_simp
     refine (HC.out _).mono ?_
     rintro e w5 ⟨rfl,f5⟩
     replace B:=B.tm f5
     go_wp2_with fail
     refine bk hK ?_
     clear hK K
     try go_frame
     refine tj 9 ?_
     refine tj 10 ?_
     refine tj 11 ?_)
  have q:=B.q 4;have u:=B.u 4
  refine to fun K hK=> ?_
  go_simp
  clear q u
  generalize hw:World.setCell _ _ _=w8
  replace B:=(((((((((B.s 4).s 4).s 4).s 4).s 4).s 4).s 4).s 4).s 4).e hw
  refine bk hK ?_
  clear hK K
  try go_frame
  refine tb ?_
  refine wpAnyH_done (by decide+kernel) ?_ _
  rcases co with _|uu
  · simp only [Option.isSome_none]
    have q:=B.q 2;have u:=B.u 2
    go_wp2_with fail
    clear q u
    generalize hw:World.setCell _ _ _=w9
    replace B:=(((((((((B.s 2).s 2).s 2).s 2).s 2).s 2).s 2).s 2).s 2).e hw
    have q:=B.q 2
    refine ⟨rfl,_, ?_,rfl,B.fr⟩
    simp [results,Tryz.f65,go_sem,q,XA]
    try rfl
  · have hu:=HU.out _ rfl
    subst hu
    simp only [Option.isSome_some]
    have q:=B.q 4;have u:=B.u 4;have r:=B.q 1;have q2:=B.q 2;have u2:=B.u 2
    have n1:¬b7=b+1:=by simpa [gt] using B.nd 4 2 (by decide) b7 (by simp [gt])
    have n2:¬b+1=b7:=fun e=>n1 e.symm
    go_wp2_with fail
    clear q u r q2 u2
    generalize hw:World.setCell _ _ _=w9
    replace B:=((((((((((B.s 4).s 2).s 2).s 2).s 2).s 2).s 2).s 2).s 2).s 2).e hw
    have q:=B.q 2
    refine ⟨rfl,_, ?_,rfl,B.fr⟩
    simp [results,Tryz.f65,go_sem,q,XA]
    try rfl
def Y8 (c:Q0) (i:Int):Int:=if 0≤i∧i<c.wo then 3+i else -1
theorem J9 (w:World) (c:Q0) (i:Int) (hc:c.fits):Calls Tryz.prog 42 #[c.val,.int .i64 i] w fun e w'=>e=.returned (.int .i64 (Q5 c i))∧Fr [] w w':=by
 obtain ⟨wo,sl,st,wa,us⟩:=c
 obtain ⟨⟨a0,a1⟩,⟨b0,b1⟩, -⟩:=hc
 unfold Q0.val Q5
 dsimp only at*
 have HF:=hid ((Fr.refl [] w).alloc (.cells #[.int .i64 wo,.int .i64 sl,.int .i64 st,.int .i64 wa,.int .i64 us] 30))
 have hcase:i<0∨(0≤i∧sl≤i)∨(0≤i∧i<sl):=Lb
 rcases hcase with h|⟨h,h'⟩|⟨h,h'⟩
 · rw [if_neg Lb]
   go_in
   go_wp2
   go_ret
   exact ⟨rfl,HF.out⟩
 · rw [if_neg Lb]
   go_in
   go_wp2
   go_ret
   exact ⟨rfl,HF.out⟩
 · rw [if_pos ⟨h,h'⟩]
   unfold Q0.slot
   dsimp only
   go_in
   go_wp2
   go_ret
   exact ⟨rfl,HF.out⟩
theorem He (w:World) (c:Q0) (i:Int) (hc:c.fits):Calls Tryz.prog 73 #[c.val,.int .i64 i] w fun e w'=>e=.returned (.int .i64 (Y8 c i))∧Fr [] w w':=by
 obtain ⟨wo,sl,st,wa,us⟩:=c
 obtain ⟨⟨a0,a1⟩,⟨b0,b1⟩, -⟩:=hc
 unfold Q0.val Y8
 dsimp only at*
 have HF:=hid ((Fr.refl [] w).alloc (.cells #[.int .i64 wo,.int .i64 sl,.int .i64 st,.int .i64 wa,.int .i64 us] 30))
 have hcase:i<0∨(0≤i∧wo≤i)∨(0≤i∧i<wo):=Lb
 rcases hcase with h|⟨h,h'⟩|⟨h,h'⟩
 · rw [if_neg Lb]
   go_in
   go_wp2
   go_ret
   exact ⟨rfl,HF.out⟩
 · rw [if_neg Lb]
   go_in
   go_wp2
   go_ret
   exact ⟨rfl,HF.out⟩
 · rw [if_pos ⟨h,h'⟩]
   go_in
   go_wp2
   go_ret
   exact ⟨rfl,HF.out⟩
theorem Dp (w:World) (x:Int) (h0: -4611686018427387904≤x) (h1:x≤4611686018427387904):Calls Tryz.prog 74 #[.int .i64 x] w fun e w'=>e=.returned (.int .i64 (x+1))∧Fr [] w w':=by
 go_in
 go_wp2
 go_ret
 exact ⟨rfl,Fr.refl _ _⟩
theorem Q2k (w:World) (x:Int) (h0: -4611686018427387904≤x) (h1:x≤4611686018427387904):Calls Tryz.prog 260 #[.int .i64 x] w fun e w'=>e=.returned (.tuple #[.int .i64 (if x<1 then 0 else x - 1),.bool (decide (1≤x))])∧Fr [] w w':=by
 by_cases h:x<1
 · rw [if_pos h,decide_eq_false Lb]
   go_in
   go_wp2
   go_ret2
   exact ⟨rfl,Fr.refl _ _⟩
 · rw [if_neg h,decide_eq_true Lb]
   go_in
   go_wp2
   go_ret2
   exact ⟨rfl,Fr.refl _ _⟩
theorem Z0V {P:Prop} (h:P:=by
 go_in
 go_wp2_with fail
 refine (HE.out _).mono ?_
 rintro e w1 ⟨rfl,f1⟩
 have F1:=hid f1
 go_wp2
 go_ret
 exact ⟨rfl,F1.out⟩):P:=h
theorem Q0G (w:World) (x ep:Int) (h0: -4611686018427387904≤x) (h1:x≤4611686018427387904):Calls Tryz.prog 239 #[.int .i64 x,.int .i64 ep] w fun e w'=>e=.returned (.bool (decide (1≤x∧x - 1≤ep)))∧Fr [] w w':=by
 have HE:=hid fun (w':World)=>Q2k w' x h0 h1
 by_cases h:x<1
 · rw [if_pos h,decide_eq_false Lb] at HE
   rw [decide_eq_false Lb]
   exact Z0V
 · rw [if_neg h,decide_eq_true Lb] at HE
   have hq:decide (1≤x∧x - 1≤ep)=decide (x - 1≤ep):=by
    by_cases h2:x - 1≤ep
    · rw [decide_eq_true h2,decide_eq_true ⟨Lb,h2⟩]
    · rw [decide_eq_false h2,decide_eq_false (fun hh=>h2 hh.2)]
   rw [hq]
   clear hq
   exact Z0V
def ET (o:Option Q7):Int:=match o with|some t=>t.enc|none=>0
theorem Z04 {P:Prop} (h:P:=by
 rw [show (some t:Option Q7).isSome=true from rfl,show (some t:Option Q7).getD XA=t from rfl]
 have HET:=hid fun (w':World) (hg:Qe w' 0 Qc)=>HE.out t w' rfl hg
 clear HE HN HD
 obtain ⟨te,hte⟩:∃te,t.enc=te:=⟨_,rfl⟩
 rw [hte] at HET
 have HTE:=hid hte
 clear hte
 obtain ⟨tst,tso,tstr,tbr,tmkd,tus,tgen,tep,tver⟩:=t
 dsimp only at HET ⊢
 have FS:=hid (((((((((((Fr.refl [b] w3).sc b 0 (.int .i64 tst)).sc b 1 (.int .i64 tso)).sc b 2 (.int .i64 tstr)).sc b 3 (.bool tbr)).sc b 4 (.bool tmkd)).sc b 5 (.int .i64 tus)).sc b 6 (.int .i64 tgen)).sc b 7 (.int .i64 tep)).sc b 8 (.int .i64 tver)))
 have FE:=hid (((((((((((F3.out).setCell (p:=⟨b,0,none⟩) (.inr HLT.out) (.int .i64 tst)).setCell (p:=⟨b,1,none⟩) (.inr HLT.out) (.int .i64 tso)).setCell (p:=⟨b,2,none⟩) (.inr HLT.out) (.int .i64 tstr)).setCell (p:=⟨b,3,none⟩) (.inr HLT.out) (.bool tbr)).setCell (p:=⟨b,4,none⟩) (.inr HLT.out) (.bool tmkd)).setCell (p:=⟨b,5,none⟩) (.inr HLT.out) (.int .i64 tus)).setCell (p:=⟨b,6,none⟩) (.inr HLT.out) (.int .i64 tgen)).setCell (p:=⟨b,7,none⟩) (.inr HLT.out) (.int .i64 tep)).setCell (p:=⟨b,8,none⟩) (.inr HLT.out) (.int .i64 tver)))
 have HG4:=hid (HG3.out.fr FS.out (by simp;exact HB0.out))
 go_wp2_with fail
 refine (HET.out _ HG4.out).mono ?_
 rintro e w5 ⟨rfl,f5⟩
 have F5:=hid (FE.out.trans f5)
 clear f5
 go_wp2
 go_ret2
 exact ⟨by rw [←HTE.out];rfl,F5.out⟩):P:=h
theorem Z06 {P:Prop} (h:P:=by
 rw [show (none:Option Q7).isSome=false from rfl,show (none:Option Q7).getD XA=XA from rfl]
 unfold XA
 dsimp only
 have FE:=hid (((((((((((F3.out).setCell (p:=⟨b,0,none⟩) (.inr HLT.out) (.int .i64 0)).setCell (p:=⟨b,1,none⟩) (.inr HLT.out) (.int .i64 0)).setCell (p:=⟨b,2,none⟩) (.inr HLT.out) (.int .i64 0)).setCell (p:=⟨b,3,none⟩) (.inr HLT.out) (.bool false)).setCell (p:=⟨b,4,none⟩) (.inr HLT.out) (.bool false)).setCell (p:=⟨b,5,none⟩) (.inr HLT.out) (.int .i64 0)).setCell (p:=⟨b,6,none⟩) (.inr HLT.out) (.int .i64 0)).setCell (p:=⟨b,7,none⟩) (.inr HLT.out) (.int .i64 0)).setCell (p:=⟨b,8,none⟩) (.inr HLT.out) (.int .i64 0)))
 go_wp2
 go_ret2
 exact ⟨rfl,FE.out⟩):P:=h
theorem Ub (w:World) (s:Q7) (d:Nat) (more:Int) (h:s.right) (hd:d<18) (hG:Qe w 0 Qc):
 Calls Tryz.prog 264 #[.int .i64 s.enc,.int .i64 (d:Int),.int .i64 more] w fun e w'=>e=.returned (.tuple #[.int .i64 (ET (Qk s d 0 more)),.bool (Qk s d 0 more).isSome])∧Fr [] w w':=by
 have HD:=hid fun (w':World) (hg:Qe w' 0 Qc)=>Ji w' s h hg
 have HN:=hid fun (w':World) (hg:Qe w' 0 Qc)=>Yu w' s d 0 more h hd Lb Lb hg
 have HE:=hid fun (t:Q7) (w':World) (ht:Qk s d 0 more=some t) (hg:Qe w' 0 Qc)=>XJ w' t (JF h ht) hg
 have HG:=hid hG
 clear h hG
 generalize s.enc=en at HD ⊢
 generalize Qk s d 0 more=co at HN HE ⊢
 obtain ⟨st,so,str,br,mkd,us,gen,ep,ver⟩:=s
 unfold Q7.val at HD HN HE
 dsimp only at HD HN HE
 go_in
 go_wp2_with fail
 refine (HD.out _ HG.out).mono ?_
 rintro e w1 ⟨rfl,f1⟩
 have HG1:=hid (HG.out.fr (f1.alloc (.cells #[.int .i64 st,.int .i64 so,.int .i64 str,.bool br,.bool mkd,.int .i64 us,.int .i64 gen,.int .i64 ep,.int .i64 ver] 54)) Lc)
 have F1:=hid (f1.alloc (.cells #[.int .i64 st,.int .i64 so,.int .i64 str,.bool br,.bool mkd,.int .i64 us,.int .i64 gen,.int .i64 ep,.int .i64 ver] 54))
 have hb1:=heap_alloc_new w1 (.cells #[.int .i64 st,.int .i64 so,.int .i64 str,.bool br,.bool mkd,.int .i64 us,.int .i64 gen,.int .i64 ep,.int .i64 ver] 54)
 have HB1:=hid hb1
 have hs1:=f1.size
 have h0s:0<w1.heap.size:=Nat.lt_of_lt_of_le (World.block_lt_of_cell? w _ (HG.out 0 _ rfl).1) f1.size
 have HLT:=hid hs1
 have HB0:=hid (show ¬0=w1.heap.size by omega)
 clear f1 hb1 hs1 h0s
 go_wp2_with fail
 generalize w1.heap.size=b at HB1 HLT HB0 ⊢
 generalize w1.alloc (.cells #[.int .i64 st,.int .i64 so,.int .i64 str,.bool br,.bool mkd,.int .i64 us,.int .i64 gen,.int .i64 ep,.int .i64 ver] 54)=w2 at HB1 HG1 F1 ⊢
 refine (HN.out _ HG1.out).mono ?_
 rintro e w3 ⟨rfl,f3⟩
 have hb3:=f3.at HB1.out Lc
 have HG3:=hid (HG1.out.fr f3 Lc)
 have F3:=hid (F1.out.trans f3)
 have x0:w3.cell? ⟨b,0,none⟩=some (.int .i64 st):=cell_of hb3 rfl
 have u0:=Qb (i:=0) hb3
 have x1:w3.cell? ⟨b,1,none⟩=some (.int .i64 so):=cell_of hb3 rfl
 have u1:=Qb (i:=1) hb3
 have x2:w3.cell? ⟨b,2,none⟩=some (.int .i64 str):=cell_of hb3 rfl
 have u2:=Qb (i:=2) hb3
 have x3:w3.cell? ⟨b,3,none⟩=some (.bool br):=cell_of hb3 rfl
 have u3:=Qb (i:=3) hb3
 have x4:w3.cell? ⟨b,4,none⟩=some (.bool mkd):=cell_of hb3 rfl
 have u4:=Qb (i:=4) hb3
 have x5:w3.cell? ⟨b,5,none⟩=some (.int .i64 us):=cell_of hb3 rfl
 have u5:=Qb (i:=5) hb3
 have x6:w3.cell? ⟨b,6,none⟩=some (.int .i64 gen):=cell_of hb3 rfl
 have u6:=Qb (i:=6) hb3
 have x7:w3.cell? ⟨b,7,none⟩=some (.int .i64 ep):=cell_of hb3 rfl
 have u7:=Qb (i:=7) hb3
 have x8:w3.cell? ⟨b,8,none⟩=some (.int .i64 ver):=cell_of hb3 rfl
 have u8:=Qb (i:=8) hb3
 have HB3:=hid hb3
 clear hb3 f3
 cases co with
 |none=>
  exact Z06
 |some t=>
  exact Z04
theorem Vf (w:World) (s:Q7) (d:Nat) (own:Int) (h:s.right) (hd:d<18) (o0:0≤own) (o1:own≤15) (hG:Qe w 0 Qc):
 Calls Tryz.prog 43 #[.int .i64 s.enc,.int .i64 (d:Int),.int .i64 own] w fun e w'=>e=.returned (.tuple #[.int .i64 (ET (Qk s d own 0)),.bool (Qk s d own 0).isSome])∧Fr [] w w':=by
 have HD:=hid fun (w':World) (hg:Qe w' 0 Qc)=>Ji w' s h hg
 have HN:=hid fun (w':World) (hg:Qe w' 0 Qc)=>Yu w' s d own 0 h hd Lb Lb hg
 have HE:=hid fun (t:Q7) (w':World) (ht:Qk s d own 0=some t) (hg:Qe w' 0 Qc)=>XJ w' t (JF h ht) hg
 have HG:=hid hG
 clear h hG
 generalize s.enc=en at HD ⊢
 generalize Qk s d own 0=co at HN HE ⊢
 obtain ⟨st,so,str,br,mkd,us,gen,ep,ver⟩:=s
 unfold Q7.val at HD HN HE
 dsimp only at HD HN HE
 go_in
 go_wp2_with fail
 refine (HD.out _ HG.out).mono ?_
 rintro e w1 ⟨rfl,f1⟩
 have HG1:=hid (HG.out.fr (f1.alloc (.cells #[.int .i64 st,.int .i64 so,.int .i64 str,.bool br,.bool mkd,.int .i64 us,.int .i64 gen,.int .i64 ep,.int .i64 ver] 54)) Lc)
 have F1:=hid (f1.alloc (.cells #[.int .i64 st,.int .i64 so,.int .i64 str,.bool br,.bool mkd,.int .i64 us,.int .i64 gen,.int .i64 ep,.int .i64 ver] 54))
 have hb1:=heap_alloc_new w1 (.cells #[.int .i64 st,.int .i64 so,.int .i64 str,.bool br,.bool mkd,.int .i64 us,.int .i64 gen,.int .i64 ep,.int .i64 ver] 54)
 have HB1:=hid hb1
 have hs1:=f1.size
 have h0s:0<w1.heap.size:=Nat.lt_of_lt_of_le (World.block_lt_of_cell? w _ (HG.out 0 _ rfl).1) f1.size
 have HLT:=hid hs1
 have HB0:=hid (show ¬0=w1.heap.size by omega)
 clear f1 hb1 hs1 h0s
 go_wp2_with fail
 generalize w1.heap.size=b at HB1 HLT HB0 ⊢
 generalize w1.alloc (.cells #[.int .i64 st,.int .i64 so,.int .i64 str,.bool br,.bool mkd,.int .i64 us,.int .i64 gen,.int .i64 ep,.int .i64 ver] 54)=w2 at HB1 HG1 F1 ⊢
 refine (HN.out _ HG1.out).mono ?_
 rintro e w3 ⟨rfl,f3⟩
 have hb3:=f3.at HB1.out Lc
 have HG3:=hid (HG1.out.fr f3 Lc)
 have F3:=hid (F1.out.trans f3)
 have x0:w3.cell? ⟨b,0,none⟩=some (.int .i64 st):=cell_of hb3 rfl
 have u0:=Qb (i:=0) hb3
 have x1:w3.cell? ⟨b,1,none⟩=some (.int .i64 so):=cell_of hb3 rfl
 have u1:=Qb (i:=1) hb3
 have x2:w3.cell? ⟨b,2,none⟩=some (.int .i64 str):=cell_of hb3 rfl
 have u2:=Qb (i:=2) hb3
 have x3:w3.cell? ⟨b,3,none⟩=some (.bool br):=cell_of hb3 rfl
 have u3:=Qb (i:=3) hb3
 have x4:w3.cell? ⟨b,4,none⟩=some (.bool mkd):=cell_of hb3 rfl
 have u4:=Qb (i:=4) hb3
 have x5:w3.cell? ⟨b,5,none⟩=some (.int .i64 us):=cell_of hb3 rfl
 have u5:=Qb (i:=5) hb3
 have x6:w3.cell? ⟨b,6,none⟩=some (.int .i64 gen):=cell_of hb3 rfl
 have u6:=Qb (i:=6) hb3
 have x7:w3.cell? ⟨b,7,none⟩=some (.int .i64 ep):=cell_of hb3 rfl
 have u7:=Qb (i:=7) hb3
 have x8:w3.cell? ⟨b,8,none⟩=some (.int .i64 ver):=cell_of hb3 rfl
 have u8:=Qb (i:=8) hb3
 have HB3:=hid hb3
 clear hb3 f3
 cases co with
 |none=>
  exact Z06
 |some t=>
  exact Z04
theorem add_in (w:World) (p q:Nat) (L:List Int) (t i d:Int) (hM:QJ 112 w p q L t) (ht0:0≤t) (ht1:t<4611686018427387904) (hi0:0≤i) (hi1:i<L.length):
 Calls Tryz.prog 272 #[.pointer (some ⟨p,0,none⟩),.int .i64 i,.int .i64 d] w fun e w'=>e=.returned (.int .i64 (L.getD i.toNat 0))∧Left 112 p q (L.set i.toNat (wrap64 (L.getD i.toNat 0+d))) (t+1) w w':=by
 obtain ⟨cap,cur,h⟩:=hM
 have hL:L.length≤9223372036854775807:=by have:=h.hl;have:=h.hm;unfold maxLen at this;omega
 have c0:=h.c0;have c1:=h.c1;have f1:=h.f1 1;have hp:=h.plt;have hq:=h.qlt
 have cq:=h.cq (XH hi0 hi1)
 have fq:=h.fq i.toNat
 have hne:=h.hne
 have H:=(((h.touch (t+1)).put i.toNat (wrap64 (L.getD i.toNat 0+d))).alloc (.cells #[.int .i64 d] 3)).drew
 generalize L.getD i.toNat 0=u at cq H ⊢
 go_in
 go_wp2
 go_region
 all_goals go_wp2
 all_goals (go_ret;exact ⟨rfl,⟨cap,_,H⟩,((((Fr.refl _ _).setCell (.inl Lc) _).setCell (.inl Lc) _).alloc _).drew⟩)
theorem Q9g (w:World) (p q:Nat) (L:List Int) (t i d:Int) (hM:QJ 112 w p q L t) (hi:i<0):
 Calls Tryz.prog 272 #[.pointer (some ⟨p,0,none⟩),.int .i64 i,.int .i64 d] w fun e w'=>e=.returned (.int .i64 0)∧Left 112 p q L t w w':=by
 obtain ⟨cap,cur,h⟩:=hM
 have hL:L.length≤9223372036854775807:=by have:=h.hl;have:=h.hm;unfold maxLen at this;omega
 have c0:=h.c0;have c1:=h.c1;have f1:=h.f1 1;have hp:=h.plt;have hq:=h.qlt
 go_in
 go_wp2
 go_ret
 exact ⟨rfl,⟨cap,cur,(h.alloc _)⟩,(Fr.refl _ _).alloc _⟩
theorem Q7x (w:World) (p q:Nat) (L:List Int) (t i d:Int) (hM:QJ 112 w p q L t) (hi0:0≤i) (hi:(L.length:Int)≤i):
 Calls Tryz.prog 272 #[.pointer (some ⟨p,0,none⟩),.int .i64 i,.int .i64 d] w fun e w'=>e=.returned (.int .i64 0)∧Left 112 p q L t w w':=by
 obtain ⟨cap,cur,h⟩:=hM
 have hL:L.length≤9223372036854775807:=by have:=h.hl;have:=h.hm;unfold maxLen at this;omega
 have c0:=h.c0;have c1:=h.c1;have f1:=h.f1 1;have hp:=h.plt;have hq:=h.qlt
 go_in
 go_wp2
 go_ret
 exact ⟨rfl,⟨cap,cur,(h.alloc _)⟩,(Fr.refl _ _).alloc _⟩
theorem Q9h (w:World) (p q:Nat) (L:List Int) (t i d:Int) (hM:QJ 112 w p q L t) (ht0:0≤t) (ht1:t<4611686018427387904):
 Calls Tryz.prog 272 #[.pointer (some ⟨p,0,none⟩),.int .i64 i,.int .i64 d] w fun e w'=>e=.returned (.int .i64 (Q6 L i))∧Left 112 p q (VU L i d) (t+tch L i) w w':=by
 rcases KI L i with h|⟨h0,h⟩|⟨h0,h1⟩
 · simpa [Q6,VU,tch,Yv h] using Q9g w p q L t i d hM h
 · simpa [Q6,VU,tch,K5 h] using Q7x w p q L t i d hM h0 h
 · simpa [Q6,VU,tch,Jf h0 h1] using add_in w p q L t i d hM ht0 ht1 h0 h1
def Qm (w:World) (pm qm:Nat) (M:List Int) (n:Int):Prop:=∃t,QJ 112 w pm qm M t∧0≤t∧t≤n
theorem Qm.fr {w w':World} {pm qm:Nat} {M:List Int} {n:Int} (h:Qm w pm qm M n) {S:List Nat} (f:Fr S w w') (hp:pm∉S) (hq:qm∉S):Qm w' pm qm M n:=by
 obtain ⟨t,h,a,b⟩:=h;exact ⟨t,h.fr f hp hq,a,b⟩
theorem Qm.mono {w:World} {pm qm:Nat} {M:List Int} {n n':Int} (h:Qm w pm qm M n) (hn:n≤n'):Qm w pm qm M n':=by
 obtain ⟨t,h,a,b⟩:=h;exact ⟨t,h,a,Lb⟩
theorem Qm.plt {w:World} {pm qm:Nat} {M:List Int} {n:Int} (h:Qm w pm qm M n):pm<w.heap.size:=by obtain ⟨_,h,_⟩:=h;exact h.plt
theorem Qm.qlt {w:World} {pm qm:Nat} {M:List Int} {n:Int} (h:Qm w pm qm M n):qm<w.heap.size:=by obtain ⟨_,h,_⟩:=h;exact h.qlt
theorem Qm.ne {w:World} {pm qm:Nat} {M:List Int} {n:Int} (h:Qm w pm qm M n):pm≠qm:=by obtain ⟨_,h,_⟩:=h;exact h.ne
theorem Za (w:World) (pm qm:Nat) (M:List Int) (n i:Int) (h:Qm w pm qm M n) (hn:n≤1000000000):
 Calls Tryz.prog 44 #[.pointer (some ⟨pm,0,none⟩),.int .i64 i] w fun e w'=>e=.returned (.int .i64 (Q6 M i))∧Qm w' pm qm M (n+1)∧Fr [pm,qm] w w':=by
 obtain ⟨t,h,a,b⟩:=h
 refine (XG w pm qm M t i h a Lb).mono ?_
 rintro e w' ⟨rfl,h',f⟩
 have:=Q3c M i
 exact ⟨rfl,⟨_,h',Lb,Lb⟩,f⟩
theorem Vx (w:World) (pm qm:Nat) (M:List Int) (n i v:Int) (h:Qm w pm qm M n) (hn:n≤1000000000):
 Calls Tryz.prog 45 #[.pointer (some ⟨pm,0,none⟩),.int .i64 i,.int .i64 v] w fun e w'=>e=.returned (.bool (isIn M i))∧Qm w' pm qm (Qp M i v) (n+1)∧Fr [pm,qm] w w':=by
 obtain ⟨t,h,a,b⟩:=h
 refine (Dj w pm qm M t i v h a Lb).mono ?_
 rintro e w' ⟨rfl,h',f⟩
 have:=Q3c M i
 exact ⟨rfl,⟨_,h',Lb,Lb⟩,f⟩
theorem Uw (w:World) (pm qm:Nat) (M:List Int) (n i o v:Int) (h:Qm w pm qm M n) (hn:n≤1000000000):
 Calls Tryz.prog 159 #[.pointer (some ⟨pm,0,none⟩),.int .i64 i,.int .i64 o,.int .i64 v] w fun e w'=>e=.returned (.bool (Qx M i o))∧Qm w' pm qm (QI M i o v) (n+1)∧Fr [pm,qm] w w':=by
 obtain ⟨t,h,a,b⟩:=h
 refine (Vm w pm qm M t i o v h a Lb).mono ?_
 rintro e w' ⟨rfl,h',f⟩
 have:=Q3c M i
 exact ⟨rfl,⟨_,h',Lb,Lb⟩,f⟩
theorem addN (w:World) (pm qm:Nat) (M:List Int) (n i v:Int) (h:Qm w pm qm M n) (hn:n≤1000000000):
 Calls Tryz.prog 272 #[.pointer (some ⟨pm,0,none⟩),.int .i64 i,.int .i64 v] w fun e w'=>e=.returned (.int .i64 (Q6 M i))∧Qm w' pm qm (VU M i v) (n+1)∧Fr [pm,qm] w w':=by
 obtain ⟨t,h,a,b⟩:=h
 refine (Q9h w pm qm M t i v h a Lb).mono ?_
 rintro e w' ⟨rfl,h',f⟩
 have:=Q3c M i
 exact ⟨rfl,⟨_,h',Lb,Lb⟩,f⟩
theorem Q7n {M:List Int} {i o v:Int} (h:Qx M i o=true):QI M i o v=M.set i.toNat v:=by unfold QI;rw [if_pos h]
theorem K8 {M:List Int} {i o v:Int} (h:Qx M i o=false):QI M i o v=M:=by unfold QI;rw [if_neg (by rw [h];simp)]
end
end Go.Proofs.YtgjklfmnmljilaaGreatDoor

/- A part of the proof: TsA to TsN. -/
import Derived.Test.YtgjklfmnmljilaaGreatDoorZT03
import Derived.Test.YtgjklfmnmljilaaGreatDoorZT44
import Derived.Test.YtgjklfmnmljilaaGreatDoorZT48
namespace Go.Proofs.YtgjklfmnmljilaaGreatDoor
set_option linter.unusedVariables false
set_option linter.unusedSimpArgs false
set_option linter.unusedSectionVars false
set_option linter.unnecessarySimpa false
set_option maxRecDepth 100000
set_option maxHeartbeats 8000000
section
open Go.RowKit Go.Shelf Go.Lib
attribute [local go_sem] Oper.semAt_some
theorem Q5u (w:World) (x y:Int) (h0:0≤x) (h1:x≤y):Calls Tryz.prog 52 #[.int .i64 x,.int .i64 y] w fun e w'=>e=.returned (.bool true)∧w'=w:=by
 go_in
 go_wp2
 go_ret
 exact ⟨rfl,rfl⟩
theorem Q2n (w:World) (s:Q8) (h:s.right):Calls Tryz.prog 38 #[s.val] w fun e w'=>e=.returned (.bool true)∧Fr [] w w':=by
 have HF:=hid fun (w':World) (x y:Int) (a:0≤x) (b:x≤y)=>Q5u w' x y a b
 obtain ⟨st,own,str,br,mkd,us,gen,ep,ver⟩:=s
 obtain ⟨st0,st1,own0,own1,str0,str1,us0,us1,gen0,gen1,ep0,ep1,ver0,ver1,strL,mkI,brL,usL,epL,ownE,ownL⟩:=h
 dsimp only at*
 unfold Q8.val
 have FF:=hid fun (o:Obj)=>(Fr.refl [] w).alloc o
 have hs:st=0∨st=1∨st=2∨st=3∨st=4∨st=5∨st=6:=by omega
 rcases hs with rfl|rfl|rfl|rfl|rfl|rfl|rfl
 · obtain rfl:=strL (by omega);obtain rfl:=mkI (by omega);obtain rfl:=brL (by omega) (by omega) (by omega);obtain rfl:=usL (by omega) (by omega) (by omega);obtain rfl:=epL (by omega);obtain rfl:=ownE (by omega)
   clear strL mkI brL usL epL ownE ownL
   go_in
   go_wp2_with fail
   refine (HF.out _ _ _ (by omega) (by omega)).mono ?_;rintro e w1 ⟨rfl,rfl⟩;go_wp2_with fail
   refine (HF.out _ _ _ (by omega) (by omega)).mono ?_;rintro e w1 ⟨rfl,rfl⟩;go_wp2_with fail
   refine (HF.out _ _ _ (by omega) (by omega)).mono ?_;rintro e w1 ⟨rfl,rfl⟩;go_wp2_with fail
   refine (HF.out _ _ _ (by omega) (by omega)).mono ?_;rintro e w1 ⟨rfl,rfl⟩;go_wp2_with fail
   refine (HF.out _ _ _ (by omega) (by omega)).mono ?_;rintro e w1 ⟨rfl,rfl⟩;go_wp2_with fail
   refine (HF.out _ _ _ (by omega) (by omega)).mono ?_;rintro e w1 ⟨rfl,rfl⟩;go_wp2_with fail
   refine (HF.out _ _ _ (by omega) (by omega)).mono ?_;rintro e w1 ⟨rfl,rfl⟩;go_wp2_with fail
   all_goals go_ret
   all_goals exact ⟨rfl,FF.out _⟩
 · obtain rfl:=strL (by omega);obtain rfl:=mkI (by omega);obtain rfl:=brL (by omega) (by omega) (by omega);obtain rfl:=usL (by omega) (by omega) (by omega);obtain rfl:=epL (by omega)
   clear strL mkI brL usL epL ownE ownL
   go_in
   go_wp2_with fail
   refine (HF.out _ _ _ (by omega) (by omega)).mono ?_;rintro e w1 ⟨rfl,rfl⟩;go_wp2_with fail
   refine (HF.out _ _ _ (by omega) (by omega)).mono ?_;rintro e w1 ⟨rfl,rfl⟩;go_wp2_with fail
   refine (HF.out _ _ _ (by omega) (by omega)).mono ?_;rintro e w1 ⟨rfl,rfl⟩;go_wp2_with fail
   refine (HF.out _ _ _ (by omega) (by omega)).mono ?_;rintro e w1 ⟨rfl,rfl⟩;go_wp2_with fail
   refine (HF.out _ _ _ (by omega) (by omega)).mono ?_;rintro e w1 ⟨rfl,rfl⟩;go_wp2_with fail
   refine (HF.out _ _ _ (by omega) (by omega)).mono ?_;rintro e w1 ⟨rfl,rfl⟩;go_wp2_with fail
   refine (HF.out _ _ _ (by omega) (by omega)).mono ?_;rintro e w1 ⟨rfl,rfl⟩;go_wp2_with fail
   all_goals go_ret
   all_goals exact ⟨rfl,FF.out _⟩
 · obtain rfl:=strL (by omega);obtain rfl:=epL (by omega)
   clear strL mkI brL usL epL ownE ownL
   go_in
   go_wp2_with fail
   refine (HF.out _ _ _ (by omega) (by omega)).mono ?_;rintro e w1 ⟨rfl,rfl⟩;go_wp2_with fail
   refine (HF.out _ _ _ (by omega) (by omega)).mono ?_;rintro e w1 ⟨rfl,rfl⟩;go_wp2_with fail
   refine (HF.out _ _ _ (by omega) (by omega)).mono ?_;rintro e w1 ⟨rfl,rfl⟩;go_wp2_with fail
   refine (HF.out _ _ _ (by omega) (by omega)).mono ?_;rintro e w1 ⟨rfl,rfl⟩;go_wp2_with fail
   refine (HF.out _ _ _ (by omega) (by omega)).mono ?_;rintro e w1 ⟨rfl,rfl⟩;go_wp2_with fail
   refine (HF.out _ _ _ (by omega) (by omega)).mono ?_;rintro e w1 ⟨rfl,rfl⟩;go_wp2_with fail
   refine (HF.out _ _ _ (by omega) (by omega)).mono ?_;rintro e w1 ⟨rfl,rfl⟩;go_wp2_with fail
   all_goals go_ret
   all_goals exact ⟨rfl,FF.out _⟩
 · obtain rfl:=mkI (by omega);obtain rfl:=epL (by omega)
   clear strL mkI brL usL epL ownE ownL
   go_in
   go_wp2_with fail
   refine (HF.out _ _ _ (by omega) (by omega)).mono ?_;rintro e w1 ⟨rfl,rfl⟩;go_wp2_with fail
   refine (HF.out _ _ _ (by omega) (by omega)).mono ?_;rintro e w1 ⟨rfl,rfl⟩;go_wp2_with fail
   refine (HF.out _ _ _ (by omega) (by omega)).mono ?_;rintro e w1 ⟨rfl,rfl⟩;go_wp2_with fail
   refine (HF.out _ _ _ (by omega) (by omega)).mono ?_;rintro e w1 ⟨rfl,rfl⟩;go_wp2_with fail
   refine (HF.out _ _ _ (by omega) (by omega)).mono ?_;rintro e w1 ⟨rfl,rfl⟩;go_wp2_with fail
   refine (HF.out _ _ _ (by omega) (by omega)).mono ?_;rintro e w1 ⟨rfl,rfl⟩;go_wp2_with fail
   refine (HF.out _ _ _ (by omega) (by omega)).mono ?_;rintro e w1 ⟨rfl,rfl⟩;go_wp2_with fail
   all_goals go_ret
   all_goals exact ⟨rfl,FF.out _⟩
 · obtain rfl:=strL (by omega);obtain rfl:=mkI (by omega);obtain rfl:=epL (by omega)
   clear strL mkI brL usL epL ownE ownL
   go_in
   go_wp2_with fail
   refine (HF.out _ _ _ (by omega) (by omega)).mono ?_;rintro e w1 ⟨rfl,rfl⟩;go_wp2_with fail
   refine (HF.out _ _ _ (by omega) (by omega)).mono ?_;rintro e w1 ⟨rfl,rfl⟩;go_wp2_with fail
   refine (HF.out _ _ _ (by omega) (by omega)).mono ?_;rintro e w1 ⟨rfl,rfl⟩;go_wp2_with fail
   refine (HF.out _ _ _ (by omega) (by omega)).mono ?_;rintro e w1 ⟨rfl,rfl⟩;go_wp2_with fail
   refine (HF.out _ _ _ (by omega) (by omega)).mono ?_;rintro e w1 ⟨rfl,rfl⟩;go_wp2_with fail
   refine (HF.out _ _ _ (by omega) (by omega)).mono ?_;rintro e w1 ⟨rfl,rfl⟩;go_wp2_with fail
   refine (HF.out _ _ _ (by omega) (by omega)).mono ?_;rintro e w1 ⟨rfl,rfl⟩;go_wp2_with fail
   all_goals go_ret
   all_goals exact ⟨rfl,FF.out _⟩
 · obtain rfl:=strL (by omega);obtain rfl:=mkI (by omega);obtain rfl:=brL (by omega) (by omega) (by omega);obtain rfl:=usL (by omega) (by omega) (by omega);obtain rfl:=epL (by omega)
   clear strL mkI brL usL epL ownE ownL
   go_in
   go_wp2_with fail
   refine (HF.out _ _ _ (by omega) (by omega)).mono ?_;rintro e w1 ⟨rfl,rfl⟩;go_wp2_with fail
   refine (HF.out _ _ _ (by omega) (by omega)).mono ?_;rintro e w1 ⟨rfl,rfl⟩;go_wp2_with fail
   refine (HF.out _ _ _ (by omega) (by omega)).mono ?_;rintro e w1 ⟨rfl,rfl⟩;go_wp2_with fail
   refine (HF.out _ _ _ (by omega) (by omega)).mono ?_;rintro e w1 ⟨rfl,rfl⟩;go_wp2_with fail
   refine (HF.out _ _ _ (by omega) (by omega)).mono ?_;rintro e w1 ⟨rfl,rfl⟩;go_wp2_with fail
   refine (HF.out _ _ _ (by omega) (by omega)).mono ?_;rintro e w1 ⟨rfl,rfl⟩;go_wp2_with fail
   refine (HF.out _ _ _ (by omega) (by omega)).mono ?_;rintro e w1 ⟨rfl,rfl⟩;go_wp2_with fail
   all_goals go_ret
   all_goals exact ⟨rfl,FF.out _⟩
 · obtain rfl:=strL (by omega);obtain rfl:=mkI (by omega);obtain rfl:=brL (by omega) (by omega) (by omega);obtain rfl:=usL (by omega) (by omega) (by omega);obtain rfl:=ownL (by omega)
   clear strL mkI brL usL epL ownE ownL
   go_in
   go_wp2_with fail
   refine (HF.out _ _ _ (by omega) (by omega)).mono ?_;rintro e w1 ⟨rfl,rfl⟩;go_wp2_with fail
   refine (HF.out _ _ _ (by omega) (by omega)).mono ?_;rintro e w1 ⟨rfl,rfl⟩;go_wp2_with fail
   refine (HF.out _ _ _ (by omega) (by omega)).mono ?_;rintro e w1 ⟨rfl,rfl⟩;go_wp2_with fail
   refine (HF.out _ _ _ (by omega) (by omega)).mono ?_;rintro e w1 ⟨rfl,rfl⟩;go_wp2_with fail
   refine (HF.out _ _ _ (by omega) (by omega)).mono ?_;rintro e w1 ⟨rfl,rfl⟩;go_wp2_with fail
   refine (HF.out _ _ _ (by omega) (by omega)).mono ?_;rintro e w1 ⟨rfl,rfl⟩;go_wp2_with fail
   refine (HF.out _ _ _ (by omega) (by omega)).mono ?_;rintro e w1 ⟨rfl,rfl⟩;go_wp2_with fail
   all_goals go_ret
   all_goals exact ⟨rfl,FF.out _⟩
theorem Q0M (w:World) (s:Q8) (h:s.right):Calls Tryz.prog 23 #[.int .i64 s.enc] w fun e w'=>e=.returned (.tuple #[s.val,.bool true])∧Fr [] w w':=by
 have HR:=hid fun (w':World)=>Q2n w' s h
 obtain ⟨p1,p2,p3,p4,p5,p6,p7,p8,p9⟩:=Gp h
 have e0:=Hw h
 have e1:=Q7G h
 obtain ⟨en,hen⟩:∃en,s.enc=en:=⟨_,rfl⟩
 rw [hen] at p1 p2 p3 p4 p5 p6 p7 p8 p9 e0 e1 ⊢
 clear hen h
 obtain ⟨st,own,str,br,mkd,us,gen,ep,ver⟩:=s
 unfold Q8.val at HR ⊢
 dsimp only at*
 have P:=hid (And.intro p1 (And.intro p2 (And.intro p3 (And.intro p4 (And.intro p5 (And.intro p6 (And.intro p7 (And.intro p8 p9))))))))
 clear p1 p2 p3 p4 p5 p6 p7 p8 p9
 go_in
 go_wp2_with fail
 have e4:(en / 32768 % 2==1)=br:=by have:=Hy _ _ P.out.2.2.2.1;rw [←this];rfl
 have e5:(en / 65536 % 2==1)=mkd:=by have:=Hy _ _ P.out.2.2.2.2.1;rw [←this];rfl
 rw [P.out.1,P.out.2.1,P.out.2.2.1,e4,e5,P.out.2.2.2.2.2.1,P.out.2.2.2.2.2.2.1,P.out.2.2.2.2.2.2.2.1,P.out.2.2.2.2.2.2.2.2]
 have hb0:=heap_alloc_new w (.cells #[.int .i64 0,.int .i64 0,.int .i64 0,.bool false,.bool false,.int .i64 0,.int .i64 0,.int .i64 0,.int .i64 0] 54)
 have f0:=(Fr.refl [] w).alloc (.cells #[.int .i64 0,.int .i64 0,.int .i64 0,.bool false,.bool false,.int .i64 0,.int .i64 0,.int .i64 0,.int .i64 0] 54)
 have hs0:(w.alloc (.cells #[.int .i64 0,.int .i64 0,.int .i64 0,.bool false,.bool false,.int .i64 0,.int .i64 0,.int .i64 0,.int .i64 0] 54)).heap.size=w.heap.size+1:=World.size_alloc _ _
 generalize w.alloc (.cells #[.int .i64 0,.int .i64 0,.int .i64 0,.bool false,.bool false,.int .i64 0,.int .i64 0,.int .i64 0,.int .i64 0] 54)=w1 at hb0 f0 hs0 ⊢
 have hb1:=heap_alloc_new w1 (.cells #[.int .i64 st,.int .i64 own,.int .i64 str,.bool br,.bool mkd,.int .i64 us,.int .i64 gen,.int .i64 ep,.int .i64 ver] 54)
 have g1:=(Fr.refl [] w1).alloc (.cells #[.int .i64 st,.int .i64 own,.int .i64 str,.bool br,.bool mkd,.int .i64 us,.int .i64 gen,.int .i64 ep,.int .i64 ver] 54)
 rw [hs0] at hb1
 generalize w1.alloc (.cells #[.int .i64 st,.int .i64 own,.int .i64 str,.bool br,.bool mkd,.int .i64 us,.int .i64 gen,.int .i64 ep,.int .i64 ver] 54)=w2 at hb1 g1 ⊢
 replace hb0:=g1.at hb0 (by simp)
 replace f0:=f0.trans g1
 clear g1 hs0
 refine (HR.out _).mono ?_
 rintro e w3 ⟨rfl,f3⟩
 replace hb0:=f3.at hb0 (by simp)
 replace hb1:=f3.at hb1 (by simp)
 replace f0:=f0.trans f3
 clear f3
 have F0:=hid f0
 obtain ⟨p0,hp0⟩:∃p,w.heap.size=p:=⟨_,rfl⟩
 have hp1:¬p0=p0+1:=by omega
 have hp2:¬p0+1=p0:=by omega
 rw [hp0] at hb0 hb1 ⊢
 have q0:=cl 0 hb1;have q1:=cl 1 hb1;have q2:=cl 2 hb1;have q3:=cl 3 hb1;have q4:=cl 4 hb1;have q5:=cl 5 hb1;have q6:=cl 6 hb1;have q7:=cl 7 hb1;have q8:=cl 8 hb1
 have HB:=hid hb0;have HP0:=hid hp0
 clear hb0 hb1 f0 hp0
 obtain ⟨w4,hr4,hb4,f4⟩:=Vl (P:=Tryz.prog) HB.out [.int .i64 st,.int .i64 own,.int .i64 str,.bool br,.bool mkd,.int .i64 us,.int .i64 gen,.int .i64 ep,.int .i64 ver] 54 rfl rfl (by intro v hv;simp only [List.mem_cons,List.not_mem_nil,or_false] at hv;rcases hv with h|h|h|h|h|h|h|h|h<;>rw [h]<;>rfl)
 have HR4:=hid hr4
 have HB4:=hid hb4
 have HF4:=hid ((F0.out).then f4 (by intro x hx;right;simp at hx;have:=HP0.out;omega))
 clear hr4 hb4 f4
 go_wp2_with (first|(refine Zf rfl _ _ _ rfl _ _ rfl rfl HR4.out ?_)|fail)
 have m0:=cl 0 HB4.out;have m1:=cl 1 HB4.out;have m2:=cl 2 HB4.out;have m3:=cl 3 HB4.out;have m4:=cl 4 HB4.out;have m5:=cl 5 HB4.out;have m6:=cl 6 HB4.out;have m7:=cl 7 HB4.out;have m8:=cl 8 HB4.out
 refine bodyPost_ret (v:=.tuple #[.agg #[.int .i64 st,.int .i64 own,.int .i64 str,.bool br,.bool mkd,.int .i64 us,.int .i64 gen,.int .i64 ep,.int .i64 ver],.bool true]) ?_ rfl ⟨rfl,HF4.out⟩
 simp [results,Tryz.f23,go_sem,m0,m1,m2,m3,m4,m5,m6,m7,m8]
theorem Bag.nf {S0:List Nat} {w0 w:World} {L L':List Th} (B:Bag S0 w0 L w) (hL:L=L':=by (try simp only [List.nil_append,List.cons_append]);exact rfl):Bag S0 w0 L' w:=hL▸B
theorem Q6t:JA fun m=>∃h,Yx m.entries m h∧0≤m.entries∧m.c=JE where
 n:=⟨_,Yx.new Kz,Int.le_refl 0,rfl⟩
 s:=fun m x ⟨h,I,e,c⟩ he=>by
  obtain ⟨h',D⟩:=I.do_ (by omega) x
  have:=ZR m x
  exact ⟨h',by rw [this];exact D.inv,by omega,by rw [D.c];exact c⟩
 i:=fun m ⟨h,I,e,c⟩=>⟨I.mi,e,c⟩
structure Q1Q (cv:Q0) (i:Nat) (m:Qb) (h:Jo) (G:List Bool):Prop where
 e:m.entries=i
 c:m.c=cv
 t:Yx i m h
 g:YH m G
 w:Wu m
theorem Q1Q.next {cv:Q0} {i:Nat} {m:Qb} {h:Jo} {G:List Bool} (I:Q1Q cv i m h G) (hi:i≤200) (x:QF):
 ∃h',Q1Q cv (i+1) (doV m x).1 h' (JO G x (doV m x).2)∧Q87 i m x (doV m x).1 (doV m x).2 h':=by
 obtain ⟨h',D⟩:=I.t.do_ (by omega) x
 have a:=I.t.mi.wl;have b:=D.inv.mi.wl
 rw [D.c] at b
 exact ⟨h',⟨by rw [ZR,I.e];omega,D.c.trans I.c,D.inv,I.g.next D,I.w.do_ x (by omega)⟩,D⟩
def Va (n:Nat) (f:Nat→Int):Array Value:=((List.range n).map fun k=>Value.int .i64 (f k)).toArray
def Gd (G:List Bool):Array Value:=(G.map Value.bool).toArray
theorem Q3y {n k:Nat} {f:Nat→Int} (h:k<n):(Va n f)[k]?=some (.int .i64 (f k)):=by simp [Va,h]
theorem Q6E {n k:Nat} {f g:Nat→Int} {v:Int} (h1:g k=v) (h:∀j,j≠k→g j=f j):(Va n f).setIfInBounds k (.int .i64 v)=Va n g:=by
 subst h1
 unfold Va
 rw [List.setIfInBounds_toArray]
 congr 1
 apply List.ext_getElem?
 intro j
 rw [List.getElem?_set]
 simp only [List.length_map,List.length_range,List.getElem?_map]
 by_cases hj:j<n
 · simp only [List.getElem?_range hj,Option.map_some]
   split
   · subst k;simp [hj]
   · rw [h j (by omega)]
 · rw [List.getElem?_eq_none (l:=List.range n) (by simpa using hj)]
   simp;omega
theorem Q3z {G:List Bool} {k:Nat} (h:k<G.length):(Gd G)[k]?=some (.bool (G.getD k false)):=by simp [Gd,List.getD_eq_getElem?_getD,h]
theorem Q0J {G:List Bool} {k:Nat} {v:Bool}:(Gd G).setIfInBounds k (.bool v)=Gd (G.set k v):=by simp [Gd,List.map_set]
theorem Q73 (n:Nat):Q0Y n=.cells (Va n fun _=>0) 3 (0,0):=by
 unfold Q0Y Va;congr 2;apply List.ext_getElem?;intro j;simp [List.getElem?_replicate]
 by_cases h:j<n<;>simp [h]
theorem Q3i:(Tryz.prog.info? 4).map (fun i=>(i.zero,i.size,i.bytes))=some (some (.bool false),1,1):=by kernel_rfl
theorem mkG (n:Nat) (hn:n≤1000) (wx:World):(Instr.makeSlice 59 (.int .i64 n) (.int .i64 n)).run Tryz.prog wx=.ok (.slice (some ⟨wx.heap.size,0,none⟩) n n) (wx.alloc (.cells (Gd (List.replicate n false)) 4 (0,0))):=by
 obtain ⟨i0,hi0,hz0,hz1,hz2⟩:=info_parts Q3i
 have h:=run_make (P:=Tryz.prog) wx 59 4 i0 _ Tryz.underlying59 hi0 hz0 .i64 .i64 (n:Int) (n:Int) (by omega) (by omega) (by rw [hz2];omega) (by omega)
 rw [hz1,Int.toNat_natCast,Q7b _ (by simp [Value.cells])] at h
 unfold Gd
 rw [List.map_replicate]
 exact h
theorem mkN (n:Nat) (hn:n≤1000) (wx:World):(Instr.makeSlice 44 (.int .i64 n) (.int .i64 n)).run Tryz.prog wx=.ok (.slice (some ⟨wx.heap.size,0,none⟩) n n) (wx.alloc (.cells (Va n fun _=>0) 3 (0,0))):=by
 rw [mkI n hn wx,Q73]
theorem Q6z {w:World} {t:Y0} {b o:Nat} (h:t.at w b o):(loadVar 62 ⟨b,o,none⟩).run Tryz.prog w=.ok t.val w:=by
 obtain ⟨ie,hie,hsz⟩:∃ie,Tryz.prog.info? 62=some ie∧6=ie.size:=⟨_,rfl,rfl⟩
 refine Lib.rl_loadVar_cells _ ie hie (fun w=> ?_) b o [.int .u8 t.kd,.int .u8 t.wh,.int .u8 t.op,.int .u8 t.sl,.int .u8 t.gn,.int .u8 t.nn] hsz w ?_
 · simp [go_sem]
 · intro j v hj
   match j,hj with
   |0,hj=>cases hj;exact h.q0
   |1,hj=>cases hj;exact h.q1
   |2,hj=>cases hj;exact h.q2
   |3,hj=>cases hj;exact h.q3
   |4,hj=>cases hj;exact h.q4
   |5,hj=>cases hj;exact h.q5
   |n+6,hj=>simp at hj
abbrev tEn (b:Nat) (x:QF):Th:=tR b #[.int .i64 x.kind,.int .i64 x.who,.int .i64 x.ask.op,.int .i64 x.ask.dl,.bool x.ask.wait,.bool x.ask.force,.int .i64 x.ask.slot,.int .i64 x.ask.gen,.int .i64 x.ask.stream,.int .i64 x.n,.bool x.good] 39
theorem Q2S {M:List Int} {j:Nat} {N:Nat} (hN:M.length=N) (h:j<N):M[j]?=some (Q7 M j):=by
 rw [List.getElem?_eq_getElem (by omega)]
 unfold Q7 isIn
 have h1:decide (0≤(j:Int))=true:=by simp
 have h2:decide ((j:Int)<M.length)=true:=by simp;omega
 simp [List.getD_eq_getElem?_getD,hN,h]
theorem Q6F {n:Nat} {f g:Nat→Int} (h:∀j,j<n→f j=g j):Va n f=Va n g:=by
 unfold Va
 congr 1
 apply List.map_congr_left
 intro j hj
 rw [h j (List.mem_range.1 hj)]
theorem Q1Q.slot {cv:Q0} {i:Nat} {m m':Qb} {h h':Jo} {G G':List Bool} {x:QF} {did:Bool} (I:Q1Q cv i m h G) (I':Q1Q cv (i+1) m' h' G') (D:Q87 i m x m' did h') (hi:i≤200) (k:Nat) (hk:(k:Int)<cv.sl):
 ((SL cv m'.M k).right∧Q7 m'.M (cv.slot k)=(SL cv m'.M k).enc∧Q7 m.M (cv.slot k)=(SL cv m.M k).enc)∧((SL cv m'.M k).enc=(SL cv m.M k).enc∧(SL cv m'.M k).ver=(SL cv m.M k).ver∨(SL cv m'.M k).ver=(SL cv m.M k).ver+1)∧
 (0≤(SL cv m.M k).ver∧(SL cv m.M k).ver≤4000)∧(0≤h'.who.getD k 0∧h'.who.getD k 0≤cv.wo)∧
 (Q7 m'.M 0≠2→0<h'.who.getD k 0→(G'.getD (h'.who.getD k 0 - 1).toNat false=false∨(m'.wk (h'.who.getD k 0 - 1).toNat).st=0)→(SL cv m'.M k).st=3):=by
 have hc:=I.c;have hc':=I'.c
 have e1:=I.t.mi.mem.at k;have e2:=I'.t.mi.mem.at k
 have hs:Q5 cv k=cv.slot k:=by unfold Q5;rw [if_pos ⟨by omega,hk⟩]
 have lo:=I.t.low k
 have v0:=e1.1.ver0
 have r:=I'.t.ok.r k (by omega)
 have V:=Q6u I.t.mi.mem I.t.low (by omega) D.st k
 have H:=I'.t.holds I'.g (k:=k) (by omega)
 rw [hc] at e1 lo v0 V
 rw [hc'] at e2 r H
 rw [hs] at e1 e2 V
 have e3:=e1.2.1;have e4:=e2.2.1
 refine ⟨⟨e2.1,e4,e3⟩, ?_,⟨v0,by omega⟩,r hk,fun a b c=>H hk a b c⟩
 rcases V with ⟨a,b⟩|a
 · exact .inl ⟨by rw [←e4,←e3];exact a,b⟩
 · exact .inr a
theorem D5 (w:World) (h3:3≤w.heap.size) (hfl:Qf w 0 Qc) (hdb:Vo w) (ga gb gc gd ge:Int) (ha:u8s ga) (hb:u8s gb) (hc:u8s gc) (hd:u8s gd) (he:u8s ge) (g:Option Addr) (cap:Nat) (L:List Y0) (hT:Eb w g L):
 Calls Tryz.prog 5 #[.agg #[.int .u8 ga,.int .u8 gb,.int .u8 gc,.int .u8 gd,.int .u8 ge],.slice g L.length cap] w fun e w'=>e=.returned (.bool true)∧Fr [] w w':=by
 have HFL:=hid hfl;have HDB:=hid hdb;have HT:=hid hT
 have HC:=hid fun (wx:World)=>Q4I wx ga gb gc gd ge ha hb hc hd he
 obtain ⟨len,hlen⟩:∃len,L.length=len:=⟨_,rfl⟩
 have HLN:=hid hlen
 rw [hlen]
 clear hfl hdb hT hlen ha hb hc hd he
 go_in
 go_wp2_with fail
 generalize hb:(World.heap _).size=bg,hw:World.alloc _ _=w1
 have B:=(Bag.nil [] w).al hw hb
 clear hw hb
 refine (Q5Q w1 (by have:=B.fr.size;omega) (HFL.out.fr B.fr (by simp)) (HDB.out.fr B.fr (by simp)) Q6t).mono ?_
 rintro e w2 ⟨rfl,f⟩
 replace B:=B.tm f
 clear f
 by_cases hs:(200:Int)<len
 · go_wp2
   go_ret
   exact ⟨rfl,B.fr⟩
 have k:=B.q 0
 go_wp2_with fail
 refine (HC.out _).mono ?_
 rintro e w3 ⟨cv,rfl,hsm,f⟩
 replace B:=B.tm f
 clear f k HC
 have HSM:=hid hsm
 obtain ⟨⟨o0,o1⟩,⟨l0,l1⟩, -⟩:=hsm
 obtain ⟨wo,sl,st,wa,us⟩:=cv
 dsimp only at o0 o1 l0 l1
 obtain ⟨wo,rfl⟩:∃n:Nat,wo=n:=⟨wo.toNat,by omega⟩
 obtain ⟨sl,rfl⟩:∃n:Nat,sl=n:=⟨sl.toNat,by omega⟩
 obtain ⟨cv,hcv⟩:∃cv,(⟨wo,sl,st,wa,us⟩:Q0)=cv:=⟨_,rfl⟩
 rw [hcv] at HSM
 have HCV:=hid hcv
 have HNW:=hid fun wx=>r_new wx cv HSM.out.fits
 rw [←hcv] at HNW
 unfold Q0.val at HNW ⊢
 dsimp only at HNW ⊢
 clear hcv
 go_wp2_with fail
 generalize hb:(World.heap _).size=q,hw:World.alloc _ _=w4
 replace B:=(B.al hw hb).sel [1]
 clear hw hb
 refine (HNW.out w4 (by have:=B.fr.size;omega) (HFL.out.fr B.fr (by simp)) (HDB.out.fr B.fr (by simp))).mono ?_
 rintro e w5 ⟨b,F,rfl,A,hF,f⟩
 rw [HCV.out] at A
 replace B:=(B.nw (T':=Vy (lies w5 F) b (QH cv)) ⟨w5,[],Fr.refl _ _,by simp,A.cut⟩ f (fun x hx=>⟨hF x (WU x hx),EU x hx⟩)).sel [1,0]
 clear A hF f HNW
 have k:=B.q 1
 have H1:=fun wx=>mkN sl (by omega) wx
 have H2:=fun wx=>mkG wo (by omega) wx
 have k2:=B.qa 1
 unfold pt
 go_wp2_with fail
 generalize hw:World.alloc w5 _=w6,hb:(World.heap w5).size=bv
 generalize hw2:World.alloc w6 _=w7
 replace B:=B.al2 hw hb hw2
 clear hw hb hw2 k k2 H1 H2
 have hI0:Q1Q cv 0 (QH cv) (Xf cv.sl) (List.replicate wo false):=⟨rfl,rfl,Yx.new HSM.out.fits,by have:=YH.new HSM.out.fits;rw [show cv.wo.toNat=wo by rw [←HCV.out];rfl] at this;exact this,Wu.new cv⟩
 have h0:Va sl (fun _=>0)=Va sl fun k=>(SL cv (QH cv).M k).ver:=by simp only [ES];rfl
 rw [h0] at B
 have HI0:=hid hI0;have HB0:=hid B
 clear hI0 h0 B
 go_loopw [11,12,13,14,15,16,17,18,19,20,21,22] (fun s11 _ _ _ _ _ _ _ _ _ _ _ wr=>∃(i:Nat) (m:Qb) (F:List Nat) (h:Jo) (G:List Bool),i≤len∧s11=.int .i64 i∧Q1Q cv i m h G∧
  Bag [] w [Vy F b m,tR q #[.int .i64 wo,.int .i64 sl,.int .i64 st,.int .i64 wa,.int .i64 us] 30,tR bv (Va sl fun k=>(SL cv m.M k).ver) 3,tR (bv+1) (Gd G) 4] wr) (fun s11 _ _ _ _ _ _ _ _ _ _ _ _=>((len:Int) - intOf s11).toNat)
 case atStart=>exact ⟨0,_,_,_,_,Nat.zero_le _,rfl,HI0.out,HB0.out⟩
 case round=>
  obtain ⟨i,m,F,h,G,hi,rfl,hI,B⟩:=hrel
  by_cases hlt:i<len
  · obtain ⟨t,ht⟩:∃t,L[i]?=some t:=⟨_,List.getElem?_eq_getElem (by have:=HLN.out;omega)⟩
    obtain ⟨ub,uo,rfl,hta⟩:=HT.out.2 i t ht
    have HOK:=hid (HT.out.1 t (List.mem_of_getElem? ht))
    have HRT:=hid fun w' (f:Fr [] w w')=>Q6z (hta.fr f)
    have hlt2:(i:Int)<(len:Int):=by omega
    have hi0:(0:Int)≤(i:Int):=by omega
    have HI:=hid hI
    clear ht hta hI HI0 HB0
    have HE:Hid (m.evs.length≤100000):=hid (by have:=HI.out.t.mi.ev;have:=Yg m.ws;omega)
    go_upto_region 13 with fail
    go_cut [12] from 53 to 61 (fun v wx=>∃(x:QF) (bx:Nat),v=.pointer (some ⟨bx,0,none⟩)∧Bag [] w [Vy F b m,tR q #[.int .i64 wo,.int .i64 sl,.int .i64 st,.int .i64 wa,.int .i64 us] 30,tR bv (Va sl fun k=>(SL cv m.M k).ver) 3,tR (bv+1) (Gd G) 4,tEn bx x] wx)
    case first=>
     refine rg B fun _ B=> ?_
     iterate 3 refine tb ?_
     refine tl 3 (fun w' v' B=>HRT.out w' B.fr) ?_
     refine tl 4 (fun w' v' B=>Q33 30 (B.g 1)) ?_
     refine tb ?_
     refine wpAnyH_ready (rs:=[6,8]) (by decide+kernel) (by simp) ?_
     refine AllReadyH.cons (o:=_) rfl (fun K hK=> ?_) (AllReadyH.cons (o:=_) rfl (fun K hK=> ?_) AllReadyH.nil)
     all_goals try simp only [List.getElem_toArray,List.getElem_cons_succ,List.getElem_cons_zero]
     · go_simp
       refine ((B.mac HFL.out HDB.out).events HI.out.t.mi).mono ?_
       rintro e w8 ⟨ve,rfl,E,hve,f⟩
       have hlt3:=QX.lt E
       obtain ⟨ea,ecap,rfl⟩:=QX.form E
       replace B:=B.nw (T':=tEv true (.slice ea m.evs.length ecap) m.evs.length (m.evs.flatMap EvV.cells)) E f (fun x hx=>by rw [Option.mem_toList] at hx;exact ⟨hve x hx,hlt3 x hx⟩)
       clear E hve hlt3 f
       go_wp2_with fail
       refine bk hK ?_
       clear hK K
       try go_frame
       refine wpAnyH_ready (rs:=[7,8]) (by decide+kernel) (by simp) ?_
       refine AllReadyH.cons (o:=_) rfl (fun K hK=> ?_) (AllReadyH.cons (o:=_) rfl (fun K hK=> ?_) AllReadyH.nil)
       all_goals try simp only [List.getElem_toArray,List.getElem_cons_succ,List.getElem_cons_zero]
       · go_simp
         refine (Gn _ t.kd t.wh t.op t.sl t.gn t.nn HOK.out.a HOK.out.b HOK.out.c HOK.out.d HOK.out.e HOK.out.f ⟨wo,sl,st,wa,us⟩ (by rw [HCV.out];exact HSM.out) ea ecap m.evs (B.g 4) HE.out).mono ?_
         rintro e w9 ⟨x,rfl,f⟩
         replace B:=B.tm f
         clear f
         go_wp2_with fail
         refine bk hK ?_
         clear hK K
         try go_frame
         refine tc 8 fun K hK=> ?_
         go_simp
         generalize hb:(World.heap _).size=bx,hw:World.alloc _ _=w10
         replace B:=B.al hw hb
         clear hb hw
         refine bk hK ?_
         clear hK K
         try go_frame
         refine tc 9 fun K hK=> ?_
         obtain ⟨w11,hrun,hp,fs⟩:=Vl (P:=Tryz.prog) (B.g 5) [.int .i64 x.kind,.int .i64 x.who,.int .i64 x.ask.op,.int .i64 x.ask.dl,.bool x.ask.wait,.bool x.ask.force,.int .i64 x.ask.slot,.int .i64 x.ask.gen,.int .i64 x.ask.stream,.int .i64 x.n,.bool x.good] 39 rfl rfl (by simp [Value.oneCell'])
         refine Zy _ _ _ rfl _ _ rfl rfl hrun ?_
         replace B:=(B.up 5 (T':=tEn bx x) hp fs).sel [0,1,2,3,5]
         refine bk hK ?_
         refine wpAnyH_done (by decide+kernel) ?_ _
         go_wp2
         go_meet
         exact ⟨x,bx,rfl,B⟩
       · go_simp
         generalize hb:(World.heap _).size=bx,hw:World.alloc _ _=w10
         replace B:=B.al hw hb
         clear hb hw
         refine bk hK ?_
         clear hK K
         try go_frame
         refine tc 7 fun K hK=> ?_
         go_simp
         refine (Gn _ t.kd t.wh t.op t.sl t.gn t.nn HOK.out.a HOK.out.b HOK.out.c HOK.out.d HOK.out.e HOK.out.f ⟨wo,sl,st,wa,us⟩ (by rw [HCV.out];exact HSM.out) ea ecap m.evs (B.g 4) HE.out).mono ?_
         rintro e w9 ⟨x,rfl,f⟩
         replace B:=B.tm f
         clear f
         go_wp2_with fail
         refine bk hK ?_
         clear hK K
         try go_frame
         refine tc 9 fun K hK=> ?_
         obtain ⟨w11,hrun,hp,fs⟩:=Vl (P:=Tryz.prog) (B.g 5) [.int .i64 x.kind,.int .i64 x.who,.int .i64 x.ask.op,.int .i64 x.ask.dl,.bool x.ask.wait,.bool x.ask.force,.int .i64 x.ask.slot,.int .i64 x.ask.gen,.int .i64 x.ask.stream,.int .i64 x.n,.bool x.good] 39 rfl rfl (by simp [Value.oneCell'])
         refine Zy _ _ _ rfl _ _ rfl rfl hrun ?_
         replace B:=(B.up 5 (T':=tEn bx x) hp fs).sel [0,1,2,3,5]
         refine bk hK ?_
         refine wpAnyH_done (by decide+kernel) ?_ _
         go_wp2
         go_meet
         exact ⟨x,bx,rfl,B⟩
     · go_simp
       generalize hb:(World.heap _).size=bx,hw:World.alloc _ _=w10
       replace B:=B.al hw hb
       clear hb hw
       refine bk hK ?_
       clear hK K
       try go_frame
       refine tc 6 fun K hK=> ?_
       go_simp
       refine ((B.mac HFL.out HDB.out).events HI.out.t.mi).mono ?_
       rintro e w8 ⟨ve,rfl,E,hve,f⟩
       have hlt3:=QX.lt E
       obtain ⟨ea,ecap,rfl⟩:=QX.form E
       replace B:=B.nw (T':=tEv true (.slice ea m.evs.length ecap) m.evs.length (m.evs.flatMap EvV.cells)) E f (fun x hx=>by rw [Option.mem_toList] at hx;exact ⟨hve x hx,hlt3 x hx⟩)
       clear E hve hlt3 f
       go_wp2_with fail
       refine bk hK ?_
       clear hK K
       try go_frame
       refine tc 7 fun K hK=> ?_
       go_simp
       refine (Gn _ t.kd t.wh t.op t.sl t.gn t.nn HOK.out.a HOK.out.b HOK.out.c HOK.out.d HOK.out.e HOK.out.f ⟨wo,sl,st,wa,us⟩ (by rw [HCV.out];exact HSM.out) ea ecap m.evs (B.g 5) HE.out).mono ?_
       rintro e w9 ⟨x,rfl,f⟩
       replace B:=B.tm f
       clear f
       go_wp2_with fail
       refine bk hK ?_
       clear hK K
       try go_frame
       refine tc 9 fun K hK=> ?_
       obtain ⟨w11,hrun,hp,fs⟩:=Vl (P:=Tryz.prog) (B.g 4) [.int .i64 x.kind,.int .i64 x.who,.int .i64 x.ask.op,.int .i64 x.ask.dl,.bool x.ask.wait,.bool x.ask.force,.int .i64 x.ask.slot,.int .i64 x.ask.gen,.int .i64 x.ask.stream,.int .i64 x.n,.bool x.good] 39 rfl rfl (by simp [Value.oneCell'])
       refine Zy _ _ _ rfl _ _ rfl rfl hrun ?_
       replace B:=(B.up 4 (T':=tEn bx x) hp fs).sel [0,1,2,3,4]
       refine bk hK ?_
       refine wpAnyH_done (by decide+kernel) ?_ _
       go_wp2
       go_meet
       exact ⟨x,bx,rfl,B⟩
    case rest=>
     obtain ⟨x,bx,rfl,B⟩:=hcut
     clear HRT HOK
     go_wp2_with fail
     refine (B.Q74 HFL.out HDB.out HI.out.t.mi).mono ?_
     rintro e w12 ⟨g1,c1,rfl,B2⟩
     replace B:=B2.nf
     clear B2
     have k:=B.q 4
     obtain ⟨h2,I2,D⟩:=HI.out.next (by omega) x
     have HDO:=hid (B.mdo HFL.out HDB.out HI.out.t.mi (by omega) (by rw [HI.out.e];omega) (by rw [HI.out.e];omega) x)
     generalize doV m x=d at HDO I2 D
     obtain ⟨m2,did⟩:=d
     dsimp only at HDO I2 D
     have HI2:=hid I2;have HD:=hid D
     unfold QF.val pt at HDO
     clear I2 D
     go_wp2_with fail
     refine HDO.out.mono ?_
     rintro e w13 ⟨rfl,F2,B2⟩
     replace B:=B2
     clear B2 k HDO
     go_wp2_with fail
     refine (B.Q74 HFL.out HDB.out HI2.out.t.mi).mono ?_
     rintro e w14 ⟨g2,c2,rfl,B2⟩
     replace B:=B2.nf
     clear B2
     go_upto_region 17 with fail
     go_cut [73] from 68 to 74 (fun v wx=>v=.bool (decide (x.kind=0)&&did)∧wx=w14)
     case first=>
      have k:=B.q 4
      by_cases hk:x.kind=0
      · go_wp2_with fail
        go_meet
        exact ⟨by simp [hk],rfl⟩
      · have hk1:(x.kind==0)=false:=by simp [hk]
        go_wp2_with fail
        go_meet
        exact ⟨by simp [hk],rfl⟩
     case rest=>
     obtain ⟨hv,rfl⟩:=hcut
     obtain ⟨cn,hcn⟩:∃cn,(decide (x.kind=0)&&did)=cn:=⟨_,rfl⟩
     rw [hcn] at hv
     have HCN:=hid hcn
     subst hv
     clear hcn
     go_upto_if 73 with fail
     go_cut [] from 74 to 88 (fun wx=>Bag [] w [Vy F2 b m2,tR q #[.int .i64 wo,.int .i64 sl,.int .i64 st,.int .i64 wa,.int .i64 us] 30,tR bv (Va sl fun k=>(SL cv m.M k).ver) 3,tR (bv+1) (Gd (JO G x did)) 4,tWd g1 m.M,tWd g2 m2.M] wx)
     case first=>
      have k:=B.q 4
      cases cn
      · have hgn:JO G x did=G:=by
         unfold JO
         rw [if_neg]
         have:=HCN.out
         simpa using this
        have HGN:=hid hgn
        clear hgn
        go_wp2_with fail
        go_meet
        rw [HGN.out]
        exact B.sel [0,1,2,3,5,6]
      · obtain ⟨hk,hd⟩:x.kind=0∧did=true:=by have:=HCN.out;simpa using this
        have hgn:JO G x did=G.set x.who.toNat (decide (x.ask.op=1∨x.ask.op=2)):=by unfold JO;rw [if_pos ⟨hk,hd⟩]
        obtain ⟨i0,i1⟩:=HD.out.inr hk hd
        have hG:=HI.out.g.1
        rw [HI.out.c,←HCV.out] at hG i1
        dsimp only at hG i1
        have c:=B.q 3
        replace c:=(c x.who.toNat).trans (Q3z (by omega))
        have u:=B.u 3
        have HGN:=hid hgn
        clear hG hgn hd
        by_cases h1:x.ask.op=1
        · have e1:(x.ask.op==1)=true:=by simp [h1]
          go_wp2_with fail
          go_meet
          rw [HGN.out,show decide (x.ask.op=1∨x.ask.op=2)=true by simp [h1]]
          generalize hw:World.setCell _ _ _=w15
          exact ((B.s 3 rfl Q0J).e hw).sel [0,1,2,3,5,6]
        · have e1:(x.ask.op==1)=false:=by simp [h1]
          go_wp2_with fail
          go_meet
          rw [HGN.out,show decide (x.ask.op=1∨x.ask.op=2)=(x.ask.op==2) by by_cases h:x.ask.op=2<;>simp [h1,h]]
          generalize hw:World.setCell _ _ _=w15
          exact ((B.s 3 rfl Q0J).e hw).sel [0,1,2,3,5,6]
     case rest=>
     replace B:=hcut
     clear hcut HCN
     obtain ⟨N,hN⟩:∃N,m.M.length=N:=⟨_,rfl⟩
     have HN:=hid hN
     have hN2:m2.M.length=N:=by have a:=HI.out.t.mi.mem.len;have b:=HI2.out.t.mi.mem.len;rw [HI.out.c] at a;rw [HI2.out.c] at b;omega
     have HCE:=hid fun wx=>Q2o wx cv HSM.out
     rw [show cv.cells=(N:Int) by have a:=HI.out.t.mi.mem.len;rw [HI.out.c] at a;omega,←HCV.out] at HCE
     unfold Q0.val at HCE
     dsimp only at HCE
     rw [hN,hN2]
     have HN2:=hid hN2
     have k:=B.q 1
     clear hN hN2
     go_wp2_with fail
     refine (HCE.out _).mono ?_
     rintro e w16 ⟨rfl,f⟩
     replace B:=B.tm f
     clear f k HCE
     have k:=B.q 1
     have HLE:=hid (B.Q95 HFL.out HDB.out HI2.out.t.mi (k:=sl) (by rw [HI2.out.c,←HCV.out]) (by omega) HI2.out.t.ev HI2.out.w (by have:=HI2.out.t.mi.wl;rw [HI2.out.c,←HCV.out] at this;dsimp only at this;omega))
     rw [HI2.out.c,←HCV.out] at HLE
     unfold Q0.val pt at HLE
     dsimp only at HLE
     go_wp2_with fail
     refine HLE.out.mono ?_
     rintro e w17 ⟨p,gh,gh2,gh3,rfl,hwl,B2⟩
     replace B:=B2.nf
     rw [HCV.out] at B
     unfold XO at B
     clear B2 k HLE
     have HWL:=hid hwl
     have HB:=hid B
     clear hwl B
     go_wp2_with fail
     go_loopw [17,18,19,20,21,22] (fun s17 s18 s19 _ _ _ wx=>∃(k ho le:Nat),k≤sl∧s17=.int .i64 ho∧s18=.int .i64 le∧s19=.int .i64 k∧(Q7 m2.M 0≠2→ho≤le)∧ho≤k∧le≤k∧Bag [] w [Vy F2 b m2,tR q #[.int .i64 wo,.int .i64 sl,.int .i64 st,.int .i64 wa,.int .i64 us] 30,tR bv (Va sl fun j=>if j<k then (SL cv m2.M j).ver else (SL cv m.M j).ver) 3,tR (bv+1) (Gd (JO G x did)) 4,tWd g1 m.M,tWd g2 m2.M,tR p #[.slice (some ⟨gh,0,none⟩) sl sl,.slice (some ⟨gh2,0,none⟩) sl sl,.slice (some ⟨gh3,0,none⟩) sl sl] 73,tWd gh h2.who] wx) (fun _ _ s19 _ _ _ _=>((sl:Int) - intOf s19).toNat)
     case atStart=>exact ⟨0,0,0,Nat.zero_le _,rfl,rfl,rfl,fun _=>Nat.le_refl _,Nat.le_refl _,Nat.le_refl _,HB.out⟩
     case round=>
      obtain ⟨k,ho,le,hk,rfl,rfl,rfl,hol,hok,hlk,B⟩:=hrel
      have HNN:=hid (And.intro hol (And.intro hok hlk))
      clear HB hol hok hlk
      by_cases hks:k<sl
      · have hks2:(k:Int)<(sl:Int):=by omega
        have hk0:(0:Int)≤(k:Int):=by omega
        have HX:=hid (HI.out.slot HI2.out HD.out (by omega) k (by rw [←HCV.out];exact hks2))
        have HS:=hid fun wx=>Dy wx cv k HSM.out (by omega) (by rw [←HCV.out];exact hks2)
        obtain ⟨s,hs⟩:∃s:Nat,cv.slot k=s:=⟨(cv.slot k).toNat,by rw [←HCV.out];unfold Q0.slot;dsimp only;omega⟩
        have hsN:s<N:=by have a:=HI.out.t.mi.mem.len;have b:=HN.out;rw [HI.out.c] at a;rw [b,←HCV.out] at a;rw [←HCV.out] at hs;unfold Q0.slot at hs;unfold Q0.cells at a;dsimp only at a hs;omega
        rw [hs] at HX HS
        rw [←HCV.out] at HS
        unfold Q0.val at HS
        dsimp only at HS
        obtain ⟨z,hz⟩:∃z,SL cv m2.M k=z:=⟨_,rfl⟩
        obtain ⟨y,hy⟩:∃y,SL cv m.M k=y:=⟨_,rfl⟩
        rw [hz,hy] at HX
        have HZ:=hid hz;have HY:=hid hy
        have HDE:=hid fun wx=>Q0M wx z HX.out.1.1
        unfold Q8.val at HDE
        have HM2:=hid (Q2S HN2.out hsN);have HM1:=hid (Q2S HN.out hsN)
        rw [HX.out.1.2.1] at HM2
        rw [HX.out.1.2.2] at HM1
        have qc:=B.q 1
        clear hs hz hy
        go_wp2_with fail
        refine (HS.out _).mono ?_
        rintro e w18 ⟨rfl,f⟩
        replace B:=B.tm f
        clear f qc HS
        have c2:=(B.g 5).2 s _ HM2.out
        have hs1:(s:Int)<(N:Int):=by omega
        have hs0:(0:Int)≤(s:Int):=by omega
        go_wp2_with fail
        refine (HDE.out _).mono ?_
        rintro e w19 ⟨rfl,f⟩
        replace B:=B.tm f
        clear f c2 HDE
        go_upto_region 31 with fail
        generalize hb:(World.heap _).size=bs,hw:World.alloc _ _=w20
        replace B:=B.al hw hb
        clear hw hb
        go_cut [153] from 122 to 154 (fun v wx=>v=.bool false∧Bag [] w [Vy F2 b m2,tR q #[.int .i64 wo,.int .i64 sl,.int .i64 st,.int .i64 wa,.int .i64 us] 30,tR bv (Va sl fun j=>if j<k then (SL cv m2.M j).ver else (SL cv m.M j).ver) 3,tR (bv+1) (Gd (JO G x did)) 4,tWd g1 m.M,tWd g2 m2.M,tR p #[.slice (some ⟨gh,0,none⟩) sl sl,.slice (some ⟨gh2,0,none⟩) sl sl,.slice (some ⟨gh3,0,none⟩) sl sl] 73,tWd gh h2.who,tR bs #[.int .i64 z.st,.int .i64 z.own,.int .i64 z.str,.bool z.br,.bool z.mkd,.int .i64 z.us,.int .i64 z.gen,.int .i64 z.ep,.int .i64 z.ver] 54] wx)
        case first=>
         have qs:=B.q 8
         have c1:=(B.g 4).2 s _ HM1.out
         have c2:=(B.g 5).2 s _ HM2.out
         have c3:=B.q 2
         replace c3:=(c3 k).trans (Q3y hks)
         rw [if_neg (Nat.lt_irrefl k),HY.out] at c3
         obtain ⟨-,hv,⟨v0,v1⟩, -⟩:=HX.out
         have hnl:¬z.ver<y.ver:=by rcases hv with h|h<;>omega
         have hs1:(s:Int)<(N:Int):=by omega
         have hs0:(0:Int)≤(s:Int):=by omega
         by_cases hne:z.enc=y.enc
         · clear hv
           have hne1:(z.enc != y.enc)=false:=by simp [hne]
           clear hne
           go_region
           all_goals go_wp2
           all_goals go_meet
           all_goals exact ⟨rfl,B.drew⟩
         · have hvv:z.ver=y.ver+1:=hv.resolve_left fun h=>hne h.1
           have hne1:(z.enc != y.enc)=true:=by simp [hne]
           have hwr:IntKind.i64.wrap (y.ver+1)=z.ver:=by rw [IntKind.wrap_i64];omega
           clear hv hne hvv
           go_region
           all_goals go_wp2
           all_goals go_meet
           all_goals exact ⟨rfl,B.drew⟩
        case rest=>
        obtain ⟨rfl,B2⟩:=hcut
        replace B:=B2
        clear B2
        have qs:=B.q 8
        have c3:=B.q 2
        replace c3:=(c3 k).trans (Q3y hks)
        have u:=B.u 2
        go_upto_region 34 with fail
        generalize hw:World.setCell _ _ _=w21
        replace B:=(B.s 2 rfl (Q6E (g:=fun j=>if j<k+1 then (SL cv m2.M j).ver else (SL cv m.M j).ver) (by rw [if_pos (Nat.lt_succ_self k),HZ.out]) (fun j hj=>by split<;>split<;>first|rfl|omega))).e hw
        clear hw qs c3 u
        obtain ⟨t3,ht3⟩:∃t,(z.st==3)=t:=⟨_,rfl⟩
        have qs:=B.q 8
        have HT3:=hid ht3
        have hle:le≤5:=by have:=HNN.out.2.2;omega
        have hho:ho≤5:=by have:=HNN.out.2.1;omega
        go_upto_if 161 with fail
        clear ht3 qs
        go_cut [18] from 162 to 164 (fun v wx=>v=.int .i64 ((le+(if t3=true then 1 else 0):Nat):Int)∧wx=w21)
        case first=>
         cases t3
         · go_wp2_with fail
           go_meet
           exact ⟨rfl,rfl⟩
         · go_wp2_with fail
           go_meet
           exact ⟨rfl,rfl⟩
        case rest=>
        obtain ⟨rfl,rfl⟩:=hcut
        obtain ⟨le2,hle2⟩:∃le2,le+(if t3=true then 1 else 0)=le2:=⟨_,rfl⟩
        rw [hle2]
        have HL2:=hid hle2
        clear hle2
        obtain ⟨hw,hhw⟩:∃hw:Nat,h2.who.getD k 0=hw:=⟨(h2.who.getD k 0).toNat,by have:=HX.out.2.2.2.1;omega⟩
        have c6:=(B.g 7).2 k (h2.who.getD k 0) (by rw [List.getD_eq_getElem?_getD,List.getElem?_eq_getElem (by rw [HWL.out];exact hks)];rfl)
        rw [hhw] at c6
        have HH:=hid HX.out.2.2.2
        rw [hhw] at HH
        clear hhw
        have qp:=B.q 6
        go_upto_region 36 with fail
        go_cut [198] from 164 to 199 (fun v wx=>∃cn:Bool,v=.bool cn∧(cn=true→0<hw∧((JO G x did).getD (hw - 1) false=false∨(m2.wk (hw - 1)).st=0))∧Bag [] w [Vy F2 b m2,tR q #[.int .i64 wo,.int .i64 sl,.int .i64 st,.int .i64 wa,.int .i64 us] 30,tR bv (Va sl fun j=>if j<k+1 then (SL cv m2.M j).ver else (SL cv m.M j).ver) 3,tR (bv+1) (Gd (JO G x did)) 4,tWd g1 m.M,tWd g2 m2.M,tR p #[.slice (some ⟨gh,0,none⟩) sl sl,.slice (some ⟨gh2,0,none⟩) sl sl,.slice (some ⟨gh3,0,none⟩) sl sl] 73,tWd gh h2.who,tR bs #[.int .i64 z.st,.int .i64 z.own,.int .i64 z.str,.bool z.br,.bool z.mkd,.int .i64 z.us,.int .i64 z.gen,.int .i64 z.ep,.int .i64 z.ver] 54] wx)
        case first=>
         cases hw with
         |zero=>
          go_wp2_with fail
          go_meet
          exact ⟨false,rfl,by simp,B⟩
         |succ u=>
          have hwo:u<wo:=by have:=HH.out.1.2;rw [←HCV.out] at this;dsimp only at this;omega
          have c7:=B.q 3
          replace c7:=(c7 u).trans (Q3z (by have:=HI2.out.g.1;rw [HI2.out.c,←HCV.out] at this;dsimp only at this;omega))
          have HST:=hid (B.mstate HFL.out HDB.out (who:=u) (by have:=HI2.out.t.mi.wl;rw [HI2.out.c,←HCV.out] at this;dsimp only at this;omega))
          unfold pt at HST
          rw [show ((u+1:Nat):Int)=(u:Int)+1 by omega] at c6
          have hp1:(0:Int)<(u:Int)+1:=by omega
          have hp2:(u:Int)<(wo:Int):=by omega
          have hp3:(0:Int)≤(u:Int):=by omega
          cases hgv:(JO G x did).getD u false
          · rw [hgv] at c7
            have HGV:=hid hgv
            clear hgv
            go_wp2_with fail
            go_meet
            exact ⟨true,rfl,fun _=>⟨by omega,.inl HGV.out⟩,B⟩
          · rw [hgv] at c7
            clear hgv
            go_wp2_with fail
            refine HST.out.mono ?_
            rintro e w22 ⟨rfl,B2⟩
            replace B:=B2
            clear B2 c6 c7 qp HST
            go_wp2_with fail
            go_meet
            exact ⟨_,rfl,fun h=>⟨by omega,.inr (by simpa using h)⟩,B⟩
        case rest=>
        obtain ⟨cn,rfl,hcn,B2⟩:=hcut
        replace B:=B2.tk 8
        have HCN:=hid hcn
        clear B2 hcn c6 qp
        cases cn
        · have HF:=hid (show (Q7 m2.M 0≠2→ho≤le2)∧ho≤k+1∧le2≤k+1 by
           have h1:=HNN.out;have h2:=HL2.out
           refine ⟨fun hc=> ?_,by omega, ?_⟩
           · have:=h1.1 hc;split at h2<;>omega
           · split at h2<;>omega)
          go_wp2
          exact ⟨⟨k+1,ho,le2,by omega,rfl,rfl,rfl,HF.out.1,HF.out.2.1,HF.out.2.2,B⟩,by simp [intOf]<;>omega⟩
        · have HF:=hid (show (Q7 m2.M 0≠2→ho+1≤le2)∧ho+1≤k+1∧le2≤k+1 by
           have h1:=HNN.out;have h2:=HL2.out
           refine ⟨fun hc=> ?_,by omega, ?_⟩
           · have:=h1.1 hc
             obtain ⟨p1,p2⟩:=HCN.out rfl
             have h3:=HH.out.2 hc (by omega) (by rw [show ((hw:Int) - 1).toNat=hw - 1 by omega];exact p2)
             rw [←HT3.out,if_pos (by simp [h3])] at h2
             omega
           · split at h2<;>omega)
          go_wp2
          exact ⟨⟨k+1,ho+1,le2,by omega,rfl,rfl,rfl,HF.out.1,HF.out.2.1,HF.out.2.2,B⟩,by simp [intOf]<;>omega⟩
      · obtain rfl:k=sl:=by omega
        have e:=Q6F (n:=k) (f:=fun j=>if j<k then (SL cv m2.M j).ver else (SL cv m.M j).ver) (g:=fun j=>(SL cv m2.M j).ver) (fun j hj=>by rw [if_pos hj])
        rw [e] at B
        have qc:=B.q 1
        have c0:=(B.g 5).2 0 _ (Q2S HN2.out (by have a:=HI.out.t.mi.mem.len;have b:=HN.out;rw [HI.out.c] at a;rw [b,←HCV.out] at a;unfold Q0.cells at a;dsimp only at a;omega))
        have hN0:(0:Int)<(N:Int):=by have a:=HI.out.t.mi.mem.len;have b:=HN.out;rw [HI.out.c] at a;rw [b,←HCV.out] at a;unfold Q0.cells at a;dsimp only at a;omega
        obtain ⟨z0,hz0⟩:∃z0,Q7 m2.M ((0:Nat):Int)=z0:=⟨_,rfl⟩
        have hol:=HNN.out.1
        rw [hz0] at c0
        change Q7 m2.M 0=z0 at hz0
        rw [hz0] at hol
        clear e hz0
        have HB2:=hid (B.sel [0,1,2,3])
        by_cases h2z:z0=2
        · subst h2z
          clear hol
          go_wp2
          exact ⟨⟨i+1,m2,F2,h2,_,by omega,rfl,HI2.out,HB2.out⟩,by simp [intOf]<;>omega⟩
        · have h2n:(z0 != 2)=true:=by simp [h2z]
          have hle:¬(le:Int)<(ho:Int):=by have:=hol h2z;omega
          clear hol
          go_wp2
          exact ⟨⟨i+1,m2,F2,h2,_,by omega,rfl,HI2.out,HB2.out⟩,by simp [intOf]<;>omega⟩
  · obtain rfl:i=len:=by omega
    go_wp2
    go_ret
    exact ⟨rfl,B.fr⟩
end
end Go.Proofs.YtgjklfmnmljilaaGreatDoor

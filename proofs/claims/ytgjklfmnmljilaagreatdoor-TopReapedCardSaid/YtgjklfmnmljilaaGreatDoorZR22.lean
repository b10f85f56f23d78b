/- A part of the proof. -/
import Derived.Test.YtgjklfmnmljilaaGreatDoorZR21
import Derived.Maps.Own
namespace Go.Proofs.YtgjklfmnmljilaaGreatDoor
set_option linter.unusedVariables false
set_option linter.unusedSimpArgs false
set_option linter.unusedSectionVars false
set_option linter.unnecessarySimpa false
set_option maxRecDepth 100000
set_option maxHeartbeats 8000000
section
open Go.RowKit Go.Shelf Go.Lib
attribute [local go_sem] Oper.semAt_some
theorem beqd (a b:Int):(a==b)=decide (a=b):=by rw [Bool.eq_iff_iff];simp
theorem Q75 {P:Prop} (h:P:=by
 obtain ⟨st,so,str,br,mkd,us,gen,ep,ver⟩:=s
 unfold Q7.val isV
 dsimp only
 have FF:=fun o=>(Fr.refl [] w).alloc o
 go_in
 go_wp2
 all_goals go_ret
 all_goals exact ⟨by simp [beqd],FF _⟩):P:=h
theorem Gb (w:World) (s:Q7):Calls Tryz.prog 168 #[s.val] w fun e w'=>e=.returned (.bool (isV s 2))∧Fr [] w w':=Q75
theorem Us (w:World) (s:Q7):Calls Tryz.prog 170 #[s.val] w fun e w'=>e=.returned (.bool (isV s 0))∧Fr [] w w':=Q75
theorem Q78 (w:World) (s:Q7):Calls Tryz.prog 174 #[s.val] w fun e w'=>e=.returned (.bool (isV s 6))∧Fr [] w w':=Q75
def Vs:Value:=.func (.func 168) #[] #[]
def YJ (b3:Nat):Value:=.func (.func 169) #[] #[.pointer (some ⟨b3,0,none⟩)]
def VR:Value:=.func (.func 170) #[] #[]
theorem Ky (w:World) (s:Q7) (b3:Nat) (h3:w.cell? ⟨b3,0,none⟩=some Vs):Calls Tryz.prog 169 #[s.val,.pointer (some ⟨b3,0,none⟩)] w fun e w'=>e=.returned (.bool (Jp s))∧Fr [] w w':=by
 have HI:=hid fun w'=>Gb w' s
 unfold isV at HI
 unfold Jp
 unfold Vs at h3
 generalize decide (s.st=2)=bb at HI ⊢
 obtain ⟨st,so,str,br,mkd,us,gen,ep,ver⟩:=s
 unfold Q7.val at*
 dsimp only at*
 have ya:=fun o=>(Fr.refl [] w).alloc o
 have y3:=fun o=>(ya o).cell h3 Lc
 go_in
 go_wp2_with fail
 clear ya y3
 generalize hb:(World.heap w).size=b,hw:World.alloc w _=w1
 have B:=(Bag.nil [] w).al hw hb
 refine (HI.out _).mono ?_
 rintro e w2 ⟨rfl,f⟩
 replace B:=B.tm f
 have r:=B.q 0
 cases bb<;>cases br
 all_goals
  go_wp2
  go_ret
  exact ⟨Lc,B.fr⟩
theorem Q77 (w:World) (s:Q7) (own:Int) (b1 b3 b4:Nat) (h1:w.cell? ⟨b1,0,none⟩=some (.int .i64 own)) (h3:w.cell? ⟨b3,0,none⟩=some Vs) (h4:w.cell? ⟨b4,0,none⟩=some (YJ b3)):
 Calls Tryz.prog 171 #[s.val,.pointer (some ⟨b4,0,none⟩),.pointer (some ⟨b1,0,none⟩)] w fun e w'=>e=.returned (.bool (Jp s&&decide (s.own=own)))∧Fr [] w w':=by
 have HI:=hid fun w' h=>Ky w' s b3 h
 generalize Jp s=bb at HI ⊢
 unfold YJ at h4
 obtain ⟨st,so,str,br,mkd,us,gen,ep,ver⟩:=s
 unfold Q7.val at*
 dsimp only at*
 have ya:=fun o=>(Fr.refl [] w).alloc o
 have y4:=fun o=>(ya o).cell h4 Lc;have y1:=fun o=>(ya o).cell h1 Lc
 go_in
 go_wp2_with fail
 clear ya y4 y1
 generalize hb:(World.heap w).size=b,hw:World.alloc w _=w1
 have B:=(Bag.nil [] w).al hw hb
 refine (HI.out _ (B.fr.cell h3 Lc)).mono ?_
 rintro e w2 ⟨rfl,f⟩
 replace B:=B.tm f
 have r:=B.q 0;have z:=B.fr.cell h1 Lc
 cases bb
 all_goals
  go_wp2
  all_goals go_ret
  all_goals exact ⟨by first|(simp [*];done)|simp [*,beqd],B.fr⟩
theorem Q5b (w:World) (s:Q7) (b3 b4 b5:Nat) (h3:w.cell? ⟨b3,0,none⟩=some Vs) (h4:w.cell? ⟨b4,0,none⟩=some (YJ b3)) (h5:w.cell? ⟨b5,0,none⟩=some VR):
 Calls Tryz.prog 172 #[s.val,.pointer (some ⟨b4,0,none⟩),.pointer (some ⟨b5,0,none⟩)] w fun e w'=>e=.returned (.bool (Jp s||isV s 0))∧Fr [] w w':=by
 have HI:=hid fun w' h=>Ky w' s b3 h
 have HE:=hid fun w'=>Us w' s
 generalize Jp s=bb at HI ⊢
 generalize isV s 0=b0 at HE ⊢
 unfold YJ at h4
 unfold VR at h5
 obtain ⟨st,so,str,br,mkd,us,gen,ep,ver⟩:=s
 unfold Q7.val at*
 dsimp only at*
 have ya:=fun o=>(Fr.refl [] w).alloc o
 have y4:=fun o=>(ya o).cell h4 Lc;have y5:=fun o=>(ya o).cell h5 Lc
 go_in
 go_wp2_with fail
 clear ya y4 y5
 generalize hb:(World.heap w).size=b,hw:World.alloc w _=w1
 have B:=(Bag.nil [] w).al hw hb
 refine (HI.out _ (B.fr.cell h3 Lc)).mono ?_
 rintro e w2 ⟨rfl,f⟩
 replace B:=B.tm f
 have r:=B.q 0;have z:=B.fr.cell h5 Lc
 cases bb
 · go_wp2_with fail
   refine (HE.out _).mono ?_
   rintro e w3 ⟨rfl,f⟩
   go_wp2
   go_ret
   exact ⟨Lc,(B.tm f).fr⟩
 · go_wp2
   go_ret
   exact ⟨Lc,B.fr⟩
theorem Q2U (w:World) (s:Q7) (own:Int) (b1 b3:Nat) (h1:w.cell? ⟨b1,0,none⟩=some (.int .i64 own)) (h3:w.cell? ⟨b3,0,none⟩=some Vs):
 Calls Tryz.prog 173 #[s.val,.pointer (some ⟨b3,0,none⟩),.pointer (some ⟨b1,0,none⟩)] w fun e w'=>e=.returned (.bool (if isV s 2 then s.br||decide (own=1)||decide (own=2) else isV s 3&&decide (own=2)))∧Fr [] w w':=by
 have HI:=hid fun w'=>Gb w' s
 rw [show isV s 3=decide (s.st=3) from rfl]
 generalize isV s 2=bb at HI ⊢
 unfold Vs at h3
 obtain ⟨st,so,str,br,mkd,us,gen,ep,ver⟩:=s
 unfold Q7.val at*
 dsimp only at*
 have ya:=fun o=>(Fr.refl [] w).alloc o
 have y3:=fun o=>(ya o).cell h3 Lc
 go_in
 go_wp2_with fail
 clear ya y3
 generalize hb:(World.heap w).size=b,hw:World.alloc w _=w1
 have B:=(Bag.nil [] w).al hw hb
 refine (HI.out _).mono ?_
 rintro e w2 ⟨rfl,f⟩
 replace B:=B.tm f
 have r:=B.q 0;have z:=B.fr.cell h1 Lc
 cases bb<;>cases br
 all_goals
  go_wp2
  all_goals go_ret
  all_goals exact ⟨by first|(simp [*];done)|simp [*,beqd],B.fr⟩
theorem U8 {P:Program} {t kt vt:TypeId} (ht:P.underlying t=some (.map kt vt)) (hkt:P.underlying kt=some (.int .i64)) (w:World) (b:Nat) (es:Array MapEntry) (clock:Nat) (key:Int) (v:Value)
 (hw:(Lit.int .i64 key).wf=true) (hb:w.heap[b]?=some (.map es clock)) (hnew:Instr.findNow (.int .i64) (.int .i64 key) es.toList 0=some none):
 (Instr.mapUpdate t (.map (some b)) (.int .i64 key) v).run P w=.ok () (ChangeMaps.setBlock w b (.map (es.push {key:=.int .i64 key,val:=v,born:=clock}) (clock+1))):=by
 have hc:(Instr.checkKey false 10000 kt (.int .i64 key)).run P w=.ok () w:=(Maps.int_keyed hkt).check w false (Maps.keyOf_int_mk hkt hw)
 have hf:(Instr.findKey kt (.int .i64 key) es.toList).run P w=.ok none w:=by
  simp [Instr.findKey,run_underlying hkt,hnew]
 simp [Instr.mapUpdate,run_underlying ht,MapKept.run_getObj_map hb,hc,hf,MapKept.run_setObj_map _ hb,Result.andThen,ChangeMaps.setBlock]
theorem Ki {P:Program} {ops:Array Oper} {rest:List Oper} {o:Oper} {a:Act} {Q:Exit→Act→World→Prop} {w:World} (hgd:o.guard=none) (m k x:Operand) (t:TypeId)
 (ho:o.op=.insert t m k x) (kt vt:TypeId) (ht:P.underlying t=some (.map kt vt)) (hkt:P.underlying kt=some (.int .i64)) (b:Nat) (hm:a.eval m=.map (some b)) (key:Int) (hk:a.eval k=.int .i64 key) (v:Value) (hv:a.eval x=v)
 (hw:(Lit.int .i64 key).wf=true) (es:Array MapEntry) (clock:Nat) (hb:w.heap[b]?=some (.map es clock)) (hnew:Instr.findNow (.int .i64) (.int .i64 key) es.toList 0=some none)
 (h:∀w',w'.heap[b]?=some (.map (es.push {key:=.int .i64 key,val:=v,born:=clock}) (clock+1))→Fr [b] w w'→wpList P ops Q rest (a.put o.dst undef) w'):wpList P ops Q (o::rest) a w:=by
 refine wpList_plain hgd fun K' hK'=> ?_
 unfold Oper.wp
 simp [execOp,ho,hm,hk,hv,U8 ht hkt w b es clock key v hw hb hnew,Result.andThen]
 refine hK' _ _ (h _ (ChangeMaps.heap_setBlock_same hb _) ⟨rfl,rfl,rfl,by simp [ChangeMaps.setBlock],fun i _ hi=>ChangeMaps.heap_setBlock_other hb _ (fun e=>hi (by simp [e]))⟩)
theorem U7 {P:Program} {t kt vt:TypeId} (ht:P.underlying t=some (.map kt vt)) (hkt:P.underlying kt=some (.int .i64)) (w:World) (b:Nat) (es:Array MapEntry) (clock:Nat) (key:Int)
 (hw:(Lit.int .i64 key).wf=true) (hb:w.heap[b]?=some (.map es clock)) (i:Nat) (v:Value) (hf:Instr.findNow (.int .i64) (.int .i64 key) es.toList 0=some (some (i,v))) (hne:es.isEmpty=false):
 (Instr.lookup t (.map (some b)) (.int .i64 key) true).run P w=.ok (.tuple #[v,.bool true]) w:=by
 have hc:(Instr.checkKey es.isEmpty 10000 kt (.int .i64 key)).run P w=.ok () w:=(Maps.int_keyed hkt).check w _ (Maps.keyOf_int_mk hkt hw)
 have hf:(Instr.findKey kt (.int .i64 key) es.toList).run P w=.ok (some (i,v)) w:=by
  simp [Instr.findKey,run_underlying hkt,hf]
 simp [Instr.lookup,run_underlying ht,MapKept.run_getObj_map hb,hc,hf,Result.andThen]
def Q7w (b1 b3 b4 b5:Nat):Array MapEntry:=#[⟨.int .i64 0,.func (.func 171) #[] #[.pointer (some ⟨b4,0,none⟩),.pointer (some ⟨b1,0,none⟩)],0⟩,⟨.int .i64 1,YJ b3,1⟩,⟨.int .i64 2,VR,2⟩,
 ⟨.int .i64 3,.func (.func 172) #[] #[.pointer (some ⟨b4,0,none⟩),.pointer (some ⟨b5,0,none⟩)],3⟩,⟨.int .i64 4,.func (.func 173) #[] #[.pointer (some ⟨b3,0,none⟩),.pointer (some ⟨b1,0,none⟩)],4⟩,
 ⟨.int .i64 5,.func (.func 174) #[] #[],5⟩,⟨.int .i64 6,Vs,6⟩]
def Q7O (w:World) (own:Int) (e:Ending) (w':World):Prop:=∃b1 b3 b4 b5 bm,e=.returned (.map (some bm))∧w'.heap[bm]?=some (.map (Q7w b1 b3 b4 b5) 7)∧
 w'.cell? ⟨b1,0,none⟩=some (.int .i64 own)∧w'.cell? ⟨b3,0,none⟩=some Vs∧w'.cell? ⟨b4,0,none⟩=some (YJ b3)∧w'.cell? ⟨b5,0,none⟩=some VR∧Fr [] w w'
abbrev tMap (b:Nat) (es:Array MapEntry) (k:Nat):Th:=⟨true,[b],fun w=>w.heap[b]?=some (.map es k),fun f h x=>f.at x (h b Lc)⟩
theorem Q7v (w:World) (own:Int):Calls Tryz.prog 112 #[.int .i64 own] w (Q7O w own):=by
 have hmm:=@run_makeMap Tryz.prog
 have hm0:(((((w.alloc (.cells #[.int .i64 own] 3)).alloc (.cells #[Vs] 97)).alloc (.cells #[YJ (w.heap.size+1)] 97)).alloc (.cells #[VR] 97)).alloc (.map #[] 0)).heap[w.heap.size+1+1+1+1]?=some (.map #[] 0):=Ya Lc
 unfold Vs YJ VR at hm0
 have HM0:=hid hm0
 clear hm0
 go_in
 go_wp2_with (refine Ki rfl _ _ _ 168 rfl _ _ Tryz.underlying168 Tryz.underlying3 _ rfl _ rfl _ rfl (by decide) _ _ HM0.out rfl ?_)
 intro w9 hm f9
 clear HM0
 revert hm f9
 generalize hw:World.alloc w _=w1,hb:(World.heap w).size=b
 generalize hw2:World.alloc w1 _=w2
 generalize hw3:World.alloc w2 _=w3
 generalize hw4:World.alloc w3 _=w4
 intro hm f9
 have e2:w2.heap.size=b+1+1:=by rw [←hw2,World.size_alloc,←hw,World.size_alloc,hb]
 have e4:w4.heap.size=b+1+1+1+1:=by rw [←hw4,World.size_alloc,←hw3,World.size_alloc,e2]
 have B:=((Bag.nil [] w).al2 hw hb hw2).al2 hw3 e2 hw4
 replace B:=B.nw (T':=tMap (b+1+1+1+1) _ _) hm (((Fr.refl [] w4).alloc (.map #[] 0)).then f9 (fun x hx=>by simp at hx;exact .inr Lb)) (fun x hx=>by simp at hx;subst hx;exact ⟨Lb,by have:=f9.size;rw [World.size_alloc] at this;omega⟩)
 clear hw hb hw2 hw3 hw4 e2 e4 hm f9
 iterate 6
  (have q3:=B.q 1;have q4:=B.q 2;have q5:=B.q 3
   go_wp2_with (refine Ki rfl _ _ _ 168 rfl _ _ Tryz.underlying168 Tryz.underlying3 _ rfl _ rfl _ rfl (by decide) _ _ (B.g 4) rfl ?_)
   clear q3 q4 q5
   intro w' hm f
   replace B:=B.up 4 (T':=tMap (b+1+1+1+1) _ _) hm f
   clear hm f)
 go_wp2
 go_ret
 exact ⟨b,b+1,b+1+1,b+1+1+1,_,rfl,B.g 4,B.q 0 rfl 0,B.q 1 rfl 0,B.q 2 rfl 0,B.q 3 rfl 0,B.fr⟩
def KG (w:World) (own:Int) (b1 b3 b4 b5:Nat):Prop:=w.cell? ⟨b1,0,none⟩=some (.int .i64 own)∧w.cell? ⟨b3,0,none⟩=some Vs∧w.cell? ⟨b4,0,none⟩=some (YJ b3)∧w.cell? ⟨b5,0,none⟩=some VR
abbrev FQ (r:Bool) (w:World) (e:Ending) (w':World):Prop:=e=.returned (.bool r)∧Fr [] w w'
theorem ZI {w:World} {b1 b3 b4 b5 bm:Nat} (key:Int) (hw:(Lit.int .i64 key).wf=true) (hm:w.heap[bm]?=some (.map (Q7w b1 b3 b4 b5) 7)) {i:Nat} {v:Value} (hf:Instr.findNow (.int .i64) (.int .i64 key) (Q7w b1 b3 b4 b5).toList 0=some (some (i,v))):
 (Instr.lookup 168 (.map (some bm)) (.int .i64 key) true).run Tryz.prog w=.ok (.tuple #[v,.bool true]) w:=
 U7 Tryz.underlying168 Tryz.underlying3 w bm _ 7 key hw hm i v hf rfl
theorem Kz {P:Prop} (h:P:=by
 generalize Jq s _ own=res at HC ⊢
 obtain ⟨st,so,str,br,mkd,us,gen,ep,ver⟩:=s
 unfold Q7.val at HC ⊢
 dsimp only at HC ⊢
 go_in
 go_wp2_with fail
 generalize hb:(World.heap w).size=b,hw:World.alloc w _=w1
 have B:=(Bag.nil [] w).al hw hb
 refine (Q7v _ own).mono ?_
 rintro e w2 ⟨b1,b3,b4,b5,bm,rfl,hm,g1,g3,g4,g5,f2⟩
 replace B:=B.tm f2
 have hlk:=HL.out b1 b3 b4 b5 w2 bm hm
 have HCC:=hid (HC.out b1 b3 b4 b5 w2 ⟨g1,g3,g4,g5⟩)
 try simp only [YJ,VR,Vs] at hlk
 clear hm g1 g3 g4 g5 f2 HC HL hw hb
 have r:=B.q 0
 go_wp2_with fail
 refine HCC.out.mono ?_
 rintro e w3 ⟨rfl,f3⟩
 go_wp2
 go_ret
 exact ⟨Lc,(B.tm f3).fr⟩):P:=h
theorem Q1k (w:World) (s:Q7) (kind own:Int) (h0:0≤kind) (h1:kind≤6):Calls Tryz.prog 78 #[s.val,.int .i64 kind,.int .i64 own] w fun e w'=>e=.returned (.bool (Jq s kind own))∧Fr [] w w':=by
 have hk:kind=0∨kind=1∨kind=2∨kind=3∨kind=4∨kind=5∨kind=6:=Lb
 clear h0 h1
 rcases hk with rfl|rfl|rfl|rfl|rfl|rfl|rfl
 · have HC:=hid fun b1 b3 b4 b5 w' (g:KG w' own b1 b3 b4 b5)=>(Q77 w' s own b1 b3 b4 g.1 g.2.1 g.2.2.1).mono (R':=FQ (Jq s 0 own) w') fun _ _ h=>h
   have HL:=hid fun b1 b3 b4 b5 w' bm hm=>ZI (b1:=b1) (b3:=b3) (b4:=b4) (b5:=b5) (w:=w') (bm:=bm) 0 (by decide) hm rfl
   exact Kz
 · have HC:=hid fun b1 b3 b4 b5 w' (g:KG w' own b1 b3 b4 b5)=>(Ky w' s b3 g.2.1).mono (R':=FQ (Jq s 1 own) w') fun _ _ h=>h
   have HL:=hid fun b1 b3 b4 b5 w' bm hm=>ZI (b1:=b1) (b3:=b3) (b4:=b4) (b5:=b5) (w:=w') (bm:=bm) 1 (by decide) hm rfl
   exact Kz
 · have HC:=hid fun b1 b3 b4 b5 w' (g:KG w' own b1 b3 b4 b5)=>(Us w' s).mono (R':=FQ (Jq s 2 own) w') fun _ _ h=>h
   have HL:=hid fun b1 b3 b4 b5 w' bm hm=>ZI (b1:=b1) (b3:=b3) (b4:=b4) (b5:=b5) (w:=w') (bm:=bm) 2 (by decide) hm rfl
   exact Kz
 · have HC:=hid fun b1 b3 b4 b5 w' (g:KG w' own b1 b3 b4 b5)=>(Q5b w' s b3 b4 b5 g.2.1 g.2.2.1 g.2.2.2).mono (R':=FQ (Jq s 3 own) w') fun _ _ h=>h
   have HL:=hid fun b1 b3 b4 b5 w' bm hm=>ZI (b1:=b1) (b3:=b3) (b4:=b4) (b5:=b5) (w:=w') (bm:=bm) 3 (by decide) hm rfl
   exact Kz
 · have HC:=hid fun b1 b3 b4 b5 w' (g:KG w' own b1 b3 b4 b5)=>(Q2U w' s own b1 b3 g.1 g.2.1).mono (R':=FQ (Jq s 4 own) w') fun _ _ h=>h
   have HL:=hid fun b1 b3 b4 b5 w' bm hm=>ZI (b1:=b1) (b3:=b3) (b4:=b4) (b5:=b5) (w:=w') (bm:=bm) 4 (by decide) hm rfl
   exact Kz
 · have HC:=hid fun b1 b3 b4 b5 w' (g:KG w' own b1 b3 b4 b5)=>(Q78 w' s).mono (R':=FQ (Jq s 5 own) w') fun _ _ h=>h
   have HL:=hid fun b1 b3 b4 b5 w' bm hm=>ZI (b1:=b1) (b3:=b3) (b4:=b4) (b5:=b5) (w:=w') (bm:=bm) 5 (by decide) hm rfl
   exact Kz
 · have HC:=hid fun b1 b3 b4 b5 w' (g:KG w' own b1 b3 b4 b5)=>(Gb w' s).mono (R':=FQ (Jq s 6 own) w') fun _ _ h=>h
   have HL:=hid fun b1 b3 b4 b5 w' bm hm=>ZI (b1:=b1) (b3:=b3) (b4:=b4) (b5:=b5) (w:=w') (bm:=bm) 6 (by decide) hm rfl
   exact Kz
def QY (w:World) (p:Nat) (c:Q0) (f:Qi):Prop:=
 w.heap[p]?=some (.cells #[.int .i64 c.wo,.int .i64 c.sl,.int .i64 c.st,.int .i64 c.wa,.int .i64 c.us,.int .i64 f.kind,.int .i64 f.own,.int .i64 f.at_,.int .i64 f.word,.bool f.found] 224 (0,0))
theorem QY.fr {w w':World} {p:Nat} {c:Q0} {f:Qi} (h:QY w p c f) {S:List Nat} (g:Fr S w w') (hp:p∉S):QY w' p c f:=g.at h hp
def X5 (c:Q0) (M:List Int):Prop:=∀i:Int,0≤i→i<c.sl→∃s:Q7,s.right∧Q6 M (c.slot i)=s.enc
structure Qi.ok (c:Q0) (f:Qi):Prop where
 k0:0≤f.kind
 k1:f.kind≤6
 a0:0≤f.at_
 a1:f.at_≤16
def Q3H (w:World) (p pm qm:Nat) (c:Q0) (n:Int) (x:Qi×Bool) (M:List Int) (e:Ending) (w':World):Prop:=
 e=.returned (.bool x.2)∧QY w' p c x.1∧Qm w' pm qm M (n+1)∧Fr [p,pm,qm] w w'
def Q08 (w:World) (c:Q0) (f:Qi) (e:Ending) (w':World):Prop:=∃p,e=.returned (.pointer (some ⟨p,0,none⟩))∧w.heap.size≤p∧QY w' p c f∧Fr [] w w'
theorem Uq (w:World) (c:Q0) (kind own:Int):Calls Tryz.prog 154 #[c.val,.int .i64 kind,.int .i64 own,.int .i64 0] w (Q08 w c (QE kind own 0)):=by
 obtain ⟨wo,sl,st,wa,us⟩:=c
 unfold Q0.val
 dsimp only
 have hb:=heap_alloc_new (w.alloc (.cells #[.int .i64 wo,.int .i64 sl,.int .i64 st,.int .i64 wa,.int .i64 us] 30)) (.cells #[.int .i64 wo,.int .i64 sl,.int .i64 st,.int .i64 wa,.int .i64 us,.int .i64 kind,.int .i64 own,.int .i64 0,.int .i64 0,.bool false] 224)
 rw [World.size_alloc] at hb
 have HX:=hid (show Q08 w ⟨wo,sl,st,wa,us⟩ (QE kind own 0) (.returned (.pointer (some ⟨w.heap.size+1,0,none⟩))) _ from ⟨_,rfl,Lb,hb,((Fr.refl [] w).alloc _).alloc _⟩)
 clear hb
 go_in
 go_wp2
 go_ret
 exact HX.out
theorem Ut (w:World) (p:Nat) (c:Q0) (f:Qi) (h:QY w p c f):Calls Tryz.prog 213 #[.pointer (some ⟨p,0,none⟩)] w fun e w'=>e=.returned (.bool (decide (c.sl≤f.at_)))∧Fr [] w w':=by
 unfold QY at h
 have q1:=cell_of (i:=1) h rfl;have q7:=cell_of (i:=7) h rfl
 clear h
 generalize c.sl=a at*
 generalize f.at_=b at*
 go_in
 go_wp2_with fail
 go_region
 all_goals go_wp2
 all_goals go_ret
 all_goals exact ⟨Lc,(Fr.refl [] w).drew⟩
theorem Z0H {P:Prop} (h:P:=by
 go_in
 go_wp2_with fail
 go_region
 all_goals go_wp2
 all_goals go_ret3
 all_goals exact ⟨rfl,(Fr.refl [] w).drew⟩):P:=h
theorem X4 (w:World) (p:Nat) (c:Q0) (f:Qi) (h:QY w p c f):Calls Tryz.prog 157 #[.pointer (some ⟨p,0,none⟩)] w fun e w'=>e=.returned (if f.found then .tuple #[.int .i64 f.at_,.int .i64 f.word,.bool true] else .tuple #[.int .i64 0,.int .i64 0,.bool false])∧Fr [] w w':=by
 unfold QY at h
 have q7:=cell_of (i:=7) h rfl;have q8:=cell_of (i:=8) h rfl;have q9:=cell_of (i:=9) h rfl
 clear h
 generalize f.at_=a at*
 generalize f.word=b at*
 obtain ⟨fd,hfd⟩:∃x,f.found=x:=⟨_,rfl⟩
 rw [hfd] at q9 ⊢
 clear hfd
 cases fd
 · rw [if_neg Lc]
   go_in
   go_wp2
   go_ret3
   exact ⟨rfl,Fr.refl [] w⟩
 · rw [if_pos rfl]
   exact Z0H
theorem KA (w:World) (p:Nat) (c:Q0) (f:Qi) (h:QY w p c f):Calls Tryz.prog 237 #[.pointer (some ⟨p,0,none⟩)] w fun e w'=>e=.returned (.tuple #[])∧QY w' p c f.again∧Fr [p] w w':=by
 unfold QY at h
 have q9:=cell_of (i:=9) h rfl;have u9:=Qb (i:=9) h
 have hb:=heap_setCell_same (i:=9) h (.bool false)
 simp only [List.setIfInBounds_toArray,List.set_cons_zero,List.set_cons_succ] at hb
 have HB:=hid (show QY _ p c f.again from hb)
 have HF:=hid ((Fr.refl [p] w).sc p 9 (.bool false))
 clear hb h
 go_in
 go_wp2
 go_end0
 exact ⟨rfl,HB.out,HF.out⟩
theorem Hl (w:World) (p:Nat) (c:Q0) (f:Qi) (h:QY w p c f) (ha0:0≤f.at_) (ha1:f.at_≤1000):Calls Tryz.prog 216 #[.pointer (some ⟨p,0,none⟩)] w fun e w'=>e=.returned (.tuple #[])∧QY w' p c f.go∧Fr [p] w w':=by
 unfold Qi.go
 have H:=hid h
 unfold QY at h
 have q7:=cell_of (i:=7) h rfl;have q9:=cell_of (i:=9) h rfl;have u9:=Qb (i:=9) h;have u7:=Qb (i:=7) h
 cases hfd:f.found
 · rw [hfd] at q9
   rw [if_neg Lc]
   clear h hfd
   go_in
   go_wp2
   go_end0
   exact ⟨rfl,H.out,Fr.refl _ _⟩
 · rw [hfd] at q9
   rw [if_pos rfl]
   have hb:=heap_setCell_same (i:=7) (heap_setCell_same (i:=9) h (.bool false)) (.int .i64 (f.at_+1))
   simp only [List.setIfInBounds_toArray,List.set_cons_zero,List.set_cons_succ] at hb
   have HB:=hid (show QY _ p c {f with found:=false,at_:=f.at_+1} from hb)
   have HF:=hid (((Fr.refl [p] w).sc p 9 (.bool false)).setCell (p:=⟨p,7,none⟩) (.inl Lc) (.int .i64 (f.at_+1)))
   clear hb h hfd
   generalize f.at_=at' at*
   go_in
   go_wp2
   go_end0
   exact ⟨rfl,HB.out,HF.out⟩
end
section
open Go.RowKit Go.Lib
abbrev tM (pm qm:Nat) (M:List Int) (n:Int):Th:=⟨true,[pm,qm],fun w=>Qm w pm qm M n,fun f h k=>k.fr f (h _ Lc) (h _ Lc)⟩
theorem Bag.M {S0:List Nat} {w0 w w':World} {L L':List Th} {pm qm:Nat} {M:List Int} {n:Int} (B:Bag S0 w0 L w) {S:List Nat} (h:Qm w' pm qm M n) (f:Fr S w w') (ho:(gt L 1).own=true:=by exact rfl) (hp:[pm,qm]=(gt L 1).fp:=by exact rfl)
 (hS:S=(gt L 1).fp:=by exact rfl) (hi:1<L.length:=by exact Nat.lt_of_sub_ne_zero (by intro h;cases h)) (hL:L.set 1 (tM pm qm M n)=L':=by (try simp only [List.set_cons_zero,List.set_cons_succ]);exact rfl):Bag S0 w0 L' w':=
 B.up 1 (T':=tM pm qm M n) h f ho hp hS hi hL
end
section
open Go.RowKit Go.Shelf Go.Lib
attribute [local go_sem] Oper.semAt_some
theorem YZ (w:World) (p pm qm:Nat) (c:Q0) (f:Qi) (M:List Int) (n:Int) (h:QY w p c f) (hM:Qm w pm qm M n) (hn:n≤1000000000) (hp:p≠pm∧p≠qm) (hc:c.fits) (hok:f.ok c) (hS:X5 c M) (hG:Qe w 0 Qc) (h0:0<p∧0<pm∧0<qm):Calls Tryz.prog 156 #[.pointer (some ⟨p,0,none⟩),.pointer (some ⟨pm,0,none⟩)] w (Q3H w p pm qm c n (QB c f M) M):=by
 by_cases hfd:f.found=true
 · rw [show QB c f M=(f,true) by unfold QB;rw [hfd];rfl]
   have q:=(Bag.one h).q 0
   rw [hfd] at q
   go_in
   go_wp2
   go_ret
   exact ⟨rfl,h,hM.mono Lb,Fr.refl _ _⟩
 replace hfd:f.found=false:=by simpa using hfd
 by_cases ha:c.sl≤f.at_
 · rw [show QB c f M=(f,true) by unfold QB Qi.all;rw [hfd,decide_eq_true ha];rfl]
   have HA:=hid (Ut w p c f h)
   rw [decide_eq_true ha] at HA
   have q:=(Bag.one h).q 0
   rw [hfd] at q
   go_in
   go_wp2_with fail
   refine HA.out.mono ?_
   rintro e w1 ⟨rfl,g⟩
   go_wp2
   go_ret
   exact ⟨rfl,h.fr g Lc,(hM.fr g Lc Lc).mono Lb,g.mono Lc⟩
 obtain ⟨s,hs,hld⟩:=hS f.at_ hok.a0 Lb
 have hft:JC (Q6 M (c.slot f.at_)) f.kind f.own=Jq s f.kind f.own:=by unfold JC;rw [hld,QF hs]
 have e:QB c f M=if Jq s f.kind f.own=true then ({f with word:=s.enc,found:=true},true) else ({f with at_:=f.at_+1},decide (c.sl≤f.at_+1)):=by
  unfold QB Qi.all
  rw [hfd,decide_eq_false Lb]
  dsimp only
  rw [hft,hld]
  rfl
 rw [e]
 have HSL:=hid fun w'=>J9 w' c f.at_ hc
 rw [show Q5 c f.at_=c.slot f.at_ by unfold Q5;rw [if_pos ⟨hok.a0,Lb⟩]] at HSL
 have HLD:=hid fun w' h=>Za w' pm qm M n (c.slot f.at_) h hn
 rw [hld] at HLD
 have HD:=hid fun w' h=>Ji w' s hs h
 have HF:=hid fun w'=>Q1k w' s f.kind f.own hok.k0 hok.k1
 have B:Bag [p,pm,qm] w [tR p _ _,tM pm qm M n,tF] w:=Bag.of (by simp only [List.forall_mem_cons];exact ⟨h,hM,hG,Lc⟩) (by have:=hM.ne;simp;omega) (by have:=Q9 h;have:=hM.plt;have:=hM.qlt;simp;omega) Lc
 have ha0:=hok.a0;have ha1:f.at_≤16:=hok.a1
 clear hok hS hs hld hft e h hM hG hp h0 hc
 generalize Jq s f.kind f.own=ft at HF ⊢
 generalize s.enc=en at HLD HD ⊢
 generalize c.slot f.at_=cell at HSL HLD
 obtain ⟨kind,own,at_,word,found⟩:=f
 obtain ⟨wo,sl,st,wa,us⟩:=c
 obtain ⟨sst,sso,sstr,sbr,smkd,sus,sgen,sep,sver⟩:=s
 unfold Q0.val at HSL
 unfold Q7.val at HD HF
 dsimp only at*
 subst hfd
 obtain ⟨X,hX⟩:∃X,(if ft=true then ((⟨kind,own,at_,en,true⟩:Qi),true) else (⟨kind,own,at_+1,word,false⟩,decide (sl≤at_+1)))=X:=⟨_,rfl⟩
 rw [hX]
 have HXE:=hid hX
 clear hX
 have q:=B.q 0
 go_in
 go_wp2_with fail
 refine (Ut _ p ⟨wo,sl,st,wa,us⟩ ⟨kind,own,at_,word,false⟩ (B.g 0)).mono ?_
 rintro e w1 ⟨rfl,f1⟩
 dsimp only
 rw [decide_eq_false Lb]
 replace B:=B.tm f1
 clear q
 have q:=B.q 0
 go_wp2_with fail
 clear q
 refine rgx [0,2] B fun _ B=> ?_
 iterate 9 refine tb ?_
 refine tc 9 fun K hK=> ?_
 go_simp
 refine (HSL.out _).mono ?_
 rintro e w3 ⟨rfl,f3⟩
 replace B:=B.tm f3
 go_wp2_with fail
 refine bk hK ?_
 clear hK K
 try go_frame
 refine tc 10 fun K hK=> ?_
 go_simp
 refine (HLD.out _ (B.g 1)).mono ?_
 rintro e w4 ⟨rfl,h4,f4⟩
 replace B:=B.M h4 f4
 go_wp2_with fail
 refine bk hK ?_
 clear hK K
 try go_frame
 refine tb ?_
 refine wpAnyH_done (by decide+kernel) ?_ _
 go_wp2_with fail
 refine (HD.out _ (B.g 2)).mono ?_
 rintro e w5 ⟨rfl,f5⟩
 replace B:=B.tm f5
 go_wp2_with fail
 generalize hb:(World.heap _).size=b6,hw:World.alloc _ _=w6
 replace B:=B.al hw hb
 refine rg B fun _ B=> ?_
 repeat refine tb ?_
 refine tc 11 fun K hK=> ?_
 go_simp
 refine (HF.out _).mono ?_
 rintro e w7 ⟨rfl,f7⟩
 replace B:=B.tm f7
 go_wp2_with fail
 refine bk hK ?_
 clear hK K
 try go_frame
 refine tb ?_
 refine wpAnyH_done (by decide+kernel) ?_ _
 have q:=B.q 0;have u:=B.u 0
 cases ft
 · go_wp2_with fail
   generalize hw:World.setCell _ _ _=w8
   replace B:=(B.s 0).e hw
   refine (Ut _ p ⟨wo,sl,st,wa,us⟩ ⟨kind,own,at_+1,word,false⟩ (B.g 0)).mono ?_
   rintro e w9 ⟨rfl,f9⟩
   replace B:=B.tm f9
   go_wp2
   go_ret
   rw [←HXE.out]
   exact ⟨rfl,B.g 0,B.g 1,B.fr⟩
 · go_wp2_with fail
   generalize hw:World.setCell _ _ _=w8
   replace B:=((B.s 0).s 0).e hw
   go_wp2
   go_ret
   rw [←HXE.out]
   exact ⟨rfl,B.g 0,B.g 1,B.fr⟩
end
section
open Go.RowKit Go.Shelf Go.Lib
attribute [local go_sem] Oper.semAt_some
def Xu (o:Option Nat):Value:=.pointer (o.map fun q=>⟨q,0,none⟩)
def Xh (w:World) (p:Nat) (pl pr:Option Nat) (c:Q0) (t:Qd):Prop:=
 w.heap[p]?=some (.cells #[.int .i64 c.wo,.int .i64 c.sl,.int .i64 c.st,.int .i64 c.wa,.int .i64 c.us,.int .i64 t.w,.int .i64 t.st,Xu pl,.int .i64 t.i,.int .i64 t.word,.int .i64 t.gen,.bool t.passes,Xu pr,.int .i64 t.e] 176 (0,0))
theorem Xh.fr {w w':World} {p:Nat} {pl pr:Option Nat} {c:Q0} {t:Qd} (h:Xh w p pl pr c t) {S:List Nat} (f:Fr S w w') (hp:p∉S):Xh w' p pl pr c t:=f.at h hp
def Zv (w:World) (pl:Option Nat) (c:Q0) (l:Option Qi):Prop:=match pl,l with
 |some q,some f=>QY w q c f
 |none,none=>True
 |_,_=>False
def Yf (w:World) (pr:Option Nat) (r:Option J2):Prop:=match pr,r with
 |some q,some f=>JK w q f
 |none,none=>True
 |_,_=>False
theorem Zv.fr {w w':World} {pl:Option Nat} {c:Q0} {l:Option Qi} (h:Zv w pl c l) {S:List Nat} (f:Fr S w w') (hs:∀b,pl=some b→b∉S):Zv w' pl c l:=by
 cases pl<;>cases l<;>first|exact h|exact QY.fr h f (hs _ rfl)
theorem Yf.fr {w w':World} {pr:Option Nat} {r:Option J2} (h:Yf w pr r) {S:List Nat} (f:Fr S w w') (hs:∀b,pr=some b→b∉S):Yf w' pr r:=by
 cases pr<;>cases r<;>first|exact h|exact JK.fr h f (hs _ rfl)
theorem Zv.get {w:World} {pl:Option Nat} {c:Q0} {f:Qi} (h:Zv w pl c (some f)):∃q,pl=some q∧QY w q c f:=by
 cases pl with
 |none=>exact h.elim
 |some q=>exact ⟨q,rfl,h⟩
theorem Yf.get {w:World} {pr:Option Nat} {f:J2} (h:Yf w pr (some f)):∃q,pr=some q∧JK w q f:=by
 cases pr with
 |none=>exact h.elim
 |some q=>exact ⟨q,rfl,h⟩
theorem Zv.lt {w:World} {pl:Option Nat} {c:Q0} {l:Option Qi} (h:Zv w pl c l) (b:Nat) (hb:pl=some b):b<w.heap.size:=by
 subst hb
 cases l with
 |none=>exact h.elim
 |some f=>exact Q9 h
theorem Yf.lt {w:World} {pr:Option Nat} {l:Option J2} (h:Yf w pr l) (b:Nat) (hb:pr=some b):b<w.heap.size:=by
 subst hb
 cases l with
 |none=>exact h.elim
 |some f=>exact Q9 h
structure Gm (w:World) (p pm qm:Nat) (pl pr:Option Nat):Prop where
 pp:p≠pm∧p≠qm∧0<p∧0<pm∧0<qm∧p<w.heap.size∧pm<w.heap.size∧qm<w.heap.size
 fl:∀b,pl=some b→b≠p∧b≠pm∧b≠qm∧0<b∧b<w.heap.size
 fr:∀b,pr=some b→b≠p∧b≠pm∧b≠qm∧0<b∧b<w.heap.size
 lr:∀b,pl=some b→pr≠some b
structure Zt (w:World) (p pm qm:Nat) (pl pr:Option Nat) (c:Q0) (t:Qd):Prop where
 blk:Xh w p pl pr c t
 lk:Zv w pl c t.look
 rt:Yf w pr t.ret
 ft:Gm w p pm qm pl pr
def Zu (w:World) (p pm qm:Nat) (pl pr:Option Nat) (c:Q0) (n:Int) (x:Qd×List Int) (e:Ending) (w':World):Prop:=
 e=.returned (.tuple #[])∧∃pl' pr',Zt w' p pm qm pl' pr' c x.1∧Qm w' pm qm x.2 (n+1)∧Fr (p::pm::qm::(pl.toList++pr.toList)) w w'∧
  (∀b,pl'=some b→pl=some b∨w.heap.size≤b)∧(∀b,pr'=some b→pr=some b∨w.heap.size≤b)
theorem K6 {w w':World} {p pm qm:Nat} {pl pr pl' pr':Option Nat} (h:Gm w p pm qm pl pr) (hs:w.heap.size≤w'.heap.size) (hl:∀b,pl'=some b→pl=some b∨w.heap.size≤b) (hr:∀b,pr'=some b→pr=some b∨w.heap.size≤b)
 (l':∀b,pl'=some b→b<w'.heap.size) (r':∀b,pr'=some b→b<w'.heap.size) (hlr:∀b,pl'=some b→pr'≠some b):Gm w' p pm qm pl' pr':=by
 obtain ⟨h1,h2,h3,h4,h5,h6,h7,h8⟩:=h.pp
 refine ⟨⟨h1,h2,h3,h4,h5,Lb,Lb,Lb⟩,fun b hb=> ?_,fun b hb=> ?_,hlr⟩
 · have:=l' b hb
   rcases hl b hb with h'|h'
   · obtain ⟨a1,a2,a3,a4,a5⟩:=h.fl b h';exact ⟨a1,a2,a3,a4,this⟩
   · exact ⟨Lb,Lb,Lb,Lb,this⟩
 · have:=r' b hb
   rcases hr b hb with h'|h'
   · obtain ⟨a1,a2,a3,a4,a5⟩:=h.fr b h';exact ⟨a1,a2,a3,a4,this⟩
   · exact ⟨Lb,Lb,Lb,Lb,this⟩
abbrev tRt (pr:Option Nat) (r:Option J2):Th:=⟨true,pr.toList,fun w=>Yf w pr r,fun f h k=>k.fr f (fun b hb=>h b (by simp [hb]))⟩
abbrev tLk (pl:Option Nat) (c:Q0) (l:Option Qi):Th:=⟨true,pl.toList,fun w=>Zv w pl c l,fun f h k=>k.fr f (fun b hb=>h b (by simp [hb]))⟩
abbrev tK (p:Nat) (pl pr:Option Nat) (wo sl sst wa us tw ts ti tword tgen:Int) (tp:Bool) (te:Int):Th:=
 tR p #[.int .i64 wo,.int .i64 sl,.int .i64 sst,.int .i64 wa,.int .i64 us,.int .i64 tw,.int .i64 ts,Xu pl,.int .i64 ti,.int .i64 tword,.int .i64 tgen,.bool tp,Xu pr,.int .i64 te] 176
section
variable {S0:List Nat} {w0 w:World} {A C:Th} {L:List Th} {p pm qm ql:Nat} {pl pr:Option Nat} {wo sl sst wa us tw ts ti tword tgen te:Int} {tp:Bool} {M:List Int} {n:Int}
theorem Ko (B:Bag S0 w0 (tK p pl pr wo sl sst wa us tw ts ti tword tgen tp te::L) w) (e:Int):
 Calls Tryz.prog 252 #[.pointer (some ⟨p,0,none⟩),.int .i64 e] w fun en w'=>en=.returned (.tuple #[])∧Bag S0 w0 (tK p pl pr wo sl sst wa us tw 15 ti tword tgen tp e::L) w':=by
 have q:=B.q 0;have u:=B.u 0
 go_in
 go_wp2_with fail
 clear q u
 generalize hw:World.setCell _ _ _=w2
 replace B:=((B.s 0).s 0).e hw
 go_end0
 exact ⟨rfl,B⟩
theorem G6 {c:Q0} {f:Option Qi} (B:Bag S0 w0 (tK p pl pr wo sl sst wa us tw ts ti tword tgen tp te::A::tLk pl c f::L) w) (st kind own:Int):
 Calls Tryz.prog 253 #[.pointer (some ⟨p,0,none⟩),.int .i64 st,.int .i64 kind,.int .i64 own] w fun en w'=>en=.returned (.tuple #[])∧
  ∃q,Bag S0 w0 (tK p (some q) pr wo sl sst wa us tw st ti tword tgen tp te::A::tLk (some q) ⟨wo,sl,sst,wa,us⟩ (some (QE kind own 0))::L) w':=by
 have HN:=hid fun w'=>Uq w' ⟨wo,sl,sst,wa,us⟩ kind own
 dsimp only [Q0.val] at HN
 have q:=B.q 0
 go_in
 go_wp2_with fail
 refine (HN.out _).mono ?_
 rintro e w1 ⟨b,rfl,hb,hl,f⟩
 replace B:=B.rp 2 (T':=tLk (some b) ⟨wo,sl,sst,wa,us⟩ (some (QE kind own 0))) hl f (fun x hx=>by simp at hx;subst hx;exact ⟨hb,Q9 hl⟩)
 clear q
 have q:=B.q 0;have u:=B.u 0
 go_wp2_with fail
 clear q u
 generalize hw:World.setCell _ _ _=w2
 replace B:=((B.s 0).s 0).e hw
 go_end0
 exact ⟨rfl,b,B⟩
theorem Q3a {f:Qi} (B:Bag S0 w0 (tK p (some ql) pr wo sl sst wa us tw ts ti tword tgen tp te::tM pm qm M n::tLk (some ql) ⟨wo,sl,sst,wa,us⟩ (some f)::A::tF::L) w) (hn:n≤1000000000) (hc:Q0.fits ⟨wo,sl,sst,wa,us⟩) (hok:f.ok ⟨wo,sl,sst,wa,us⟩) (hS:X5 ⟨wo,sl,sst,wa,us⟩ M)
 {f':Qi} {a b:Bool} (hx:(QB ⟨wo,sl,sst,wa,us⟩ f M).1=f') (ha:f'.found=a) (hb:((QB ⟨wo,sl,sst,wa,us⟩ f M).2&& !a)=b):
 Calls Tryz.prog 254 #[.pointer (some ⟨p,0,none⟩),.pointer (some ⟨pm,0,none⟩)] w fun en w'=>en=.returned (.tuple #[.bool a,.bool b])∧
  Bag S0 w0 (tK p (some ql) pr wo sl sst wa us tw ts ti tword tgen tp te::tM pm qm M (n+1)::tLk (some ql) ⟨wo,sl,sst,wa,us⟩ (some f')::A::tF::L) w':=by
 have h1:=B.nd 2 1 (by decide) ql (by simp [gt])
 have h2:=B.nd 4 2 (by decide) 0 (by simp [gt])
 have h3:=B.nd 4 1 (by decide) 0 (by simp [gt])
 simp [gt] at h1 h2 h3
 have HST:=hid (YZ w ql pm qm ⟨wo,sl,sst,wa,us⟩ f M n (B.g 2) (B.g 1) hn h1 hc hok hS (B.g 4) ⟨Nat.pos_of_ne_zero (fun e=>h2 e.symm),Nat.pos_of_ne_zero (fun e=>h3.1 e.symm),Nat.pos_of_ne_zero (fun e=>h3.2 e.symm)⟩)
 have HFD:=hid fun w' h=>X4 w' ql ⟨wo,sl,sst,wa,us⟩ f' h
 rw [ha] at HFD
 generalize QB _ f M=x at HST hx hb
 obtain ⟨x1,x2⟩:=x
 dsimp only at hx hb
 subst hx
 clear hS hok hc h1 h2 h3
 have HX:=hid hb
 clear hb
 have q:=B.q 0
 simp only [Xu] at q
 go_in
 go_wp2_with fail
 refine HST.out.mono ?_
 rintro e w1 ⟨rfl,hl,hm,f⟩
 replace B:=B.up2 2 1 (T:=tLk (some ql) ⟨wo,sl,sst,wa,us⟩ (some x1)) (T':=tM pm qm M (n+1)) hl hm f
 clear q hl hm
 have q:=B.q 0
 simp only [Xu] at q
 cases a
 all_goals
  go_wp2_with fail
  refine (HFD.out _ (B.g 2)).mono ?_
  rintro e w2 ⟨rfl,f⟩
  replace B:=B.tm f
  have hx:=HX.out
  cases x2
 all_goals
  subst hx
  go_wp2
  go_ret2
  exact ⟨rfl,B⟩
end
end
end Go.Proofs.YtgjklfmnmljilaaGreatDoor

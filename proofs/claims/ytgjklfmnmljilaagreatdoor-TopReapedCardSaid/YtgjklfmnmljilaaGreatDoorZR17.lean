/- A part of the proof. -/
import Derived.Test.YtgjklfmnmljilaaGreatDoorZR16
import Derived.OrdersHeld
import Derived.OrdersIn
namespace Go.Proofs.YtgjklfmnmljilaaGreatDoor
set_option linter.unusedVariables false
set_option linter.unusedSimpArgs false
set_option linter.unusedSectionVars false
set_option linter.unnecessarySimpa false
set_option maxRecDepth 100000
set_option maxHeartbeats 8000000
section
open Go.RowKit
def FOk (a n:Nat):Prop:=1≤n∧a+n≤62
def fVal (a n:Nat):Value:=.agg #[.int .i64 a,.int .i64 n]
theorem Yr {n:Nat} (h:n≤62):2 ^ n≤4611686018427387904:=Nat.pow_le_pow_right (n:=2) Lb h
theorem KH {n:Nat} (h:n≤62):wrap64 ((2:Int) ^ n)=((2 ^ n:Nat):Int):=by
 have:=Yr h
 have e:(2:Int) ^ n=((2 ^ n:Nat):Int):=by push_cast;rfl
 rw [e]
 generalize 2 ^ n=P at*
 unfold wrap64
 omega
theorem Q8P {n:Nat} (h:n≤62):wrap64 (wrap64 ((2:Int) ^ n) - 1)=((2 ^ n - 1:Nat):Int):=by
 rw [KH h]
 have:=Yr h
 have:=Nat.two_pow_pos n
 generalize 2 ^ n=P at*
 unfold wrap64
 omega
theorem Yw (w:World) (a n:Nat) (h:FOk a n):Calls Tryz.prog 123 #[fVal a n] w fun e w'=>e=.returned (.bool true)∧Fr [] w w':=by
 obtain ⟨h1,h2⟩:=h
 unfold fVal
 have F1:=(Fr.refl [] w).alloc (.cells #[.int .i64 a,.int .i64 n] 142)
 have k1:(0:Int)≤(a:Int):=Lb
 have k2:(a:Int)≤62:=Lb
 have k3:(1:Int)≤(n:Int):=Lb
 have k4:(n:Int)≤62 - (a:Int):=Lb
 have FF:=Lib.hid F1
 clear F1
 go_in
 go_wp2
 go_ret
 exact ⟨rfl,FF.out⟩
theorem Hg (w:World) (a n:Nat) (h:FOk a n):Calls Tryz.prog 144 #[fVal a n] w fun e w'=>e=.returned (.int .i64 ((2 ^ n - 1:Nat):Int))∧Fr [] w w':=by
 have HR:=Lib.hid (Yw (w.alloc (.cells #[.int .i64 a,.int .i64 n] 142)) a n h)
 obtain ⟨h1,h2⟩:=h
 unfold fVal at HR ⊢
 have F1:=(Fr.refl [] w).alloc (.cells #[.int .i64 a,.int .i64 n] 142)
 have hc:=heap_alloc_new w (.cells #[.int .i64 a,.int .i64 n] 142)
 have FF:=Lib.hid F1
 have hn0:(0:Int)≤(n:Int):=Lb
 clear F1
 go_in
 go_wp2_with fail
 refine HR.out.mono ?_
 rintro e w1 ⟨rfl,f1⟩
 have q0:=cell_of (i:=0) (f1.at hc Lc) rfl
 have q1:=cell_of (i:=1) (f1.at hc Lc) rfl
 have F2:=Lib.hid (FF.out.trans f1)
 go_wp2_with fail
 go_ret
 exact ⟨by rw [←Q8P (n:=n) Lb];rfl,F2.out⟩
def Dq (w a n:Nat):Nat:=w / 2 ^ a % 2 ^ n
theorem Q6w {w a n:Nat} (hw:w<9223372036854775808) (hn:n≤62):bits .and .i64 ((w:Int) / (2:Int) ^ a) ((2 ^ n - 1:Nat):Int)=((Dq w a n:Nat):Int):=by
 have e:(w:Int) / (2:Int) ^ a=((w / 2 ^ a:Nat):Int):=by push_cast;rfl
 have h1:w / 2 ^ a<9223372036854775808:=Nat.lt_of_le_of_lt (Nat.div_le_self _ _) hw
 have h2:2 ^ n - 1<9223372036854775808:=by have:=Yr hn;omega
 rw [e,YG _ _ h1 h2]
 unfold Dq
 rw [Nat.and_two_pow_sub_one_eq_mod]
theorem Q7c (w:World) (x a n:Nat) (hx:x<9223372036854775808) (h:FOk a n):Calls Tryz.prog 124 #[.int .i64 x,fVal a n] w fun e w'=>e=.returned (.int .i64 (Dq x a n))∧Fr [] w w':=by
 have HR:=Lib.hid (Yw (w.alloc (.cells #[.int .i64 a,.int .i64 n] 142)) a n h)
 have HM:=Lib.hid fun (w':World)=>Hg w' a n h
 have HP:=Lib.hid (Q6w (a:=a) hx (by have:=h.2;omega:n≤62))
 obtain ⟨h1,h2⟩:=h
 unfold fVal at HR HM ⊢
 have F1:=(Fr.refl [] w).alloc (.cells #[.int .i64 a,.int .i64 n] 142)
 have hc:=heap_alloc_new w (.cells #[.int .i64 a,.int .i64 n] 142)
 have FF:=Lib.hid F1
 have ha0:(0:Int)≤(a:Int):=Lb
 clear F1
 go_in
 go_wp2_with fail
 refine HR.out.mono ?_
 rintro e w1 ⟨rfl,f1⟩
 have hc1:=f1.at hc Lc
 have q0:=cell_of (i:=0) hc1 rfl
 have q1:=cell_of (i:=1) hc1 rfl
 have F2:=Lib.hid (FF.out.trans f1)
 generalize 2 ^ n - 1=M at HM HP
 go_wp2_with fail
 go_region_held3 (fun w'=>w'.cell? ⟨w.heap.size,0,none⟩=some (.int .i64 a)∧w'.cell? ⟨w.heap.size,1,none⟩=some (.int .i64 n)) (first|go_keep|exact ⟨f3.cell q0 Lc,f3.cell q1 Lc⟩)
  (first|(go_at_call 144;refine (HM.out _).mono ?_;rintro en w3 ⟨rfl,f3⟩))
 have F3:=Lib.hid (F2.out.drew.trans f3)
 go_wp2
 go_ret
 exact ⟨by rw [HP.out];rfl,F3.out⟩
theorem Q6J {a n:Nat} (h:FOk a n):IntKind.i64.wrap (((2 ^ n - 1:Nat):Int)*(2:Int) ^ a)=(((2 ^ n - 1)*2 ^ a:Nat):Int):=by
 obtain ⟨h1,h2⟩:=h
 have e:(2:Int) ^ a=((2 ^ a:Nat):Int):=by push_cast;rfl
 have hp:=Yr h2
 rw [Nat.add_comm,Nat.pow_add] at hp
 have hm:(2 ^ n - 1)*2 ^ a≤2 ^ n*2 ^ a:=Nat.mul_le_mul_right _ (Nat.sub_le _ _)
 rw [e,←Int.natCast_mul]
 generalize (2 ^ n - 1)*2 ^ a=P at*
 rw [IntKind.wrap_i64]
 omega
theorem K7 (w:World) (a n:Nat) (h:FOk a n):Calls Tryz.prog 206 #[fVal a n] w fun e w'=>e=.returned (.int .i64 (((2 ^ n - 1)*2 ^ a:Nat):Int))∧Fr [] w w':=by
 have HM:=Lib.hid fun (w':World)=>Hg w' a n h
 have HP:=Lib.hid (Q6J h)
 obtain ⟨h1,h2⟩:=h
 unfold fVal at HM ⊢
 have F1:=(Fr.refl [] w).alloc (.cells #[.int .i64 a,.int .i64 n] 142)
 have hc:=heap_alloc_new w (.cells #[.int .i64 a,.int .i64 n] 142)
 have FF:=Lib.hid F1
 have q0:=cell_of (i:=0) hc rfl
 have q1:=cell_of (i:=1) hc rfl
 have ha0:(0:Int)≤(a:Int):=Lb
 clear F1 hc
 generalize (2 ^ n - 1)*2 ^ a=K at HP ⊢
 generalize 2 ^ n - 1=M at HM HP
 go_in
 go_wp2_with fail
 generalize w.alloc (.cells #[.int .i64 a,.int .i64 n] 142)=w1 at FF q0 q1 ⊢
 go_region_held3 (fun w'=>w'.cell? ⟨w.heap.size,0,none⟩=some (.int .i64 a)∧w'.cell? ⟨w.heap.size,1,none⟩=some (.int .i64 n)) (first|go_keep|exact ⟨f3.cell q0 Lc,f3.cell q1 Lc⟩)
  (first|(go_at_call 144;refine (HM.out _).mono ?_;rintro en w3 ⟨rfl,f3⟩))
 have F3:=Lib.hid (FF.out.drew.trans f3)
 go_wp2
 go_ret
 exact ⟨by rw [HP.out];rfl,F3.out⟩
theorem Uz (a b:Nat) (ha:a<9223372036854775808) (h:a&&& b=0):bits .andNot .i64 (a:Int) (b:Int)=(a:Int):=by
 have h1:(BitVec.ofInt 64 (a:Int)).toNat=a:=by
  exact Z0k
 show IntKind.i64.wrap ((BitVec.ofInt 64 (a:Int)&&& ~~~ BitVec.ofInt 64 (b:Int)).toNat:Int)=_
 have h2:BitVec.ofInt 64 (a:Int)&&& ~~~ BitVec.ofInt 64 (b:Int)=BitVec.ofInt 64 (a:Int):=by
  apply BitVec.eq_of_getLsbD_eq
  intro i hi
  have hb:(a&&& b).testBit i=false:=by rw [h];simp
  rw [Nat.testBit_and] at hb
  simp only [BitVec.getLsbD_and,BitVec.getLsbD_not,BitVec.ofInt_natCast,BitVec.getLsbD_ofNat,hi,decide_true,Bool.true_and]
  cases h3:a.testBit i with
  |false=>rfl
  |true=>rw [h3] at hb;simp only [Bool.true_and] at hb;rw [hb];rfl
 rw [h2,h1,IntKind.wrap_i64]
 omega
theorem Q8y {w v a n:Nat} (h:FOk a n) (hw:w<2 ^ a) (hv:v<2 ^ n):
 bits .or .i64 (bits .andNot .i64 (w:Int) (((2 ^ n - 1)*2 ^ a:Nat):Int)) (IntKind.i64.wrap (bits .and .i64 (v:Int) ((2 ^ n - 1:Nat):Int)*(2:Int) ^ a))=((w+v*2 ^ a:Nat):Int):=by
 obtain ⟨h1,h2⟩:=h
 have hpa:=Yr (n:=a) Lb
 have hpn:=Yr (n:=n) Lb
 have hp:=Yr h2
 rw [Nat.add_comm,Nat.pow_add] at hp
 have e1:v&&& (2 ^ n - 1)=v:=by rw [Nat.and_two_pow_sub_one_eq_mod];exact Nat.mod_eq_of_lt hv
 have e2:w&&& ((2 ^ n - 1)*2 ^ a)=0:=by
  apply Nat.eq_of_testBit_eq
  intro i
  rw [Nat.testBit_and,Nat.zero_testBit]
  rcases Nat.lt_or_ge i a with hi|hi
  · rw [Nat.mul_comm,Nat.testBit_two_pow_mul]
    simp [show ¬a≤i by omega]
  · rw [Nat.testBit_lt_two_pow (Nat.lt_of_lt_of_le hw (Nat.pow_le_pow_right Lb hi))];rfl
 have hvp:v*2 ^ a<2 ^ n*2 ^ a:=Nat.mul_lt_mul_of_pos_right hv (Nat.two_pow_pos a)
 have e3:(2:Int) ^ a=((2 ^ a:Nat):Int):=by push_cast;rfl
 rw [Uz _ _ Lb e2,YG _ _ Lb Lb,e1,e3,←Int.natCast_mul,IntKind.wrap_i64]
 have e4:(((v*2 ^ a:Nat):Int)+9223372036854775808) % 18446744073709551616 - 9223372036854775808=((v*2 ^ a:Nat):Int):=by
  generalize v*2 ^ a=P at*
  omega
 rw [e4,Uy _ _ Lb Lb]
 have e5:w|||v*2 ^ a=w+v*2 ^ a:=by rw [Nat.or_comm,Nat.mul_comm v,←Nat.two_pow_add_eq_or_of_lt hw,Nat.add_comm]
 rw [e5]
theorem Q76 (w:World) (x v a n:Nat) (h:FOk a n) (hx:x<2 ^ a) (hv:v<2 ^ n):Calls Tryz.prog 145 #[.int .i64 x,fVal a n,.int .i64 v] w fun e w'=>e=.returned (.int .i64 ((x+v*2 ^ a:Nat):Int))∧Fr [] w w':=by
 have HR:=Lib.hid (Yw (w.alloc (.cells #[.int .i64 a,.int .i64 n] 142)) a n h)
 have HM:=Lib.hid fun (w':World)=>Hg w' a n h
 have HK:=Lib.hid fun (w':World)=>K7 w' a n h
 have HP:=Lib.hid (Q8y h hx hv)
 obtain ⟨h1,h2⟩:=h
 unfold fVal at HR HM HK ⊢
 have F1:=(Fr.refl [] w).alloc (.cells #[.int .i64 a,.int .i64 n] 142)
 have hc:=heap_alloc_new w (.cells #[.int .i64 a,.int .i64 n] 142)
 have FF:=Lib.hid F1
 have ha0:(0:Int)≤(a:Int):=Lb
 clear F1
 generalize x+v*2 ^ a=R at HP ⊢
 generalize (2 ^ n - 1)*2 ^ a=K at HP HK
 generalize 2 ^ n - 1=M at HM HP
 clear hx hv
 go_in
 go_wp2_with fail
 refine HR.out.mono ?_
 rintro e w1 ⟨rfl,f1⟩
 have hc1:=f1.at hc Lc
 have q0:=cell_of (i:=0) hc1 rfl
 have q1:=cell_of (i:=1) hc1 rfl
 have F2:=Lib.hid (FF.out.trans f1)
 go_wp2_with fail
 go_region_held3 (fun w'=>w'.cell? ⟨w.heap.size,0,none⟩=some (.int .i64 a)∧w'.cell? ⟨w.heap.size,1,none⟩=some (.int .i64 n)) (first|go_keep|exact ⟨f3.cell q0 Lc,f3.cell q1 Lc⟩|exact ⟨f4.cell (f3.cell q0 Lc) Lc,f4.cell (f3.cell q1 Lc) Lc⟩)
  (first|(go_at_call 206;refine (HK.out _).mono ?_;rintro en w3 ⟨rfl,f3⟩)|(go_at_call 144;refine (HM.out _).mono ?_;rintro en w4 ⟨rfl,f4⟩))
 have F4:=Lib.hid ((F2.out.drew.trans f3).trans f4)
 go_wp2
 go_ret
 exact ⟨by rw [HP.out];rfl,F4.out⟩
end
section
open Go.RowKit Go.Shelf
attribute [local go_sem] Oper.semAt_some
theorem Q4l {n:Nat} {P:Program} {row:String} {args:Array Value} {w:World} {R:Value→World→Prop} (h:Rows P row args w R):RowsIn Fence.wide n P row args w R:=
 fun c cs _=>let ⟨v,w',r,s⟩:=h c cs;⟨v,w',r,stepsIn_wide.2 s⟩
theorem Q8H {n:Nat} {P:Program} {o:Oper} {a:Act} {w:World} {K:Act→World→Prop} {Q:Exit→Act→World→Prop} (h:o.wp P a w K Q):o.wpIn Fence.wide n P a w K Q:=by
 unfold Oper.wp at h
 unfold Oper.wpIn
 refine ⟨fun _ _=>trivial, ?_⟩
 rw [show Fence.wide.round=none from rfl,Oper.semAt_none]
 generalize (execOp a.eval o).run P w=r at*
 cases r with
 |ok x w'=>
  cases x<;>simp only [Oper.upon,Oper.uponIn] at h ⊢ <;>
   first
    |exact h
    |exact ⟨fun hf=>by simp [Fence.wide] at hf,callsIn_wide.2 h⟩
    |exact ⟨fun hf=>by simp [Fence.wide] at hf,Q4l h⟩
 |halt x w'=>cases x<;>simp only [Oper.upon,Oper.uponIn] at h ⊢ <;>exact h
theorem Q1B {n:Nat} {P:Program} {md:Region.Mode} {ops:Array Oper} {Q:Exit→Act→World→Prop} (hno:¬LetsOut Q):
 ∀(fuel:Nat) (listed:Array Bool) (a:Act) (w:World),wpAny P md ops Q fuel listed a w→wpAnyIn Fence.wide n P md ops Q fuel listed a w
 |0,_,_,_,h=>h
 |fuel+1,_,_,_,h=>⟨h.1,fun i hi=>by
  have h2:=wpOp_mono (fun a' w' h'=>Q1B (n:=n) hno fuel _ a' w' h') (h.2 i hi)
  unfold wpOp at h2
  unfold wpOpIn
  cases ho:ops[i]? with
  |none=>simpa only [ho] using h2
  |some o=>
   simp only [ho] at h2 ⊢
   split
   · rename_i hw
     rw [if_pos hw] at h2
     exact Q8H (h2.resolve_right (fun h=>hno h.2))
   · rename_i hw
     rw [if_neg hw] at h2
     exact ⟨fun _ _=>trivial,h2⟩⟩
def Q6C (Q:Exit→Act→World→Prop):Exit→Act→World→Prop
 |.normal,a,w=>Q .normal a w
 |_,_,_=>False
theorem KT {P:Program} {n r id:Nat} {ops:Array Oper} {Q:Exit→Act→World→Prop} {S:World→Prop} {a:Act} {w:World} (hm:P.follows .mixedOrders=true) (hd:∀o∈ops.toList,∀c,o.op≠.defer c)
 (h:wpAnyH P .any ops (Q6C Q) S ops.size (Array.replicate ops.size false) a w.drew):(Code.region id ops true).wpIn (Fence.wide.inRound r) n P Q a w:=
 wpIn_mono (KU (Q:=Q6C Q) hm hd (Q1B (fun ⟨_,_,h⟩=>h) _ _ _ _ (wpAny_of_held _ _ _ _ h))) fun e a w h=>by
  cases e<;>first|exact h|exact (h:False).elim
end
section
open Go.RowKit
attribute [local go_sem] Oper.semAt_some
def Q5F (P:Program) (l:Nat) (body:Code) (B:Nat) (I:Nat→World→Blk→Prop) (Ix:Code→Nat→World→Blk→Prop) (k:Nat) (O:Blk) (W:World) (a':Act) (W':World):Prop:=
 Stp (fun _=>False) W W'∧∀W2,I k W2 O→(∀b,O b→b<W2.heap.size)→B≤W2.heap.size→(∀b,W.heap.size≤b→W2.heap[b]?=W'.heap[b]?)→body.wpIn (Fence.wide.inRound l) 0 P (roundEnd I Ix k O W2) a' W2
theorem Q3R {α:Type} {P:Program} {g:Operand} {ps:Array Tmp} {assign body:Code} {Q:Exit→Act→World→Prop} {a:Act} {w:World}
 {gf:Nat} {lb:Array Value} (hg:a.eval g=.func (.func gf) #[] lb) (eg:∀args w,(callFunc gf args).run P w=.ok (.enter gf args) w)
 {C:Blk} {enc:α→Array Value} {xs:List α} (hseq:Q7H P w C gf lb enc xs) (hps:∀x,(enc x).size=ps.size)
 (I:Nat→World→Blk→Prop) (Ix:Code→Nat→World→Blk→Prop) (hI:Stable w.heap.size I) (hIx:∀c,Stable w.heap.size (Ix c))
 (O:Blk) (hO:∀b,O b→b<w.heap.size) (hC:∀b,C b→¬O b) (h0:I 0 w O)
 (hround:∀(l k:Nat) (x:α) (W:World) (O:Blk),xs[k]?=some x→assign.wpIn (Fence.wide.inRound l) 0 P (Exit.then (Q5F P l body w.heap.size I Ix k O W) (fun _ _ _=>False)) {tmps:=(ps.zip (enc x)).foldl (fun t (p,v)=>t.setIfInBounds p v) a.tmps,defers:=[]} W)
 (hdone:∀(D:Nat) (W':World) (O':Blk),w.heap.size≤D→I xs.length W' O'→Stp O w W'→Grw O O' w W'→W'.heap[D]?=some (.deferred (some []))→¬O' D→Q .normal {a with defers:={target:=.collected D,args:=#[]}::a.defers} W')
 (hstop:∀(D:Nat) (c:Code) (k:Nat) (W':World) (O':Blk),w.heap.size≤D→k≤xs.length→Ix c k W' O'→Stp O w W'→Grw O O' w W'→W'.heap[D]?=some (.deferred (some []))→¬O' D→c.wp P Q {a with defers:={target:=.collected D,args:=#[]}::a.defers} W'):
 (Code.rangeFunc g ps assign body).wp P Q a w:=by
 refine (wpIn_wide (n:=0)).1 (wpIn_rangeFunc ?_)
 intro fn _
 obtain ⟨rec,hrec⟩:∃rec:LoopState→Option Code→Loop,rec=fun st pe=>{state:=st,pending:=pe,fn,tmps:=a.tmps,params:=ps,assign,body,defers:=w.heap.size}:=⟨_,rfl⟩
 obtain ⟨W1,hW1⟩:∃W1,(w.alloc (.deferred (some []))).alloc (.loop (rec .ready none))=W1:=⟨_,rfl⟩
 have hs1:W1.heap.size=w.heap.size+2:=by rw [←hW1];simp
 have hL1:W1.heap[w.heap.size+1]?=some (.loop (rec .ready none)):=by
  exact Z0U
 have hK1:W1.heap[w.heap.size]?=some (.deferred (some [])):=by
  rw [←hW1];exact (Below.heap_alloc _ _ _ Lc).trans (World.alloc_heap_new w _)
 have hst1:Stp O w W1:=by rw [←hW1];exact ((Stp.refl O w).alloc _).alloc _
 have hb1:∀b,b<w.heap.size→W1.heap[b]?=w.heap[b]?:=fun b hb=>by
  rw [←hW1];exact (Below.heap_alloc _ _ _ (by simp;omega)).trans (Below.heap_alloc _ _ _ hb)
 have hI1:I 0 W1 O:=by
  refine hI 0 w O W1 h0 hst1.os hst1.tape hst1.output hst1.size (fun b hb=>hb1 b ?_)
  rcases hb with h|h
  · exact hO b h
  · exact h
 have hnO:∀b,w.heap.size≤b→¬O b:=fun b hb ho=>by have:=hO b ho;omega
 refine ⟨w.heap.size+1,[{target:=.collected w.heap.size,args:=#[]}],W1,{target:=.fn (.func gf) lb,args:=#[.func (.yield (w.heap.size+1)) #[] #[]]},W1,gf,
  #[.func (.yield (w.heap.size+1)) #[] #[]]++lb,W1, ?_, ?_, ?_, ?_,fun h=>by simp [Fence.wide] at h, ?_⟩
 · rw [←hW1,hrec];exact run_enterLoop_outer _ _ _ _ _
 · simp only [resolve,hg]
   simp [go_sem]
 · intro f' _;trivial
 · simp [invoke,go_sem,eg]
 · refine callsIn_wide.2 ((hseq.2 W1 (w.heap.size+1) (fun b=>O b∨b=w.heap.size+1)
    (fun k W O1=>∃O0,O1=(fun b=>O0 b∨b=w.heap.size+1)∧I k W O0∧¬O0 (w.heap.size+1)∧¬O0 w.heap.size∧(∀b,O0 b→b<W.heap.size)∧W.heap[w.heap.size+1]?=some (.loop (rec .ready none))∧W.heap[w.heap.size]?=some (.deferred (some []))∧Stp O w W∧Grw O O0 w W)
    (fun k W O1=>∃c O0,O1=(fun b=>O0 b∨b=w.heap.size+1)∧Ix c k W O0∧¬O0 (w.heap.size+1)∧¬O0 w.heap.size∧(∀b,O0 b→b<W.heap.size)∧W.heap[w.heap.size+1]?=some (.loop (rec .done (some c)))∧W.heap[w.heap.size]?=some (.deferred (some []))∧Stp O w W∧Grw O O0 w W)
    Lb (fun b hb=>hb1 b (hseq.1 b hb)) (fun b hb ho=>by rcases ho with ho|ho;exact hC b hb ho;have:=hseq.1 b hb;omega)
    (fun b hb=>by rcases hb with hb|hb;have:=hO b hb;omega;omega) ?sJ ?sX ?round ⟨O,rfl,hI1,hnO _ Lb,hnO _ (Nat.le_refl _),fun b hb=>by have:=hO b hb;omega,hL1,hK1,hst1,fun b hb=>⟨by have:=hO b hb;omega,.inl hb⟩⟩).mono ?back)
   case sJ=>
    rintro k W _ W' ⟨O0,rfl,hi,hl0,hk0,hbd,hl,hk,hst,hgr⟩ e1 e2 e3 e4 e5
    have hst':Stp O w W':=⟨e1.trans hst.os,e2.trans hst.tape,e3.trans hst.output,Nat.le_trans hst.size e4,fun b hb hn=>(e5 b (.inr Lb)).trans (hst.block b hb hn)⟩
    refine ⟨O0,rfl,hI k W O0 W' hi e1 e2 e3 e4 (fun b hb=>e5 b ?_),hl0,hk0,fun b hb=>Nat.lt_of_lt_of_le (hbd b hb) e4,(e5 _ (.inl (.inr rfl))).trans hl,(e5 _ (.inr Lb)).trans hk,hst',fun b hb=>⟨Nat.lt_of_lt_of_le (hbd b hb) e4,(hgr b hb).2⟩⟩
    rcases hb with h|h
    · exact .inl (.inl h)
    · exact .inr Lb
   case sX=>
    rintro k W _ W' ⟨c,O0,rfl,hi,hl0,hk0,hbd,hl,hk,hst,hgr⟩ e1 e2 e3 e4 e5
    have hst':Stp O w W':=⟨e1.trans hst.os,e2.trans hst.tape,e3.trans hst.output,Nat.le_trans hst.size e4,fun b hb hn=>(e5 b (.inr Lb)).trans (hst.block b hb hn)⟩
    refine ⟨c,O0,rfl,hIx c k W O0 W' hi e1 e2 e3 e4 (fun b hb=>e5 b ?_),hl0,hk0,fun b hb=>Nat.lt_of_lt_of_le (hbd b hb) e4,(e5 _ (.inl (.inr rfl))).trans hl,(e5 _ (.inr Lb)).trans hk,hst',fun b hb=>⟨Nat.lt_of_lt_of_le (hbd b hb) e4,(hgr b hb).2⟩⟩
    rcases hb with h|h
    · exact .inl (.inl h)
    · exact .inr Lb
   case round=>
    rintro k x W _ hx ⟨O0,rfl,hi,hl0,hk0,hbd,hl,hk,hst,hgr⟩ _
    have hlt:w.heap.size+1<W.heap.size:=(Array.getElem?_eq_some_iff.1 hl).1
    have hy:=run_yield (P:=P) (args:=enc x) hl (by rw [hrec];exact hps x)
    rw [hrec] at hy
    refine ⟨fn,_,assign,body,hy,roundIn_of_wpIn trivial (wpIn_mono (hround _ k x W O0 hx) ?_)⟩
    clear hy
    intro e a' W' he
    cases e with
    |normal=> ?_
    |exit id=>exact he.elim
    |goto t=>exact he.elim
    |ret=>exact he.elim
    |panic ch=>exact he.elim
    |outgrown=>exact he.elim
    obtain ⟨hs0,hbody⟩:=he
    have hlW:w.heap.size+1<W.heap.size:=hlt;have hWs:=hs0.size
    replace hlt:w.heap.size+1<W'.heap.size:=Lb
    replace hl:=hs0.at hl (fun h=>h)
    replace hk:=hs0.at hk (fun h=>h)
    replace hi:=hI k W O0 W' hi hs0.os hs0.tape hs0.output hs0.size (fun b hb=>hs0.block b (by rcases hb with h|h;exact hbd b h;omega) (fun h=>h))
    replace hbd:∀b,O0 b→b<W'.heap.size:=fun b hb=>by have:=hbd b hb;omega
    replace hst:=hst.then hs0 (fun b hb=>hb.elim)
    refine ⟨_,run_beginRound hl (by rw [hrec]), ?_⟩
    obtain ⟨W2,hW2⟩:∃W2,W'.putObj (w.heap.size+1) (.loop {rec .ready none with state:=.busy})=W2:=⟨_,rfl⟩
    rw [hW2]
    have hs2:W2.heap.size=W'.heap.size:=by rw [←hW2];simp
    have hl2:W2.heap[w.heap.size+1]?=some (.loop {rec .ready none with state:=.busy}):=by rw [←hW2];exact World.putObj_heap_same hlt
    have hk2:W2.heap[w.heap.size]?=some (.deferred (some [])):=by rw [←hW2];exact (World.putObj_heap_other Lb).trans hk
    have hi2:I k W2 O0:=by rw [←hW2];exact hI.putObj hi hl0 Lb _
    have hst2:Stp O w W2:=by rw [←hW2];exact hst.putObj (.inr Lb) _
    have hstW:Stp (fun b=>O0 b∨b=w.heap.size+1) W W2:=by rw [←hW2];exact (hs0.mono (fun _ h=>h.elim)).putObj (.inl (.inr rfl)) _
    refine wpIn_mono (hbody W2 hi2 (fun b hb=>by rw [hs2];exact hbd b hb) hst2.size (fun b hb=>by rw [←hW2];exact World.putObj_heap_other Lb)) ?_
    -- what any way out of the body owes
    have fin:∀(jump:Option Code) (W3:World) (O3:Blk),Stp O0 W2 W3→Grw O0 O3 W2 W3→∃W4,W4=W3.putObj (w.heap.size+1) (.loop (rec (if jump.isNone then .ready else .done) jump))∧
     (Instr.endRound (w.heap.size+1) jump).run P W3=.ok (.bool jump.isNone) W4∧¬O3 (w.heap.size+1)∧¬O3 w.heap.size∧(∀b,O3 b→b<W4.heap.size)∧
     W4.heap[w.heap.size+1]?=some (.loop (rec (if jump.isNone then .ready else .done) jump))∧W4.heap[w.heap.size]?=some (.deferred (some []))∧Stp O w W4∧Grw O O3 w W4∧
     Stp (fun b=>O0 b∨b=w.heap.size+1) W W4∧Grw (fun b=>O0 b∨b=w.heap.size+1) (fun b=>O3 b∨b=w.heap.size+1) W W4:=fun jump W3 O3 h3 g3=>by
     have hl3:=h3.at hl2 hl0
     have hk3:=h3.at hk2 hk0
     have he:=run_endRound (P:=P) jump hl3
     rw [hrec] at he ⊢
     have n1:¬O3 (w.heap.size+1):=fun hb=>by rcases (g3 _ hb).2 with h|h;exact hl0 h;omega
     have n0:¬O3 w.heap.size:=fun hb=>by rcases (g3 _ hb).2 with h|h;exact hk0 h;omega
     have s4:=h3.size
     have e4:(W3.putObj (w.heap.size+1) (.loop (rec (if jump.isNone then .ready else .done) jump))).heap.size=W3.heap.size:=Lc
     rw [hrec] at e4
     refine ⟨_,rfl,he,n1,n0,fun b hb=>by rw [e4];exact (g3 b hb).1,World.putObj_heap_same (Array.getElem?_eq_some_iff.1 hl3).1,(World.putObj_heap_other Lb).trans hk3, ?_, ?_, ?_, ?_⟩
     · exact (hst2.then h3 (fun b hb=>(hgr b hb).2)).putObj (.inr Lb) _
     · intro b hb
       refine ⟨by rw [e4];exact (g3 b hb).1, ?_⟩
       rcases (g3 b hb).2 with h|h
       · exact (hgr b h).2
       · right;omega
     · exact (hstW.then h3 (fun b hb=>.inl (.inl hb))).putObj (.inl (.inr rfl)) _
     · intro b hb
       rcases hb with hb|hb
       · refine ⟨by rw [e4];exact (g3 b hb).1, ?_⟩
         rcases (g3 b hb).2 with h|h
         · exact .inl (.inl h)
         · right;omega
       · subst hb
         exact ⟨by rw [e4];omega,.inl (.inr rfl)⟩
    rintro e a3 W3 hp
    cases e with
    |normal=>
     exact Z0G
    |ret=>
     exact Z0B
    |exit id=>
     exact Z0y
    |goto t=>
     exact Z0A
    |panic ch=>exact hp.elim
    |outgrown=>exact hp.elim
   case back=>
    rintro e W2 ⟨⟨v,rfl⟩,(⟨_,⟨O0,rfl,hi,hl0,hk0,hbd,hl,hk,hst,hgr⟩,_,_⟩|⟨k,_,hkx,⟨c,O0,rfl,hi,hl0,hk0,hbd,hl,hk,hst,hgr⟩,_,_⟩)⟩
    · have he:=run_endLoop (P:=P) hl (by rw [hrec];simp)
      rw [hrec] at he
      refine ⟨none,_,he,hdone _ _ O0 (Nat.le_refl _) (hI.putObj hi hl0 Lb _) (hst.putObj (.inr Lb) _) (fun b hb=>⟨by simpa using hbd b hb,(hgr b hb).2⟩) ((World.putObj_heap_other Lb).trans hk) hk0⟩
    · have he:=run_endLoop (P:=P) hl (by rw [hrec];simp)
      rw [hrec] at he
      refine ⟨some c,_,he,(wpIn_wide (n:=0)).2 (hstop _ c k _ O0 (Nat.le_refl _) hkx ((hIx c).putObj hi hl0 Lb _) (hst.putObj (.inr Lb) _) (fun b hb=>⟨by simpa using hbd b hb,(hgr b hb).2⟩) ((World.putObj_heap_other Lb).trans hk) hk0)⟩
end
section
open Go.RowKit Go.Shelf
attribute [local go_sem] Oper.semAt_some
def Qc:List (Nat×Nat):=[(0,3),(3,4),(7,8),(15,1),(16,1),(17,6),(23,12),(35,12),(47,15)]
def prs:List (Nat×Nat)→List ((Nat×Nat)×(Nat×Nat))
 |[]=>[]
 |x::l=>l.map (fun y=>(x,y))++prs l
def Wm (i:Nat):Nat:=i*(17 - i) / 2
theorem Q8B:∀i<9,∀j<8 - i,(prs Qc)[Wm i+j]?=some ((Qc.getD i (0,0)),(Qc.getD (i+1+j) (0,0))):=by decide
theorem Q4A:∀i<9,Wm (i+1)=Wm i+(8 - i):=by decide
theorem Q8A:(prs Qc).length=36:=by decide
theorem Ur:∀x∈Qc,FOk x.1 x.2:=by unfold FOk;decide
def Qe (w:World) (b:Nat) (L:List (Nat×Nat)):Prop:=∀(j:Nat) (x:Nat×Nat),L[j]?=some x→w.cell? ⟨b,j*2,none⟩=some (.int .i64 x.1)∧w.cell? ⟨b,j*2+1,none⟩=some (.int .i64 x.2)
theorem Qe.fr {w w':World} {b:Nat} {L:List (Nat×Nat)} (h:Qe w b L) {S:List Nat} (f:Fr S w w') (hb:b∉S):Qe w' b L:=fun j x hx=>⟨f.cell (h j x hx).1 hb,f.cell (h j x hx).2 hb⟩
def Q3t (x:(Nat×Nat)×(Nat×Nat)):Array Value:=#[fVal x.1.1 x.1.2,fVal x.2.1 x.2.2]
theorem Yl {i:Nat} (h:i<9):Qc[i]?=some (Qc.getD i (0,0)):=by
 have:i<Qc.length:=h
 rw [List.getD_eq_getElem?_getD,List.getElem?_eq_getElem this];rfl
theorem Q2m (w:World) (bx b:Nat) (hbx:w.cell? ⟨bx,0,none⟩=some (.slice (some ⟨b,0,none⟩) 9 9)) (hb:Qe w b Qc):
 Q7H Tryz.prog w (fun x=>x=bx∨x=b) 246 #[.pointer (some ⟨bx,0,none⟩)] Q3t (prs Qc):=by
 have hbl:b<w.heap.size:=World.block_lt_of_cell? w _ (hb 0 _ rfl).1
 refine ⟨fun x hx=> ?_,fun W l O J Jx hs hC hCO hO hJ hJx hY h0=> ?_⟩
 · rcases hx with rfl|rfl
   · exact World.block_lt_of_cell? w _ hbx
   · exact hbl
 have c1:W.cell? ⟨bx,0,none⟩=some (.slice (some ⟨b,0,none⟩) 9 9):=(World.cell?_of_block (w:=w) (a:=⟨bx,0,none⟩) (hC bx (.inl rfl))).trans hbx
 have HF:=Lib.hid (show Qe W b Qc from fun j x hx=>⟨(World.cell?_of_block (w:=w) (a:=⟨b,j*2,none⟩) (hC b (.inr rfl))).trans (hb j x hx).1,(World.cell?_of_block (w:=w) (a:=⟨b,j*2+1,none⟩) (hC b (.inr rfl))).trans (hb j x hx).2⟩)
 refine (callsIn_wide (n:=3)).1 (callsIn_of_wp Tryz.func246 rfl trivial ?_ rfl)
 simp only [Tryz.ntmps246,List.size_toArray,List.length_cons,List.length_nil,Nat.reduceAdd,Nat.reduceSub,Array.replicate_succ,Array.replicate_zero,List.push_toArray,List.append_toArray,List.nil_append,List.cons_append]
 have hb1:=hCO bx (.inl rfl);have hb2:=hCO b (.inr rfl)
 rw [Q8A]
 clear hC hCO hs hbx hb
 have HY:=Lib.hid hY;clear hY
 gi_wp2
 gi_loopw [9] (fun s9 wr=>∃(i:Nat) (O1:Blk),i≤9∧s9=.int .i64 i∧J (Wm i) wr O1∧Stp O W wr∧Grw O O1 W wr) (fun s9 _=>9 - (intOf s9).toNat)
 case atStart=>exact ⟨0,O,Nat.zero_le _,rfl,h0,Stp.refl _ _,Grw.refl hO⟩
 case round=>
  obtain ⟨i,O1,hi,rfl,hj,hst,hgr⟩:=hrel
  have d1:=hst.cell c1 hb1
  by_cases hlt:i<9
  · obtain ⟨⟨fa,fn'⟩,hfx⟩:∃x,Qc.getD i (0,0)=x:=⟨_,rfl⟩
    have hcl:=HF.out i _ (Yl hlt)
    rw [hfx] at hcl
    have e0:=hst.cell hcl.1 hb2
    have e1:=hst.cell hcl.2 hb2
    dsimp only at e0 e1
    have hlt':(i:Int)<9:=Lb
    obtain ⟨W2,hW2⟩:∃W2,wr.alloc (.cells #[.int .i64 fa,.int .i64 fn'] 142)=W2:=⟨_,rfl⟩
    have hbd:∀b,O1 b→b<wr.heap.size:=fun b hb=>(hgr b hb).1
    have hBl:W.heap.size≤wr.heap.size:=hst.size
    have j2:J (Wm i) W2 O1:=by rw [←hW2];exact hJ.alloc hj hbd hBl _
    have st2:Stp O W W2:=by rw [←hW2];exact hst.alloc _
    have gr2:Grw O O1 W W2:=fun x hx=>⟨by rw [←hW2,World.size_alloc];have:=hbd x hx;omega,(hgr x hx).2⟩
    have hnew:W2.heap[wr.heap.size]?=some (.cells #[.int .i64 fa,.int .i64 fn'] 142 (0,0)):=by rw [←hW2];exact heap_alloc_new wr _
    have HB2:=Lib.hid (show ∀b,O1 b→b<W2.heap.size from fun b hb=>(gr2 b hb).1)
    have HJ2:=Lib.hid j2;have HS2:=Lib.hid st2;have HG2:=Lib.hid gr2;have HNW:=Lib.hid hnew
    have g1:W2.cell? ⟨bx,0,none⟩=some (.slice (some ⟨b,0,none⟩) 9 9):=HS2.out.cell c1 hb1
    have hi1c:i+1≤9:=Lb
    have hi1d:(i:Int)+1≤9:=Lb
    have hi1e:(0:Int)≤(i:Int)+1:=Lb
    by_cases hi8:i=8
    · subst hi8
      clear hj j2 st2 gr2 hnew hcl
      gi_wp2
      obtain ⟨w3,rfl⟩:∃x,x=wr:=⟨_,rfl⟩
      gi_loopw [19] (fun s19 wr=>s19=.int .i64 0∧wr=W2) (fun s19 _=>0)
      case atStart=>exact ⟨rfl,rfl⟩
      case round=>
       obtain ⟨rfl,rfl⟩:=hrel
       gi_wp2
       exact ⟨⟨9,O1,Lb,rfl,HJ2.out,HS2.out,HG2.out⟩,by simp [intOf]⟩
    have hn9:¬9=i+1:=Lb
    clear hj j2 st2 gr2 hnew hcl
    gi_wp2
    obtain ⟨n,hnn⟩:∃n,8 - i=n:=⟨_,rfl⟩
    have hn8:n=8 - i:=Lb
    have HN:=Lib.hid hn8
    rw [hnn]
    clear hnn hn8
    obtain ⟨w3,rfl⟩:∃x,x=wr:=⟨_,rfl⟩
    gi_loopw [19] (fun s19 wr=>∃(j:Nat) (O2:Blk),j≤n∧s19=.int .i64 j∧J (Wm i+j) wr O2∧Stp O W wr∧Grw O O2 W wr∧Stp O1 W2 wr∧Grw O1 O2 W2 wr) (fun s19 _=>n - (intOf s19).toNat)
    case atStart=>exact ⟨0,O1,Nat.zero_le _,rfl,HJ2.out,HS2.out,HG2.out,Stp.refl _ _,Grw.refl HB2.out⟩
    case round=>
     obtain ⟨j,O2,hjn,rfl,hj,hst2,hgr2,hst3,hgr3⟩:=hrel
     by_cases hjl:j<n
     · have hjl':(j:Int)<(n:Int):=Lb
       have hj0:(0:Int)≤(j:Int):=Lb
       have hj8:(j:Int)+1≤9:=by have:=HN.out;omega
       obtain ⟨⟨ga,gn⟩,hgx⟩:∃x,Qc.getD (i+1+j) (0,0)=x:=⟨_,rfl⟩
       have hcl:=HF.out (i+1+j) _ (Yl (by have:=HN.out;omega))
       rw [hgx,show (i+1+j)*2=(i+1)*2+j*2 by omega] at hcl
       have x0:=hst2.cell hcl.1 hb2
       have x1:=hst2.cell hcl.2 hb2
       dsimp only at x0 x1
       have hpr:=Q8B i hlt j (by have:=HN.out;omega)
       rw [hfx,hgx] at hpr
       have hO1n:¬O1 w3.heap.size:=fun h=>by have:=hbd _ h;omega
       have hnw:=hst3.at HNW.out hO1n
       have y0:=cell_of (i:=0) hnw rfl
       have y1:=cell_of (i:=1) hnw rfl
       have hbd2:∀b,O2 b→b<wr.heap.size:=fun b hb=>(hgr2 b hb).1
       obtain ⟨W4,hW4⟩:∃W4,wr.alloc (.cells #[.int .i64 ga,.int .i64 gn] 142)=W4:=⟨_,rfl⟩
       have j4:J (Wm i+j) W4 O2:=by rw [←hW4];exact hJ.alloc hj hbd2 hst2.size _
       have st4:Stp O W W4:=by rw [←hW4];exact hst2.alloc _
       have st5:Stp O1 W2 W4:=by rw [←hW4];exact hst3.alloc _
       have gr5:Grw O1 O2 W2 W4:=fun x hx=>⟨by rw [←hW4,World.size_alloc];have:=hbd2 x hx;omega,(hgr3 x hx).2⟩
       have gr4:Grw O O2 W W4:=fun x hx=>⟨by rw [←hW4,World.size_alloc];have:=hbd2 x hx;omega,(hgr2 x hx).2⟩
       have y2:W4.cell? ⟨w3.heap.size,0,none⟩=some (.int .i64 fa):=by rw [←hW4];exact cell_of (i:=0) (Qh hnw _) rfl
       have y3:W4.cell? ⟨w3.heap.size,1,none⟩=some (.int .i64 fn'):=by rw [←hW4];exact cell_of (i:=1) (Qh hnw _) rfl
       have y4:W4.cell? ⟨wr.heap.size,0,none⟩=some (.int .i64 ga):=by rw [←hW4];exact cell_of (i:=0) (heap_alloc_new wr _) rfl
       have y5:W4.cell? ⟨wr.heap.size,1,none⟩=some (.int .i64 gn):=by rw [←hW4];exact cell_of (i:=1) (heap_alloc_new wr _) rfl
       obtain ⟨fn,tmps,assign,body,hy,hR⟩:=(HY.out _ _ W4 O2 hpr j4 (fun b hb=>(gr4 b hb).1)).at 2
       unfold Q3t fVal at hy
       dsimp only at hy
       have HS4:=Lib.hid st4;have HS5:=Lib.hid st5;have HG4:=Lib.hid gr4;have HG5:=Lib.hid gr5
       clear hj hpr hcl hnw j4 st4 st5 gr4 gr5 hgx y0 y1
       gi_wp2
       refine hR.mono ?_
       rintro e W5 (⟨rfl,O3,hj2,hst4,hgr4⟩|⟨rfl,O3,hj2,hst4,hgr4⟩)
       · have S2:Stp O W W5:=HS4.out.then hst4 (fun x hx=>(HG4.out x hx).2)
         have S3:Stp O1 W2 W5:=HS5.out.then hst4 (fun x hx=>(HG5.out x hx).2)
         have G3:Grw O1 O3 W2 W5:=HG5.out.then HS5.out.size hgr4
         have G2:Grw O O3 W W5:=HG4.out.then HS4.out.size hgr4
         clear hy
         gi_wp2
         go_roundw
         case rel=>exact ⟨j+1,O3,Lb,by go_num,hj2,S2,G2,S3,G3⟩
         case measure=>simp [intOf];omega
       · have S2:Stp O W W5:=HS4.out.then hst4 (fun x hx=>(HG4.out x hx).2)
         have G2:Grw O O3 W W5:=HG4.out.then HS4.out.size hgr4
         clear hy
         gi_wp2
         refine bodyPost_ret (results_none rfl _ _ _) rfl ?_
         have hk36:Wm i+j+1≤36:=by
          have hj':j<8 - i:=by have:=HN.out;omega
          have h36:∀i<9,∀j<8 - i,Wm i+j+1≤36:=by decide
          exact h36 i hlt j hj'
         exact ⟨⟨_,rfl⟩,.inr ⟨Wm i+j+1,O3,hk36,hj2,S2,G2⟩⟩
     · obtain rfl:j=n:=Lb
       have hge:¬(j:Int)<(j:Int):=Lb
       gi_wp2
       have e2:Wm (i+1)=Wm i+j:=by rw [Q4A i hlt];have:=HN.out;omega
       refine ⟨⟨i+1,O2,Lb,by go_num,by rw [e2];exact hj,hst2,hgr2⟩, ?_⟩
       simp [intOf];omega
  · obtain rfl:i=9:=Lb
    gi_wp2
    go_end0
    exact ⟨⟨_,rfl⟩,.inl ⟨O1,hj,hst,hgr⟩⟩
theorem Q4z (w:World) (b:Nat):Calls Tryz.prog 205 #[.slice (some ⟨b,0,none⟩) 9 9] w fun e w'=>
 ∃bx,e=.returned (.func (.func 246) #[] #[.pointer (some ⟨bx,0,none⟩)])∧w'.cell? ⟨bx,0,none⟩=some (.slice (some ⟨b,0,none⟩) 9 9)∧Fr [] w w':=by
 have F1:=Lib.hid ((Fr.refl [] w).alloc (.cells #[.slice (some ⟨b,0,none⟩) 9 9] 145))
 have hc:=Lib.hid (cell_of (i:=0) (heap_alloc_new w (.cells #[.slice (some ⟨b,0,none⟩) 9 9] 145)) rfl)
 go_in
 go_wp2
 go_ret
 exact ⟨_,rfl,hc.out,F1.out⟩
def fmk (x:Nat×Nat):Nat:=(2 ^ x.2 - 1)*2 ^ x.1
theorem Q16:∀x∈prs Qc,fmk x.1&&& fmk x.2=0:=by decide
theorem GK:∀x∈Qc,fmk x<9223372036854775808:=by decide
theorem Ev:∀x∈prs Qc,x.1∈Qc∧x.2∈Qc:=by decide
def Q3F (w2:World):Nat→World→Blk→Prop:=fun _ W O=>O=(fun _=>False)∧Stp (fun _=>False) w2 W
theorem Q3F.stable (w2:World):Stable w2.heap.size (Q3F w2):=by
 rintro k W _ W' ⟨rfl,hs⟩ e1 e2 e3 e4 e5
 exact ⟨rfl,⟨e1.trans hs.os,e2.trans hs.tape,e3.trans hs.output,Nat.le_trans hs.size e4,fun b hb hn=>(e5 b (.inr hb)).trans (hs.block b hb hn)⟩⟩
theorem Q5C (w:World) (b:Nat) (hb:Qe w b Qc):Calls Tryz.prog 143 #[.slice (some ⟨b,0,none⟩) 9 9] w fun e w'=>e=.returned (.bool true)∧Fr [] w w':=by
 have HR:=Lib.hid fun (w':World) (a n:Nat) (h:FOk a n)=>Yw w' a n h
 have HK:=Lib.hid fun (w':World) (a n:Nat) (h:FOk a n)=>K7 w' a n h
 have HF:=Lib.hid hb
 refine (callsIn_wide (n:=3)).1 (callsIn_of_wp_marks Tryz.func143 rfl trivial (wpIn_wide.2 ?_) rfl)
 simp only [Tryz.ntmps143,List.size_toArray,List.length_cons,List.length_nil,Nat.reduceAdd,Nat.reduceSub,Array.replicate_succ,Array.replicate_zero,List.push_toArray,List.append_toArray,List.nil_append,List.cons_append]
 obtain ⟨w1,hw1⟩:∃x,w.alloc (.cells #[.bool false] 4)=x:=⟨_,rfl⟩
 have hc1:w1.heap[w.heap.size]?=some (.cells #[.bool false] 4 (0,0)):=by rw [←hw1];exact heap_alloc_new w _
 have f1:Fr [] w w1:=by rw [←hw1];exact (Fr.refl _ w).alloc _
 have F1:=Lib.hid f1;have HC1:=Lib.hid hc1;clear f1 hc1 hb
 go_wp2_with fail
 go_loopw [9] (fun s9 wr=>∃i:Nat,i≤9∧s9=.int .i64 i∧Fr [] w1 wr) (fun s9 _=>9 - (intOf s9).toNat)
 case atStart=>exact ⟨0,Nat.zero_le _,rfl,Fr.refl _ _⟩
 case round=>
  obtain ⟨i,hi,rfl,f2⟩:=hrel
  by_cases hlt:i<9
  · obtain ⟨⟨fa,fn'⟩,hfx⟩:∃x,Qc.getD i (0,0)=x:=⟨_,rfl⟩
    have hg:=Yl hlt
    have hok:=Ur _ (List.mem_of_getElem? hg)
    have hcl:=HF.out i _ hg
    rw [hfx] at hcl hok
    have hbl:b<w.heap.size:=World.block_lt_of_cell? w _ hcl.1
    have F3:=Lib.hid (F1.out.trans f2)
    have e0:=F3.out.cell hcl.1 Lc
    have e1:=F3.out.cell hcl.2 Lc
    dsimp only at e0 e1
    have hlt':(i:Int)<9:=Lb
    have hi1e:(0:Int)≤(i:Int)+1:=Lb
    obtain ⟨W2,hW2⟩:∃W2,wr.alloc (.cells #[.int .i64 fa,.int .i64 fn'] 142)=W2:=⟨_,rfl⟩
    have y0:W2.cell? ⟨wr.heap.size,0,none⟩=some (.int .i64 fa):=by rw [←hW2];exact cell_of (i:=0) (heap_alloc_new wr _) rfl
    have y1:W2.cell? ⟨wr.heap.size,1,none⟩=some (.int .i64 fn'):=by rw [←hW2];exact cell_of (i:=1) (heap_alloc_new wr _) rfl
    have F4:=Lib.hid (show Fr [] w1 W2 by rw [←hW2];exact f2.alloc _)
    have HR2:=Lib.hid (HR.out W2 fa fn' hok)
    unfold fVal at HR2
    clear hcl hok hg f2
    go_wp2_with fail
    refine HR2.out.mono ?_
    rintro e w5 ⟨rfl,f5⟩
    have F5:=Lib.hid (F4.out.trans f5)
    clear f5
    go_wp2_with fail
    exact ⟨⟨i+1,Lb,by go_num,F5.out⟩,by simp [intOf];omega⟩
  · obtain rfl:i=9:=Lb
    have F3:=Lib.hid (F1.out.trans f2)
    have F2:=Lib.hid f2
    clear f2
    go_wp2_with fail
    refine (Q4z wr b).mono ?_
    rintro e w2 ⟨bx,rfl,hbx,f3⟩
    have f4:=F3.out.trans f3
    have HIT:=Q2m w2 bx b hbx (fun j x hx=>⟨f4.cell (HF.out j x hx).1 Lc,f4.cell (HF.out j x hx).2 Lc⟩)
    have HIT':=Lib.hid HIT
    have F4:=Lib.hid f4
    have hc2:=Lib.hid ((F2.out.trans f3).at HC1.out Lc)
    clear f4 f3 HIT hbx
    go_wp2_with fail
    refine Q3R (xs:=prs Qc) (enc:=Q3t) rfl ?eg HIT'.out (fun x=>rfl) (Q3F w2) (fun _ _ _ _=>False) (Q3F.stable w2) ?never (fun _=>False) (fun b hb=>hb.elim) (fun b _ h=>h) ⟨rfl,Stp.refl _ _⟩ ?round ?done ?stop
    case eg=>exact fun _ _=>rfl
    case never=>intro c k W O W' h;exact h.elim
    case round=>
     rintro l k ⟨⟨a1,n1⟩,a2,n2⟩ W1 O1 hx
     have hm:=List.mem_of_getElem? hx
     have HA:=Lib.hid (Ur _ (Ev _ hm).1)
     have HB:=Lib.hid (Ur _ (Ev _ hm).2)
     have hmm:=Q16 _ hm
     have hs1:=GK _ (Ev _ hm).1
     have hs2:=GK _ (Ev _ hm).2
     have HM:=Lib.hid (show bits .and .i64 (((2 ^ n1 - 1)*2 ^ a1:Nat):Int) (((2 ^ n2 - 1)*2 ^ a2:Nat):Int)=0 by
      have:=YG (fmk (a1,n1)) (fmk (a2,n2)) hs1 hs2
      rw [hmm] at this
      exact this)
     have HK1:=Lib.hid fun (w':World)=>K7 w' a1 n1 HA.out
     have HK2:=Lib.hid fun (w':World)=>K7 w' a2 n2 HB.out
     generalize (2 ^ n1 - 1)*2 ^ a1=M1 at HM HK1
     generalize (2 ^ n2 - 1)*2 ^ a2=M2 at HM HK2
     unfold fVal at HK1 HK2
     clear hx hm hmm hs1 hs2
     simp only [Q3t,fVal,List.zip_toArray,List.zip_cons_cons,List.zip_nil_right,List.foldl_toArray',List.foldl_cons,List.foldl_nil,List.setIfInBounds_toArray,List.set_cons_zero,List.set_cons_succ]
     gi_wp2
     refine ⟨((Stp.refl _ W1).alloc _).alloc _, ?_⟩
     rintro W2 ⟨rfl,hst⟩ hb2 hsz2 hag
     have h5:=hag W1.heap.size (Nat.le_refl _)
     have h6:=hag (W1.heap.size+1) Lb
     rw [show ((W1.alloc (Obj.cells #[Value.int IntKind.i64 ↑a1,Value.int IntKind.i64 ↑n1] 142)).alloc (Obj.cells #[Value.int IntKind.i64 ↑a2,Value.int IntKind.i64 ↑n2] 142)).heap[W1.heap.size]?=some (.cells #[Value.int IntKind.i64 ↑a1,Value.int IntKind.i64 ↑n1] 142 (0,0)) from Qh (heap_alloc_new W1 _) _] at h5
     rw [show ((W1.alloc (Obj.cells #[Value.int IntKind.i64 ↑a1,Value.int IntKind.i64 ↑n1] 142)).alloc (Obj.cells #[Value.int IntKind.i64 ↑a2,Value.int IntKind.i64 ↑n2] 142)).heap[W1.heap.size+1]?=some (.cells #[Value.int IntKind.i64 ↑a2,Value.int IntKind.i64 ↑n2] 142 (0,0)) by have:=heap_alloc_new (W1.alloc (Obj.cells #[Value.int IntKind.i64 ↑a1,Value.int IntKind.i64 ↑n1] 142)) (Obj.cells #[Value.int IntKind.i64 ↑a2,Value.int IntKind.i64 ↑n2] 142);rwa [World.size_alloc] at this] at h6
     obtain ⟨p5,hp5⟩:∃x,W1.heap.size=x:=⟨_,rfl⟩
     rw [hp5] at h5 h6 ⊢
     have hd5:=(show W2.drew.heap[p5]?=_ from h5);have hd6:=(show W2.drew.heap[p5+1]?=_ from h6)
     have F6:=Lib.hid (Fr.refl [] W2)
     have HST:=Lib.hid hst
     obtain ⟨g0,g1,g2,g3⟩:W2.drew.cell? ⟨p5,0,none⟩=some (.int .i64 a1)∧W2.drew.cell? ⟨p5,1,none⟩=some (.int .i64 n1)∧W2.drew.cell? ⟨p5+1,0,none⟩=some (.int .i64 a2)∧W2.drew.cell? ⟨p5+1,1,none⟩=some (.int .i64 n2):=⟨cell_of (i:=0) hd5 rfl,cell_of (i:=1) hd5 rfl,cell_of (i:=0) hd6 rfl,cell_of (i:=1) hd6 rfl⟩
     have hHeld:W2.drew.cell? ⟨p5,0,none⟩=some (.int .i64 a1)∧W2.drew.cell? ⟨p5,1,none⟩=some (.int .i64 n1)∧W2.drew.cell? ⟨p5+1,0,none⟩=some (.int .i64 a2)∧W2.drew.cell? ⟨p5+1,1,none⟩=some (.int .i64 n2):=⟨g0,g1,g2,g3⟩
     have hmix:Tryz.prog.follows .mixedOrders=true:=rfl
     clear g0 g1 g2 g3 hd5 hd6 h5 h6 hag hst
     gi_wp2_with fail
     refine KT (S:=fun w'=>w'.cell? ⟨p5,0,none⟩=some (.int .i64 a1)∧w'.cell? ⟨p5,1,none⟩=some (.int .i64 n1)∧w'.cell? ⟨p5+1,0,none⟩=some (.int .i64 a2)∧w'.cell? ⟨p5+1,1,none⟩=some (.int .i64 n2)) hmix Lc ?_
     refine tk 0 ?_
     refine tk 2 ?_
     refine wpAnyH_ready (rs:=[1]) (by kernel_rfl) Lc ?_
     refine AllReadyH.cons (o:=_) rfl (fun K hK=> ?_) AllReadyH.nil
     · simp only [List.getElem_toArray,List.getElem_cons_succ,List.getElem_cons_zero]
       go_simp
       refine (HK1.out _).mono ?_
       rintro en w7 ⟨rfl,f7⟩
       go_wp2_with fail
       refine hK.out _ _ ⟨f7.cell hHeld.1 Lc,f7.cell hHeld.2.1 Lc,f7.cell hHeld.2.2.1 Lc,f7.cell hHeld.2.2.2 Lc⟩ (fun hHeld=> ?_)
       clear hK K
       try go_frame
       refine tc 3 (fun K hK=> ?_)
       go_simp
       refine (HK2.out _).mono ?_
       rintro en w8 ⟨rfl,f8⟩
       go_wp2_with fail
       refine hK.out _ _ ⟨f8.cell hHeld.1 Lc,f8.cell hHeld.2.1 Lc,f8.cell hHeld.2.2.1 Lc,f8.cell hHeld.2.2.2 Lc⟩ (fun hHeld=> ?_)
       clear hK K
       try go_frame
       refine tk 4 ?_
       rw [HM.out]
       refine tk 5 ?_
       refine wpAnyH_done (by kernel_rfl) ?_ _
       dsimp only [Q6C]
       have FQ:=Lib.hid (((Stp.Z9 F6.out).drew.then (Stp.Z9 f7) (fun x hx=>by simp at hx)).then (Stp.Z9 f8) (fun x hx=>by simp at hx))
       clear f7 f8 hHeld
       gi_wp2
       have S9:=HST.out.then FQ.out (fun x hx=>by simp at hx)
       exact ⟨fun _=>False,FQ.out.mono (fun x hx=>by simp at hx),fun x hx=>hx.elim,rfl,S9⟩
    case done=>
     rintro D W' O' hD ⟨rfl,hst⟩ _ _ hK hnD
     have hr1:=hst.at hc2.out (fun h=>h)
     have q2:W'.frozen? ⟨w.heap.size,0,none⟩=false:=Qb hr1
     have q3:W'.cell? ⟨w.heap.size,0,none⟩=some (.bool false):=cell_of (i:=0) hr1 rfl
     have hDr:D≠w.heap.size:=fun h=>by have:=Q9 hc2.out;omega
     have c1:=heap_setCell_same (i:=0) hr1 (.bool true)
     have hr:((W'.setCell ⟨w.heap.size,0,none⟩ (.bool true)).putObj D (.deferred none)).cell? ⟨w.heap.size,0,none⟩=some (.bool true):=by
      refine cell_of (i:=0) (c:=#[.bool true]) (t:=4) (z:=(0,0)) ?_ rfl
      rw [World.putObj_heap_other (fun e=>hDr e.symm)]
      simpa using c1
     have hK2:(W'.setCell ⟨w.heap.size,0,none⟩ (.bool true)).heap[D]?=some (.deferred (some [])):=(Below.heap_setCell _ _ _ _ hDr).trans hK
     have fin:Fr [] w ((W'.setCell ⟨w.heap.size,0,none⟩ (.bool true)).putObj D (.deferred none)):=((((Stp.Z9 F4.out).then hst (fun x hx=>hx.elim)).setCell (p:=⟨w.heap.size,0,none⟩) (.inr (Nat.le_refl _)) _).putObj (.inr (by have:=F4.out.size;omega)) _).Gq (fun x hx=>by simp at hx)
     have FIN:=Lib.hid fin;have HRR:=Lib.hid hr;have HKK:=Lib.hid hK2;clear fin hr hK2 hst c1 hr1
     go_wp2
     refine Xv (.bool true) HKK.out ?_ ?_
     · have hr3:=HRR.out
       simp [results,Tryz.f143,go_sem,hr3]
     · exact ⟨rfl,FIN.out⟩
    case stop=>exact fun _ _ _ _ _ _ _ h=>h.elim
end
end Go.Proofs.YtgjklfmnmljilaaGreatDoor

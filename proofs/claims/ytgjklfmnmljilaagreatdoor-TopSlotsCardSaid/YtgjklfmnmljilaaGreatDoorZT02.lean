/- A part of the proof: IterEQP to LineBQP. -/
import Derived.Test.YtgjklfmnmljilaaGreatDoorZT01
import Derived.Test.YtgjklfmnmljilaaGreatDoorRows
import Derived.BigQuiet
import Derived.Deep.QuietTactic
import Derived.Lib.Hide
import Derived.LoopIn
import Derived.LoopNIn
import Derived.Outline
import Derived.OwnWalkIn
import Derived.RangeFuncBound
import Derived.RangeFuncBox
import Derived.RangeFuncCalls
import Derived.RangeFuncRecord
import Derived.Shelf.Abstract
import Derived.Shelf.RegionOpen
import Derived.TacticsInMore
import Derived.WalkKit
import Derived.WalkLawsBesides
import Derived.WalkSpells
namespace Go.Proofs.YtgjklfmnmljilaaGreatDoor
set_option linter.unusedVariables false
set_option linter.unusedSimpArgs false
set_option linter.unusedSectionVars false
set_option linter.unnecessarySimpa false
set_option maxRecDepth 100000
set_option maxHeartbeats 8000000
section
open Go.RowKit
def Jv (B:Nat) (E:Blk) (J:Nat→World→Blk→Prop):Prop:=
 ∀k W O W',J k W O→W'.os=W.os→W'.tape=W.tape→W'.output=W.output→W.heap.size≤W'.heap.size→(∀b,(O b∨(b<B∧¬E b))→W'.heap[b]?=W.heap[b]?)→J k W' O
theorem Jv.mono {B B':Nat} {E:Blk} {J:Nat→World→Blk→Prop} (h:Jv B E J) (hB:B≤B'):Jv B' E J:=
 fun k W O W' hj h1 h2 h3 h4 h5=>h k W O W' hj h1 h2 h3 h4 (fun b hb=>h5 b (hb.imp id (fun hlt=>⟨by omega,hlt.2⟩)))
theorem Jv.setCell {B:Nat} {E:Blk} {J:Nat→World→Blk→Prop} (h:Jv B E J) {k:Nat} {W:World} {O:Blk} {l i:Nat} (hj:J k W O) (hl:¬O l) (hB:B≤l∨E l) (v:Value):J k (W.setCell ⟨l,i,none⟩ v) O:=
 h k W O _ hj rfl rfl rfl (by simp [World.setCell]) (fun b hb=>Below.heap_setCell _ _ _ _ (fun e=>by
   have e':b=l:=e
   subst e'
   rcases hb with h1|h1
   · exact hl h1
   · rcases hB with h2|h2
     · omega
     · exact h1.2 h2))
theorem Jv.putObj {B:Nat} {E:Blk} {J:Nat→World→Blk→Prop} (h:Jv B E J) {k:Nat} {W:World} {O:Blk} {l:Nat} (hj:J k W O) (hl:¬O l) (hB:B≤l) (o:Obj):J k (W.putObj l o) O:=
 h k W O _ hj rfl rfl rfl (by simp) (fun b hb=>World.putObj_heap_other (fun e=>by subst e;rcases hb with h1|h1;exact hl h1;omega))
theorem Jv.alloc {B:Nat} {E:Blk} {J:Nat→World→Blk→Prop} (h:Jv B E J) {k:Nat} {W:World} {O:Blk} (hj:J k W O) (hO:∀b,O b→b<W.heap.size) (hB:B≤W.heap.size) (o:Obj):J k (W.alloc o) O:=
 h k W O _ hj rfl rfl rfl (by simp) (fun b hb=>Below.heap_alloc _ _ _ (by rcases hb with h1|h1;exact hO b h1;omega))
theorem Jv.never {B:Nat} {E:Blk}:Jv B E (fun _ _ _=>False):=fun _ _ _ _ h _ _ _ _ _=>h
def Q5U (E:Blk) (T:Nat→World→Prop) (tick:Nat→Nat) (tend:Nat) (J Jx:Nat→World→Blk→Prop) (n:Nat) (O:Blk) (W:World) (e:Ending) (W':World):Prop:=
 (∃v,e=.returned v)∧((∃O',J n W' O'∧T tend W'∧Stp (fun b=>O b∨E b) W W'∧Grw O O' W W')∨(∃k O',k<n∧Jx (k+1) W' O'∧T (tick k) W'∧Stp (fun b=>O b∨E b) W W'∧Grw O O' W W'))
def Ed {α:Type} (P:Program) (w:World) (C E:Blk) (T:Nat→World→Prop) (tick:Nat→Nat) (tend:Nat) (g:FuncId) (lb:Array Value) (enc:α→Array Value) (xs:List α):Prop:=
 (∀b,C b∨E b→b<w.heap.size)∧(∀(j:Nat) (W W':World),T j W→(∀b,E b→W'.heap[b]?=W.heap[b]?)→T j W')∧
 ∀(W:World) (l:Nat) (O:Blk) (J Jx:Nat→World→Blk→Prop),
  w.heap.size≤W.heap.size→(∀b,C b∨E b→W.heap[b]?=w.heap[b]?)→(∀b,C b∨E b→¬O b)→(∀b,O b→b<W.heap.size)→Jv W.heap.size E J→Jv W.heap.size E Jx→
  (∀k x W1 O1,xs[k]?=some x→J k W1 O1→T (tick k) W1→(∀b,O1 b→b<W1.heap.size)→Q08 P l (enc x) W1 fun e W2=>
    (e=.returned (.bool true)∧∃O2,J (k+1) W2 O2∧Stp O1 W1 W2∧Grw O1 O2 W1 W2)∨
    (e=.returned (.bool false)∧∃O2,Jx (k+1) W2 O2∧Stp O1 W1 W2∧Grw O1 O2 W1 W2))→
  J 0 W O→
  Calls P g (#[.func (.yield l) #[] #[]]++lb) W (Q5U E T tick tend J Jx xs.length O W)
theorem Ed.later {α:Type} {P:Program} {w w':World} {C E:Blk} {T:Nat→World→Prop} {tick:Nat→Nat} {tend:Nat} {g:FuncId} {lb:Array Value} {enc:α→Array Value} {xs:List α} (h:Ed P w C E T tick tend g lb enc xs)
 (hs:w.heap.size≤w'.heap.size) (hC:∀b,C b∨E b→w'.heap[b]?=w.heap[b]?):Ed P w' C E T tick tend g lb enc xs:=
 ⟨fun b hb=>Nat.lt_of_lt_of_le (h.1 b hb) hs,h.2.1,fun W l O J Jx h1 h2=>h.2.2 W l O J Jx (Nat.le_trans hs h1) (fun b hb=>(h2 b hb).trans (hC b hb))⟩
theorem VR {α:Type} {P:Program} {g:Operand} {ps:Array Tmp} {assign body:Code} {Q:Exit→Act→World→Prop} {a:Act} {w:World}
 {gf:Nat} {lb:Array Value} (hg:a.eval g=.func (.func gf) #[] lb) (eg:∀args w,(callFunc gf args).run P w=.ok (.enter gf args) w)
 {C:Blk} {enc:α→Array Value} {xs:List α} {E:Blk} {T:Nat→World→Prop} {tick:Nat→Nat} {tend:Nat} (hseq:Ed P w C E T tick tend gf lb enc xs) (hps:∀x,(enc x).size=ps.size)
 (I:Nat→World→Blk→Prop) (Ix:Code→Nat→World→Blk→Prop) (hI:Jv w.heap.size E I) (hIx:∀c,Jv w.heap.size E (Ix c))
 (O:Blk) (hO:∀b,O b→b<w.heap.size) (hC:∀b,C b∨E b→¬O b) (h0:I 0 w O)
 (hround:∀(l k:Nat) (x:α) (W:World) (O:Blk),xs[k]?=some x→assign.wpIn (Fence.wide.inRound l) 0 P (Exit.then (Q88 P l body w.heap.size I Ix k O W) (fun _ _ _=>False)) {tmps:=(ps.zip (enc x)).foldl (fun t (p,v)=>t.setIfInBounds p v) a.tmps,defers:=[]} W)
 (hdone:∀(D:Nat) (W':World) (O':Blk),w.heap.size≤D→I xs.length W' O'→T tend W'→Stp (fun b=>O b∨E b) w W'→Grw O O' w W'→W'.heap[D]?=some (.deferred (some []))→¬O' D→Q .normal {a with defers:={target:=.collected D,args:=#[]}::a.defers} W')
 (hstop:∀(D:Nat) (c:Code) (k:Nat) (W':World) (O':Blk),w.heap.size≤D→k<xs.length→Ix c (k+1) W' O'→T (tick k) W'→Stp (fun b=>O b∨E b) w W'→Grw O O' w W'→W'.heap[D]?=some (.deferred (some []))→¬O' D→c.wp P Q {a with defers:={target:=.collected D,args:=#[]}::a.defers} W'):
 (Code.rangeFunc g ps assign body).wp P Q a w:=by
 refine (wpIn_wide (n:=0)).1 (wpIn_rangeFunc ?_)
 intro fn _
 obtain ⟨rec,hrec⟩:∃rec:LoopState→Option Code→Loop,rec=fun st pe=>{state:=st,pending:=pe,fn,tmps:=a.tmps,params:=ps,assign,body,defers:=w.heap.size}:=⟨_,rfl⟩
 obtain ⟨W1,hW1⟩:∃W1,(w.alloc (.deferred (some []))).alloc (.loop (rec .ready none))=W1:=⟨_,rfl⟩
 have hs1:W1.heap.size=w.heap.size+2:=by rw [←hW1];simp
 have hL1:W1.heap[w.heap.size+1]?=some (.loop (rec .ready none)):=by
  rw [←hW1];have:=World.alloc_heap_new (w.alloc (.deferred (some []))) (.loop (rec .ready none));rwa [World.size_alloc] at this
 have hK1:W1.heap[w.heap.size]?=some (.deferred (some [])):=by
  rw [←hW1];exact (Below.heap_alloc _ _ _ (by simp)).trans (World.alloc_heap_new w _)
 have hE:∀b,E b→b<w.heap.size:=fun b hb=>hseq.1 b (.inr hb)
 have hst1:Stp (fun b=>O b∨E b) w W1:=by rw [←hW1];exact ((Stp.refl _ w).alloc _).alloc _
 have hb1:∀b,b<w.heap.size→W1.heap[b]?=w.heap[b]?:=fun b hb=>by
  rw [←hW1];exact (Below.heap_alloc _ _ _ (by simp;omega)).trans (Below.heap_alloc _ _ _ hb)
 have hI1:I 0 W1 O:=by
  refine hI 0 w O W1 h0 hst1.os hst1.tape hst1.output hst1.size (fun b hb=>hb1 b ?_)
  rcases hb with h|h
  · exact hO b h
  · exact h.1
 have hnO:∀b,w.heap.size≤b→¬O b:=fun b hb ho=>by have:=hO b ho;omega
 refine ⟨w.heap.size+1,[{target:=.collected w.heap.size,args:=#[]}],W1,{target:=.fn (.func gf) lb,args:=#[.func (.yield (w.heap.size+1)) #[] #[]]},W1,gf,
  #[.func (.yield (w.heap.size+1)) #[] #[]]++lb,W1, ?_, ?_, ?_, ?_,fun h=>by simp [Fence.wide] at h, ?_⟩
 · rw [←hW1,hrec];exact run_enterLoop_outer _ _ _ _ _
 · simp only [resolve,hg]
   simp [go_sem]
 · intro f' _;trivial
 · simp [invoke,go_sem,eg]
 · refine callsIn_wide.2 ((hseq.2.2 W1 (w.heap.size+1) (fun b=>O b∨b=w.heap.size+1)
    (fun k W O1=>∃O0,O1=(fun b=>O0 b∨b=w.heap.size+1)∧I k W O0∧¬O0 (w.heap.size+1)∧¬O0 w.heap.size∧(∀b,O0 b→b<W.heap.size)∧W.heap[w.heap.size+1]?=some (.loop (rec .ready none))∧W.heap[w.heap.size]?=some (.deferred (some []))∧Stp (fun b=>O b∨E b) w W∧Grw O O0 w W)
    (fun k W O1=>∃c O0,O1=(fun b=>O0 b∨b=w.heap.size+1)∧Ix c k W O0∧¬O0 (w.heap.size+1)∧¬O0 w.heap.size∧(∀b,O0 b→b<W.heap.size)∧W.heap[w.heap.size+1]?=some (.loop (rec .done (some c)))∧W.heap[w.heap.size]?=some (.deferred (some []))∧Stp (fun b=>O b∨E b) w W∧Grw O O0 w W)
    (by omega) (fun b hb=>hb1 b (hseq.1 b hb)) (fun b hb ho=>by rcases ho with ho|ho;exact hC b hb ho;have:=hseq.1 b hb;omega)
    (fun b hb=>by rcases hb with hb|hb;have:=hO b hb;omega;omega) ?sJ ?sX ?round ⟨O,rfl,hI1,hnO _ (by omega),hnO _ (Nat.le_refl _),fun b hb=>by have:=hO b hb;omega,hL1,hK1,hst1,fun b hb=>⟨by have:=hO b hb;omega,.inl hb⟩⟩).mono ?back)
   case sJ=>
    rintro k W _ W' ⟨O0,rfl,hi,hl0,hk0,hbd,hl,hk,hst,hgr⟩ e1 e2 e3 e4 e5
    have hst':Stp (fun b=>O b∨E b) w W':=⟨e1.trans hst.os,e2.trans hst.tape,e3.trans hst.output,Nat.le_trans hst.size e4,fun b hb hn=>(e5 b (.inr ⟨by omega,fun h=>hn (.inr h)⟩)).trans (hst.block b hb hn)⟩
    refine ⟨O0,rfl,hI k W O0 W' hi e1 e2 e3 e4 (fun b hb=>e5 b ?_),hl0,hk0,fun b hb=>Nat.lt_of_lt_of_le (hbd b hb) e4,(e5 _ (.inl (.inr rfl))).trans hl,(e5 _ (.inr ⟨by omega,fun h=>by have:=hE _ h;omega⟩)).trans hk,hst',fun b hb=>⟨Nat.lt_of_lt_of_le (hbd b hb) e4,(hgr b hb).2⟩⟩
    rcases hb with h|h
    · exact .inl (.inl h)
    · exact .inr ⟨by omega,h.2⟩
   case sX=>
    rintro k W _ W' ⟨c,O0,rfl,hi,hl0,hk0,hbd,hl,hk,hst,hgr⟩ e1 e2 e3 e4 e5
    have hst':Stp (fun b=>O b∨E b) w W':=⟨e1.trans hst.os,e2.trans hst.tape,e3.trans hst.output,Nat.le_trans hst.size e4,fun b hb hn=>(e5 b (.inr ⟨by omega,fun h=>hn (.inr h)⟩)).trans (hst.block b hb hn)⟩
    refine ⟨c,O0,rfl,hIx c k W O0 W' hi e1 e2 e3 e4 (fun b hb=>e5 b ?_),hl0,hk0,fun b hb=>Nat.lt_of_lt_of_le (hbd b hb) e4,(e5 _ (.inl (.inr rfl))).trans hl,(e5 _ (.inr ⟨by omega,fun h=>by have:=hE _ h;omega⟩)).trans hk,hst',fun b hb=>⟨Nat.lt_of_lt_of_le (hbd b hb) e4,(hgr b hb).2⟩⟩
    rcases hb with h|h
    · exact .inl (.inl h)
    · exact .inr ⟨by omega,h.2⟩
   case round=>
    rintro k x W _ hx ⟨O0,rfl,hi,hl0,hk0,hbd,hl,hk,hst,hgr⟩ _ _
    have hlt:w.heap.size+1<W.heap.size:=(Array.getElem?_eq_some_iff.1 hl).1
    have hy:=run_yield (P:=P) (args:=enc x) hl (by rw [hrec];exact hps x)
    rw [hrec] at hy
    refine ⟨fn,_,assign,body,hy,roundIn_of_wpIn trivial (wpIn_mono (hround _ k x W O0 hx) ?_)⟩
    clear hy
    intro e a' W' he
    cases e with
    |normal=> ?_
    |exit id=>exact he.elim
    |goto t=>exact he.elim
    |ret=>exact he.elim
    |panic ch=>exact he.elim
    |outgrown=>exact he.elim
    obtain ⟨rfl,hbody⟩:=he
    refine ⟨_,run_beginRound hl (by rw [hrec]), ?_⟩
    obtain ⟨W2,hW2⟩:∃W2,W.putObj (w.heap.size+1) (.loop {rec .ready none with state:=.busy})=W2:=⟨_,rfl⟩
    rw [hW2]
    have hs2:W2.heap.size=W.heap.size:=by rw [←hW2];simp
    have hl2:W2.heap[w.heap.size+1]?=some (.loop {rec .ready none with state:=.busy}):=by rw [←hW2];exact World.putObj_heap_same hlt
    have hk2:W2.heap[w.heap.size]?=some (.deferred (some [])):=by rw [←hW2];exact (World.putObj_heap_other (by omega)).trans hk
    have hi2:I k W2 O0:=by rw [←hW2];exact hI.putObj hi hl0 (by omega) _
    have hst2:Stp (fun b=>O b∨E b) w W2:=by rw [←hW2];exact hst.putObj (.inr (by omega)) _
    have hstW:Stp (fun b=>O0 b∨b=w.heap.size+1) W W2:=by rw [←hW2];exact (Stp.refl _ _).putObj (.inl (.inr rfl)) _
    refine wpIn_mono (hbody W2 hi2 (fun b hb=>by rw [hs2];exact hbd b hb) hst2.size) ?_
    -- what any way out of the body owes
    have fin:∀(jump:Option Code) (W3:World) (O3:Blk),Stp O0 W2 W3→Grw O0 O3 W2 W3→∃W4,W4=W3.putObj (w.heap.size+1) (.loop (rec (if jump.isNone then .ready else .done) jump))∧
     (Instr.endRound (w.heap.size+1) jump).run P W3=.ok (.bool jump.isNone) W4∧¬O3 (w.heap.size+1)∧¬O3 w.heap.size∧(∀b,O3 b→b<W4.heap.size)∧
     W4.heap[w.heap.size+1]?=some (.loop (rec (if jump.isNone then .ready else .done) jump))∧W4.heap[w.heap.size]?=some (.deferred (some []))∧Stp (fun b=>O b∨E b) w W4∧Grw O O3 w W4∧
     Stp (fun b=>O0 b∨b=w.heap.size+1) W W4∧Grw (fun b=>O0 b∨b=w.heap.size+1) (fun b=>O3 b∨b=w.heap.size+1) W W4:=fun jump W3 O3 h3 g3=>by
     have hl3:=h3.at hl2 hl0
     have hk3:=h3.at hk2 hk0
     have he:=run_endRound (P:=P) jump hl3
     rw [hrec] at he ⊢
     have n1:¬O3 (w.heap.size+1):=fun hb=>by rcases (g3 _ hb).2 with h|h;exact hl0 h;omega
     have n0:¬O3 w.heap.size:=fun hb=>by rcases (g3 _ hb).2 with h|h;exact hk0 h;omega
     have s4:=h3.size
     have e4:(W3.putObj (w.heap.size+1) (.loop (rec (if jump.isNone then .ready else .done) jump))).heap.size=W3.heap.size:=by simp
     rw [hrec] at e4
     refine ⟨_,rfl,he,n1,n0,fun b hb=>by rw [e4];exact (g3 b hb).1,World.putObj_heap_same (Array.getElem?_eq_some_iff.1 hl3).1,(World.putObj_heap_other (by omega)).trans hk3, ?_, ?_, ?_, ?_⟩
     · exact (hst2.then h3 (fun b hb=>(hgr b hb).2.imp .inl id)).putObj (.inr (by omega)) _
     · intro b hb
       refine ⟨by rw [e4];exact (g3 b hb).1, ?_⟩
       rcases (g3 b hb).2 with h|h
       · exact (hgr b h).2
       · right;omega
     · exact (hstW.then h3 (fun b hb=>.inl (.inl hb))).putObj (.inl (.inr rfl)) _
     · intro b hb
       rcases hb with hb|hb
       · refine ⟨by rw [e4];exact (g3 b hb).1, ?_⟩
         rcases (g3 b hb).2 with h|h
         · exact .inl (.inl h)
         · right;omega
       · subst hb
         exact ⟨by rw [e4];omega,.inl (.inr rfl)⟩
    rintro e a3 W3 hp
    cases e with
    |normal=>
     obtain ⟨O3,h3,g3,hi3⟩:=hp
     obtain ⟨W4,e4,he,n1,n0,bd,l4,k4,s4,gr4,sW,gW⟩:=fin none W3 O3 h3 g3
     exact ⟨_,_,he,.inl ⟨rfl,_,⟨O3,rfl,by rw [e4];exact hI.putObj hi3 n1 (by omega) _,n1,n0,bd,l4,k4,s4,gr4⟩,sW,gW⟩⟩
    |ret=>
     obtain ⟨O3,h3,g3,hi3⟩:=hp
     obtain ⟨W4,e4,he,n1,n0,bd,l4,k4,s4,gr4,sW,gW⟩:=fin (some .ret) W3 O3 h3 g3
     exact ⟨_,_,he,.inr ⟨rfl,_,⟨.ret,O3,rfl,by rw [e4];exact (hIx _).putObj hi3 n1 (by omega) _,n1,n0,bd,l4,k4,s4,gr4⟩,sW,gW⟩⟩
    |exit id=>
     obtain ⟨O3,h3,g3,hi3⟩:=hp
     obtain ⟨W4,e4,he,n1,n0,bd,l4,k4,s4,gr4,sW,gW⟩:=fin (some (.exit id)) W3 O3 h3 g3
     exact ⟨_,_,he,.inr ⟨rfl,_,⟨.exit id,O3,rfl,by rw [e4];exact (hIx _).putObj hi3 n1 (by omega) _,n1,n0,bd,l4,k4,s4,gr4⟩,sW,gW⟩⟩
    |goto t=>
     obtain ⟨O3,h3,g3,hi3⟩:=hp
     obtain ⟨W4,e4,he,n1,n0,bd,l4,k4,s4,gr4,sW,gW⟩:=fin (some (.goto t)) W3 O3 h3 g3
     exact ⟨_,_,he,.inr ⟨rfl,_,⟨.goto t,O3,rfl,by rw [e4];exact (hIx _).putObj hi3 n1 (by omega) _,n1,n0,bd,l4,k4,s4,gr4⟩,sW,gW⟩⟩
    |panic ch=>exact hp.elim
    |outgrown=>exact hp.elim
   case back=>
    rintro e W2 ⟨⟨v,rfl⟩,(⟨_,⟨O0,rfl,hi,hl0,hk0,hbd,hl,hk,hst,hgr⟩,hT,_,_⟩|⟨k,_,hkx,⟨c,O0,rfl,hi,hl0,hk0,hbd,hl,hk,hst,hgr⟩,hT,_,_⟩)⟩
    · have he:=run_endLoop (P:=P) hl (by rw [hrec];simp)
      rw [hrec] at he
      refine ⟨none,_,he,hdone _ _ O0 (Nat.le_refl _) (hI.putObj hi hl0 (by omega) _) (hseq.2.1 _ _ _ hT (fun b hb=>World.putObj_heap_other (fun e=>by have:=hE b hb;omega))) (hst.putObj (.inr (by omega)) _) (fun b hb=>⟨by simpa using hbd b hb,(hgr b hb).2⟩) ((World.putObj_heap_other (by omega)).trans hk) hk0⟩
    · have he:=run_endLoop (P:=P) hl (by rw [hrec];simp)
      rw [hrec] at he
      refine ⟨some c,_,he,(wpIn_wide (n:=0)).2 (hstop _ c k _ O0 (Nat.le_refl _) hkx ((hIx c).putObj hi hl0 (by omega) _) (hseq.2.1 _ _ _ hT (fun b hb=>World.putObj_heap_other (fun e=>by have:=hE b hb;omega))) (hst.putObj (.inr (by omega)) _) (fun b hb=>⟨by simpa using hbd b hb,(hgr b hb).2⟩) ((World.putObj_heap_other (by omega)).trans hk) hk0)⟩
def X0 (w:World) (g:Option Addr) (L:List Int):Prop:=
 L.length≤9223372036854775807∧∀(j:Nat) (x:Int),L[j]?=some x→∃b o,g=some ⟨b,o,none⟩∧w.cell? ⟨b,o+j,none⟩=some (.int .i64 x)
theorem X0.empty (w:World) (g:Option Addr):X0 w g []:=⟨by simp,fun j x h=>by simp at h⟩
theorem X0.base {w:World} {g:Option Addr} {L:List Int} (h:X0 w g L) (hn:L≠[]):
 ∃b o,g=some ⟨b,o,none⟩∧∀(j:Nat) (x:Int),L[j]?=some x→w.cell? ⟨b,o+j,none⟩=some (.int .i64 x):=by
 cases L with
 |nil=>exact absurd rfl hn
 |cons a l=>
  obtain ⟨b,o,hg,_⟩:=h.2 0 a rfl
  refine ⟨b,o,hg,fun j x hx=> ?_⟩
  obtain ⟨b',o',hg',hc⟩:=h.2 j x hx
  rw [hg] at hg'
  simp only [Option.some.injEq,Addr.mk.injEq,and_true] at hg'
  obtain ⟨rfl,rfl⟩:=hg'
  exact hc
theorem X0.fr {S:List Nat} {w w':World} {g:Option Addr} {L:List Int} (h:X0 w g L) (f:Fr S w w') (hs:∀a,g=some a→a.block∉S):X0 w' g L:=
 ⟨h.1,fun j x hx=>let ⟨b,o,hg,hc⟩:=h.2 j x hx;⟨b,o,hg,f.cell hc (hs ⟨b,o,none⟩ hg)⟩⟩
theorem X0.drewN {w:World} {g:Option Addr} {L:List Int} (h:X0 w g L) (n:Nat):X0 (w.drewN n) g L:=h
theorem X0.Q91 {w:World} {base e n c:Nat} {g:Nat} {L:List Int} (h:w.ownsRow base e 1 (.slice (some ⟨g,0,none⟩) n c) n (L.map (Value.int .i64))):X0 w (some ⟨g,0,none⟩) L:=by
 have hl:L.length=n:=by have:=h.1;simpa using this
 refine ⟨?_,fun j x hx=>⟨g,0,rfl, ?_⟩⟩
 · rcases h.2 with ⟨h',_⟩|⟨g',cap',cur,h',_,hg,hl',hm,_⟩
   · simp at h'
   · simp only [Value.slice.injEq,Option.some.injEq,Addr.mk.injEq,and_true,true_and] at h'
     obtain ⟨rfl,rfl⟩:=h'
     unfold maxLen at hm
     omega
 · have hj:j<L.length:=(List.getElem?_eq_some_iff.1 hx).1
   have:=h.cellAt j (by omega)
   rw [Nat.zero_add,this,List.getElem?_map,hx]
   rfl
theorem X0.lit (w:World) (t:TypeId) (L:List Int) (h:L.length≤9223372036854775807):X0 (w.alloc (.cells (L.map (Value.int .i64)).toArray t)) (some ⟨w.heap.size,0,none⟩) L:=by
 refine ⟨h,fun j x hx=>⟨w.heap.size,0,rfl, ?_⟩⟩
 refine cell_of (heap_alloc_new w _) ?_
 simp [hx]
theorem Hr {L:List Int} {k:Nat} (h:k<L.length):L[k]?=some (L.getD k 0):=by
 simp [h]
end
section
open Go.RowKit Go.Shelf
attribute [local go_sem] Oper.semAt_some
def K7:Nat→Nat→List Int
 |0,_=>[]
 |f+1,n=>if n=0 then [] else ((n:Int) % 16 - 1)::K7 f (n / 16)
theorem Wo:∀(f n:Nat),n<16 ^ f→K7 (f+1) n=K7 f n
 |0,n,h=>by simp at h;simp [K7,h]
 |f+1,n,h=>by
  rw [K7,show K7 (f+1) n=if n=0 then [] else ((n:Int) % 16 - 1)::K7 f (n / 16) from rfl]
  split
  · rfl
  · rw [Wo f (n / 16) (by rw [Nat.div_lt_iff_lt_mul (by decide)];rw [Nat.pow_succ] at h;omega)]
def Zq (n:Nat):List Int:=K7 16 n
theorem digW_0:Zq 0=[]:=by simp [Zq,K7]
theorem Q5y {n:Nat} (h0:n≠0) (h:n<16 ^ 16):Zq n=((n:Int) % 16 - 1)::Zq (n / 16):=by
 unfold Zq
 rw [K7,if_neg h0,Wo 15 (n / 16) (by omega)]
theorem Wd:∀(f n:Nat),(K7 f n).length≤f
 |0,_=>by simp [K7]
 |f+1,n=>by
  rw [K7];split
  · simp
  · have:=Wd f (n / 16);simp;omega
theorem VJ (n:Nat):(Zq n).length≤16:=Wd 16 n
def UF (x:Int×Int):Array Value:=#[.int .i64 x.1,.int .i64 x.2]
def WC (n:Nat):List (Int×Int):=(Zq n).mapIdx fun i x=>((i:Int),x)
theorem Zb (n:Nat):(WC n).length=(Zq n).length:=by simp [WC]
theorem Q7v {n k:Nat} {x:Int} (h:(Zq n)[k]?=some x):(WC n)[k]?=some ((k:Int),x):=by simp [WC,h]
theorem Q1B (w:World) (b n:Nat) (hn:n<9223372036854775808) (h1:w.heap[b]?=some (.cells #[.int .i64 n] 3)):
 Ed Tryz.prog w (fun _=>False) (fun x=>x=b) (fun _ _=>True) id 0 261 #[.pointer (some ⟨b,0,none⟩)] UF (WC n):=by
 refine ⟨fun b' hb=> ?_,fun _ _ _ _ _=>trivial,fun W l O J Jx hs hC hCO hO hJ hJx hY h0=> ?_⟩
 · rcases hb with h|rfl
   · exact h.elim
   · exact Q6 h1
 have c1:W.heap[b]?=some (.cells #[.int .i64 n] 3):=(hC b (.inr rfl)).trans h1
 refine (callsIn_wide (n:=3)).1 (callsIn_of_wp Tryz.func261 rfl trivial ?_ rfl)
 simp only [Tryz.ntmps261,List.size_toArray,List.length_cons,List.length_nil,Nat.reduceAdd,Nat.reduceSub,Array.replicate_succ,Array.replicate_zero,List.push_toArray,List.append_toArray,List.nil_append,List.cons_append]
 have hb1:=hCO b (.inr rfl)
 have hlen:=Zb n
 have h16:=VJ n
 obtain ⟨len,hl⟩:∃len,len=(Zq n).length:=⟨_,rfl⟩
 rw [hlen,←hl]
 rw [←hl] at h16
 have hbs:=Q6 c1
 clear hlen hC hCO hs h1
 have HY:=Lib.hid hY;have HL:=Lib.hid hl;clear hY hl
 gi_wp2
 gi_loopw [3] (fun i wr=>∃(k m:Nat) (O1:Blk),k≤len∧m≤n∧(Zq n).drop k=Zq m∧i=.int .i64 k∧J k wr O1∧wr.heap[b]?=some (.cells #[.int .i64 m] 3)∧Stp (fun x=>O x∨x=b) W wr∧Grw O O1 W wr) (fun i _=>len - (intOf i).toNat)
 case atStart=>exact ⟨0,n,O,Nat.zero_le _,Nat.le_refl _,rfl,rfl,h0,c1,Stp.refl _ _,Grw.refl hO⟩
 case round=>
  obtain ⟨k,m,O1,hk,hm,hd,rfl,hj,hc,hst,hgr⟩:=hrel
  have q1:wr.cell? ⟨b,0,none⟩=some (.int .i64 m):=cell_of (i:=0) hc rfl
  have q2:wr.frozen? ⟨b,0,none⟩=false:=Q9 hc
  have HD:=Lib.hid hd;have HC:=Lib.hid hc;clear hd hc
  have hs1:=hst.size
  by_cases hm0:m=0
  · have hkl:k=len:=by
     have h2:=congrArg List.length HD.out
     rw [hm0,digW_0,List.length_drop,List.length_nil] at h2
     have:=HL.out;omega
    subst hm0
    gi_wp2
    go_end0
    refine ⟨⟨_,rfl⟩,.inl ⟨O1, ?_,trivial,hst,hgr⟩⟩
    rw [←hkl];exact hj
  · have hst16:=Q5y hm0 (by omega)
    have hx:(Zq n)[k]?=some ((m:Int) % 16 - 1):=by
     have h2:((Zq n).drop k)[0]?=some ((m:Int) % 16 - 1):=by rw [HD.out,hst16];rfl
     simpa using h2
    have hd2:(Zq n).drop (k+1)=Zq (m / 16):=by
     rw [←List.drop_drop,HD.out,hst16];rfl
    have hkl:k<len:=by have:=(List.getElem?_eq_some_iff.1 hx).1;have:=HL.out;omega
    obtain ⟨fn,tmps,assign,body,hy,hR⟩:=(HY.out k _ wr O1 (Q7v hx) hj trivial (fun b hb=>(hgr b hb).1)).at 2
    have HD2:=Lib.hid hd2;clear hd2 hx hst16
    unfold UF at hy
    have hm1:(0:Int)<(m:Int):=by omega
    gi_wp2
    refine hR.mono ?_
    rintro e W2 (⟨rfl,O2,hj2,hst2,hgr2⟩|⟨rfl,O2,hj2,hst2,hgr2⟩)
    · have hbO:¬O1 b:=fun hb=>by rcases (hgr b hb).2 with h|h;exact hb1 h;omega
      have S2:Stp (fun x=>O x∨x=b) W W2:=hst.then hst2 (fun x hx=>(hgr x hx).2.imp .inl id)
      have G2:Grw O O2 W W2:=hgr.then hst.size hgr2
      have c2:W2.heap[b]?=some (.cells #[.int .i64 m] 3):=hst2.at HC.out hbO
      have q3:W2.cell? ⟨b,0,none⟩=some (.int .i64 m):=cell_of (i:=0) c2 rfl
      have q4:W2.frozen? ⟨b,0,none⟩=false:=Q9 c2
      have hbO2:¬O2 b:=fun hb=>by rcases (G2 b hb).2 with h|h;exact hb1 h;omega
      clear hy
      gi_wp2
      have c3:=heap_setCell_same (i:=0) c2 (.int .i64 ((m:Int) / 16))
      refine ⟨⟨k+1,m / 16,O2,by omega,by omega,HD2.out,by go_num,hJ.setCell hj2 hbO2 (.inr rfl) _, ?_,S2.setCell (p:=⟨b,0,none⟩) (.inl (.inr rfl)) _,fun x hx=>⟨by simpa [World.setCell] using (G2 x hx).1,(G2 x hx).2⟩⟩,by simp [intOf];omega⟩
      simpa using c3
    · have S2:Stp (fun x=>O x∨x=b) W W2:=hst.then hst2 (fun x hx=>(hgr x hx).2.imp .inl id)
      have G2:Grw O O2 W W2:=hgr.then hst.size hgr2
      clear hy
      gi_wp2
      refine bodyPost_ret (results_none rfl _ _ _) rfl ?_
      exact ⟨⟨_,rfl⟩,.inr ⟨k,O2,hkl,hj2,trivial,S2,G2⟩⟩
theorem Xu {P:Program} {n:Nat} {fn:Func} {R:Ending→World→Prop} {tmps:Array Value} {D:Nat} {W:World} (v:Value) (hK:W.heap[D]?=some (.deferred (some [])))
 (hv:(results fn tmps).run P (W.putObj D (.deferred none))=.ok v (W.putObj D (.deferred none))) (hR:R (.returned v) (W.putObj D (.deferred none))):
 bodyPostM Fence.wide n P fn R .ret {tmps,defers:=[{target:=.collected D,args:=#[]}]} W:=by
 refine ⟨by simp,.inl ⟨_,_,rfl,run_takeDeferred hK, ?_⟩⟩
 exact ⟨v,hv,hR⟩
def Q9H (w:World) (n:Nat) (e:Ending) (w':World):Prop:=
 ∃(v:Value) (g:FuncId) (lb:Array Value),e=.returned v∧v=.func (.func g) #[] lb∧(∀args w,(callFunc g args).run Tryz.prog w=.ok (.enter g args) w)∧
  Ed Tryz.prog w' (fun _=>False) (fun x=>x=w.heap.size) (fun _ _=>True) id 0 g lb UF (WC n)∧Fr [] w w'∧w.heap.size<w'.heap.size
theorem Vg (w:World) (n:Nat) (hn:n<9223372036854775808):Calls Tryz.prog 244 #[.int .i64 (n:Int)] w (Q9H w n):=by
 go_in
 go_wp2
 go_ret
 exact ⟨_,_,_,rfl,rfl,fun _ _=>rfl,Q1B _ _ n hn (heap_alloc_new w _),(Fr.refl [] w).alloc _,by simp⟩
def Xd (w2:World) (E O0:Blk) (ob:Nat→Nat→Obj):Nat→World→Blk→Prop:=fun k W O=>
 O=O0∧(∀b,O0 b→W.heap[b]?=some (ob k b))∧Stp (fun x=>O0 x∨E x) w2 W
theorem Xd.stable (w2:World) (E O0:Blk) (ob:Nat→Nat→Obj) {B:Nat} (hB:w2.heap.size≤B):Jv B E (Xd w2 E O0 ob):=by
 rintro k W _ W' ⟨rfl,h1,hs⟩ e1 e2 e3 e4 e5
 refine ⟨rfl,fun b hb=>(e5 b (.inl hb)).trans (h1 b hb),⟨e1.trans hs.os,e2.trans hs.tape,e3.trans hs.output,Nat.le_trans hs.size e4,fun b hb hn=>(e5 b (.inr ⟨by omega,fun h=>hn (.inr h)⟩)).trans (hs.block b hb hn)⟩⟩
theorem Xd.next {w2 W2 W3:World} {E O0:Blk} {ob ob':Nat→Nat→Obj} {k k':Nat} (h:Xd w2 E O0 ob k W2 O0) (s:Stp O0 W2 W3) (h3:∀b,O0 b→W3.heap[b]?=some (ob' k' b)):
 ∃O',Stp O0 W2 W3∧Grw O0 O' W2 W3∧Xd w2 E O0 ob' k' W3 O':=
 ⟨O0,s,fun b hb=>⟨Q6 (h3 b hb),.inl hb⟩,rfl,h3,h.2.2.then s (fun x hx=>.inl (.inl hx))⟩
theorem Q9b (w:World) (n:Nat) (hn:n<9223372036854775808):Calls Tryz.prog 258 #[.int .i64 (n:Int)] w fun e w'=>e=.returned (.int .i64 ((Zq n).length:Int))∧Fr [] w w':=by
 refine (callsIn_wide (n:=3)).1 (callsIn_of_wp_marks Tryz.func258 rfl trivial (wpIn_wide.2 ?_) rfl)
 simp only [Tryz.ntmps258,List.size_toArray,List.length_cons,List.length_nil,Nat.reduceAdd,Nat.reduceSub,Array.replicate_succ,Array.replicate_zero,List.push_toArray,List.append_toArray,List.nil_append,List.cons_append]
 go_wp2_with fail
 refine (Vg _ n hn).mono ?_
 rintro e w2 ⟨v,g,lb,rfl,rfl,hg,hI,f2,hlt2⟩
 have hc0:=(Stp.Z9 f2).at (heap_alloc_new w (.cells #[.int .i64 0] 3)) (by simp)
 have F2:=((Fr.refl [] w).alloc (.cells #[.int .i64 0] 3)).trans f2
 simp only [World.size_alloc] at hI hlt2
 have h16:=VJ n
 have HG:=Lib.hid hg;have HI:=Lib.hid hI;have HC:=Lib.hid hc0;clear hg hI hc0 f2
 go_wp2
 refine VR (xs:=WC n) (enc:=UF) rfl HG.out HI.out (fun x=>rfl)
  (Xd w2 (fun x=>x=w.heap.size+1) (fun x=>x=w.heap.size) (fun k _=>.cells #[.int .i64 k] 3)) (fun _ _ _ _=>False) (Xd.stable _ _ _ _ (Nat.le_refl _)) (fun _=>Jv.never)
  (fun x=>x=w.heap.size) (fun b hb=>by show b<w2.heap.size;have:b=w.heap.size:=hb;omega) (fun b hb h=>by rcases hb with hb|hb;exact hb.elim;have:b=w.heap.size:=h;have:b=w.heap.size+1:=hb;omega) ⟨rfl,fun b hb=>by subst hb;exact HC.out,Stp.refl _ _⟩ ?round ?done ?stop
 case round=>
  intro l' k x W1 O1 hx
  have hk:k<16:=by have:=(List.getElem?_eq_some_iff.1 hx).1;rw [Zb] at this;omega
  clear hx
  simp only [UF,List.zip_toArray,List.zip_cons_cons,List.zip_nil_right,List.foldl_toArray',List.foldl_cons,List.foldl_nil,List.setIfInBounds_toArray,List.set_cons_zero,List.set_cons_succ]
  gi_wp2
  refine ⟨rfl, ?_⟩
  rintro W2 hJ hb2 hsz2
  obtain rfl:=hJ.1
  have hc:=hJ.2.1 _ rfl
  have q1:W2.cell? ⟨w.heap.size,0,none⟩=some (.int .i64 k):=cell_of (i:=0) hc rfl
  have q2:W2.frozen? ⟨w.heap.size,0,none⟩=false:=Q9 hc
  have fin:=hJ.next (W3:=W2.setCell ⟨w.heap.size,0,none⟩ (.int .i64 ((k:Int)+1))) (ob':=fun k _=>.cells #[.int .i64 k] 3) (k':=k+1) ((Stp.refl (fun x=>x=w.heap.size) W2).setCell (p:=⟨w.heap.size,0,none⟩) (.inl rfl) _) (fun b hb=>by
   subst hb
   have:=heap_setCell_same (i:=0) hc (.int .i64 ((k:Int)+1))
   simpa using this)
  have FIN:=Lib.hid fin;clear fin hJ hc
  gi_wp2
  exact FIN.out
 case done=>
  rintro D W' O' hD hJ _ hst _ hK hnD
  obtain rfl:=hJ.1
  have hc:=hJ.2.1 _ rfl
  rw [Zb] at hc
  have q1:W'.cell? ⟨w.heap.size,0,none⟩=some (.int .i64 ((Zq n).length:Int)):=cell_of (i:=0) hc rfl
  have fin:Fr [] w (W'.putObj D (.deferred none)):=(((Stp.Z9 F2).then hst (fun x hx=>by right;omega)).putObj (.inr (by have:=F2.size;omega)) _).GD (fun x hx=>by simp at hx)
  have FIN:=Lib.hid fin;clear fin hc hst hJ
  go_wp2
  exact EW (.int .i64 ((Zq n).length:Int)) hK (fun _=>results_tmp (t:=2) rfl _ _ _) ⟨rfl,FIN.out⟩
 case stop=>exact fun _ _ _ _ _ _ _ h=>h.elim
end
end Go.Proofs.YtgjklfmnmljilaaGreatDoor

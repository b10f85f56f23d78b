/- A range over a function that turns blocks of its own between two rounds (a captured count; a captured number that it takes apart). After XIter. For whatever program. -/
import Derived.Test.YtahkkodeppeknaaIter
namespace Go.Proofs.Ytahkkodeppeknaa
open Go.RowKit

/-- What the rounds know abides whatever becomes of blocks that are neither theirs, nor below B and none of E. -/
def StableE (B : Nat) (E : Blk) (J : Nat → World → Blk → Prop) : Prop :=
  ∀ k W O W', J k W O → W'.os = W.os → W'.tape = W.tape → W'.output = W.output → W.heap.size ≤ W'.heap.size → (∀ b, (O b ∨ (b < B ∧ ¬ E b)) → W'.heap[b]? = W.heap[b]?) → J k W' O
theorem StableE.mono {B B' : Nat} {E : Blk} {J : Nat → World → Blk → Prop} (h : StableE B E J) (hB : B ≤ B') : StableE B' E J :=
  fun k W O W' hj h1 h2 h3 h4 h5 => h k W O W' hj h1 h2 h3 h4 (fun b hb => h5 b (hb.imp id (fun hlt => ⟨by omega, hlt.2⟩)))
theorem StableE.sub {B : Nat} {E E' : Blk} {J : Nat → World → Blk → Prop} (h : StableE B E J) (hE : ∀ b, E' b → E b) : StableE B E' J :=
  fun k W O W' hj h1 h2 h3 h4 h5 => h k W O W' hj h1 h2 h3 h4 (fun b hb => h5 b (hb.imp id (fun hlt => ⟨hlt.1, fun he => hlt.2 (hE b he)⟩)))
theorem StableE.setCell {B : Nat} {E : Blk} {J : Nat → World → Blk → Prop} (h : StableE B E J) {k : Nat} {W : World} {O : Blk} {l i : Nat} (hj : J k W O) (hl : ¬ O l) (hB : B ≤ l ∨ E l) (v : Value) : J k (W.setCell ⟨l, i, none⟩ v) O :=
  h k W O _ hj rfl rfl rfl (by simp [World.setCell]) (fun b hb => Below.heap_setCell _ _ _ _ (fun e => by
    have e' : b = l := e
    subst e'
    rcases hb with h1 | h1
    · exact hl h1
    · rcases hB with h2 | h2
      · omega
      · exact h1.2 h2))
theorem StableE.putObj {B : Nat} {E : Blk} {J : Nat → World → Blk → Prop} (h : StableE B E J) {k : Nat} {W : World} {O : Blk} {l : Nat} (hj : J k W O) (hl : ¬ O l) (hB : B ≤ l) (o : Obj) : J k (W.putObj l o) O :=
  h k W O _ hj rfl rfl rfl (by simp) (fun b hb => World.putObj_heap_other (fun e => by subst e; rcases hb with h1 | h1; exact hl h1; omega))
theorem StableE.alloc {B : Nat} {E : Blk} {J : Nat → World → Blk → Prop} (h : StableE B E J) {k : Nat} {W : World} {O : Blk} (hj : J k W O) (hO : ∀ b, O b → b < W.heap.size) (hB : B ≤ W.heap.size) (o : Obj) : J k (W.alloc o) O :=
  h k W O _ hj rfl rfl rfl (by simp) (fun b hb => Below.heap_alloc _ _ _ (by rcases hb with h1 | h1; exact hO b h1; omega))
theorem StableE.never {B : Nat} {E : Blk} : StableE B E (fun _ _ _ => False) := fun _ _ _ _ h _ _ _ _ _ => h

/-- How such an iterator's call ends: all were told; or a round said 'no more'. 'T': what is known of the blocks of E. -/
def IterPostE (E : Blk) (T : Nat → World → Prop) (tick : Nat → Nat) (tend : Nat) (J Jx : Nat → World → Blk → Prop) (n : Nat) (O : Blk) (W : World) (e : Ending) (W' : World) : Prop :=
  (∃ v, e = .returned v) ∧ ((∃ O', J n W' O' ∧ T tend W' ∧ Stp (fun b => O b ∨ E b) W W' ∧ Grw O O' W W') ∨ (∃ k O', k < n ∧ Jx (k + 1) W' O' ∧ T (tick k) W' ∧ Stp (fun b => O b ∨ E b) W W' ∧ Grw O O' W W'))

/-- The function g, that has captured lb, tells xs to whatever rounds, where the blocks of C and E are as they are now; it turns those of E. -/
def IterE {α : Type} (P : Program) (w : World) (C E : Blk) (T : Nat → World → Prop) (tick : Nat → Nat) (tend : Nat) (g : FuncId) (lb : Array Value) (enc : α → Array Value) (xs : List α) : Prop :=
  (∀ b, C b ∨ E b → b < w.heap.size) ∧ (∀ (j : Nat) (W W' : World), T j W → (∀ b, E b → W'.heap[b]? = W.heap[b]?) → T j W') ∧
  ∀ (W : World) (l : Nat) (O : Blk) (J Jx : Nat → World → Blk → Prop),
    w.heap.size ≤ W.heap.size → (∀ b, C b ∨ E b → W.heap[b]? = w.heap[b]?) → (∀ b, C b ∨ E b → ¬ O b) → (∀ b, O b → b < W.heap.size) → StableE W.heap.size E J → StableE W.heap.size E Jx →
    (∀ k x W1 O1, xs[k]? = some x → J k W1 O1 → T (tick k) W1 → (∀ b, O1 b → b < W1.heap.size) → YieldW P l (enc x) W1 fun e W2 =>
      (e = .returned (.bool true) ∧ ∃ O2, J (k + 1) W2 O2 ∧ Stp O1 W1 W2 ∧ Grw O1 O2 W1 W2) ∨
      (e = .returned (.bool false) ∧ ∃ O2, Jx (k + 1) W2 O2 ∧ Stp O1 W1 W2 ∧ Grw O1 O2 W1 W2)) →
    J 0 W O →
    Calls P g (#[.func (.yield l) #[] #[]] ++ lb) W (IterPostE E T tick tend J Jx xs.length O W)

theorem IterE.later {α : Type} {P : Program} {w w' : World} {C E : Blk} {T : Nat → World → Prop} {tick : Nat → Nat} {tend : Nat} {g : FuncId} {lb : Array Value} {enc : α → Array Value} {xs : List α} (h : IterE P w C E T tick tend g lb enc xs)
    (hs : w.heap.size ≤ w'.heap.size) (hC : ∀ b, C b ∨ E b → w'.heap[b]? = w.heap[b]?) : IterE P w' C E T tick tend g lb enc xs :=
  ⟨fun b hb => Nat.lt_of_lt_of_le (h.1 b hb) hs, h.2.1, fun W l O J Jx h1 h2 => h.2.2 W l O J Jx (Nat.le_trans hs h1) (fun b hb => (h2 b hb).trans (hC b hb))⟩

/-- The law: 'for .. := range g { body }', g turning the blocks of E between two rounds. -/
theorem wp_rangeE {α : Type} {P : Program} {g : Operand} {ps : Array Tmp} {assign body : Code} {Q : Exit → Act → World → Prop} {a : Act} {w : World}
    {gf : Nat} {lb : Array Value} (hg : a.eval g = .func (.func gf) #[] lb) (eg : ∀ args w, (callFunc gf args).run P w = .ok (.enter gf args) w)
    {C : Blk} {enc : α → Array Value} {xs : List α} {E : Blk} {T : Nat → World → Prop} {tick : Nat → Nat} {tend : Nat} (hseq : IterE P w C E T tick tend gf lb enc xs) (hps : ∀ x, (enc x).size = ps.size)
    (I : Nat → World → Blk → Prop) (Ix : Code → Nat → World → Blk → Prop) (hI : StableE w.heap.size E I) (hIx : ∀ c, StableE w.heap.size E (Ix c))
    (O : Blk) (hO : ∀ b, O b → b < w.heap.size) (hC : ∀ b, C b ∨ E b → ¬ O b) (h0 : I 0 w O)
    (hround : ∀ (l k : Nat) (x : α) (W : World) (O : Blk), xs[k]? = some x → assign.wpIn (Fence.wide.inRound l) 0 P (Exit.then (BodyFrom P l body w.heap.size I Ix k O W) (fun _ _ _ => False)) { tmps := (ps.zip (enc x)).foldl (fun t (p, v) => t.setIfInBounds p v) a.tmps, defers := [] } W)
    (hdone : ∀ (D : Nat) (W' : World) (O' : Blk), w.heap.size ≤ D → I xs.length W' O' → T tend W' → Stp (fun b => O b ∨ E b) w W' → Grw O O' w W' → W'.heap[D]? = some (.deferred (some [])) → ¬ O' D → Q .normal { a with defers := { target := .collected D, args := #[] } :: a.defers } W')
    (hstop : ∀ (D : Nat) (c : Code) (k : Nat) (W' : World) (O' : Blk), w.heap.size ≤ D → k < xs.length → Ix c (k + 1) W' O' → T (tick k) W' → Stp (fun b => O b ∨ E b) w W' → Grw O O' w W' → W'.heap[D]? = some (.deferred (some [])) → ¬ O' D → c.wp P Q { a with defers := { target := .collected D, args := #[] } :: a.defers } W') :
    (Code.rangeFunc g ps assign body).wp P Q a w := by
  refine (wpIn_wide (n := 0)).1 (wpIn_rangeFunc ?_)
  intro fn _
  obtain ⟨rec, hrec⟩ : ∃ rec : LoopState → Option Code → Loop, rec = fun st pe => { state := st, pending := pe, fn, tmps := a.tmps, params := ps, assign, body, defers := w.heap.size } := ⟨_, rfl⟩
  obtain ⟨W1, hW1⟩ : ∃ W1, (w.alloc (.deferred (some []))).alloc (.loop (rec .ready none)) = W1 := ⟨_, rfl⟩
  have hs1 : W1.heap.size = w.heap.size + 2 := by rw [← hW1]; simp
  have hL1 : W1.heap[w.heap.size + 1]? = some (.loop (rec .ready none)) := by
    rw [← hW1]; have := World.alloc_heap_new (w.alloc (.deferred (some []))) (.loop (rec .ready none)); rwa [World.size_alloc] at this
  have hK1 : W1.heap[w.heap.size]? = some (.deferred (some [])) := by
    rw [← hW1]; exact (Below.heap_alloc _ _ _ (by simp)).trans (World.alloc_heap_new w _)
  have hE : ∀ b, E b → b < w.heap.size := fun b hb => hseq.1 b (.inr hb)
  have hst1 : Stp (fun b => O b ∨ E b) w W1 := by rw [← hW1]; exact ((Stp.refl _ w).alloc _).alloc _
  have hb1 : ∀ b, b < w.heap.size → W1.heap[b]? = w.heap[b]? := fun b hb => by
    rw [← hW1]; exact (Below.heap_alloc _ _ _ (by simp; omega)).trans (Below.heap_alloc _ _ _ hb)
  have hI1 : I 0 W1 O := by
    refine hI 0 w O W1 h0 hst1.os hst1.tape hst1.output hst1.size (fun b hb => hb1 b ?_)
    rcases hb with h | h
    · exact hO b h
    · exact h.1
  have hnO : ∀ b, w.heap.size ≤ b → ¬ O b := fun b hb ho => by have := hO b ho; omega
  refine ⟨w.heap.size + 1, [{ target := .collected w.heap.size, args := #[] }], W1, { target := .fn (.func gf) lb, args := #[.func (.yield (w.heap.size + 1)) #[] #[]] }, W1, gf,
    #[.func (.yield (w.heap.size + 1)) #[] #[]] ++ lb, W1, ?_, ?_, ?_, ?_, fun h => by simp [Fence.wide] at h, ?_⟩
  · rw [← hW1, hrec]; exact run_enterLoop_outer _ _ _ _ _
  · simp only [resolve, hg]
    simp [go_sem]
  · intro f' _; trivial
  · simp [invoke, go_sem, eg]
  · refine callsIn_wide.2 ((hseq.2.2 W1 (w.heap.size + 1) (fun b => O b ∨ b = w.heap.size + 1)
      (fun k W O1 => ∃ O0, O1 = (fun b => O0 b ∨ b = w.heap.size + 1) ∧ I k W O0 ∧ ¬ O0 (w.heap.size + 1) ∧ ¬ O0 w.heap.size ∧ (∀ b, O0 b → b < W.heap.size) ∧ W.heap[w.heap.size + 1]? = some (.loop (rec .ready none)) ∧ W.heap[w.heap.size]? = some (.deferred (some [])) ∧ Stp (fun b => O b ∨ E b) w W ∧ Grw O O0 w W)
      (fun k W O1 => ∃ c O0, O1 = (fun b => O0 b ∨ b = w.heap.size + 1) ∧ Ix c k W O0 ∧ ¬ O0 (w.heap.size + 1) ∧ ¬ O0 w.heap.size ∧ (∀ b, O0 b → b < W.heap.size) ∧ W.heap[w.heap.size + 1]? = some (.loop (rec .done (some c))) ∧ W.heap[w.heap.size]? = some (.deferred (some [])) ∧ Stp (fun b => O b ∨ E b) w W ∧ Grw O O0 w W)
      (by omega) (fun b hb => hb1 b (hseq.1 b hb)) (fun b hb ho => by rcases ho with ho | ho; exact hC b hb ho; have := hseq.1 b hb; omega)
      (fun b hb => by rcases hb with hb | hb; have := hO b hb; omega; omega) ?sJ ?sX ?round ⟨O, rfl, hI1, hnO _ (by omega), hnO _ (Nat.le_refl _), fun b hb => by have := hO b hb; omega, hL1, hK1, hst1, fun b hb => ⟨by have := hO b hb; omega, .inl hb⟩⟩).mono ?back)
    case sJ =>
      rintro k W _ W' ⟨O0, rfl, hi, hl0, hk0, hbd, hl, hk, hst, hgr⟩ e1 e2 e3 e4 e5
      have hst' : Stp (fun b => O b ∨ E b) w W' := ⟨e1.trans hst.os, e2.trans hst.tape, e3.trans hst.output, Nat.le_trans hst.size e4, fun b hb hn => (e5 b (.inr ⟨by omega, fun h => hn (.inr h)⟩)).trans (hst.block b hb hn)⟩
      refine ⟨O0, rfl, hI k W O0 W' hi e1 e2 e3 e4 (fun b hb => e5 b ?_), hl0, hk0, fun b hb => Nat.lt_of_lt_of_le (hbd b hb) e4, (e5 _ (.inl (.inr rfl))).trans hl, (e5 _ (.inr ⟨by omega, fun h => by have := hE _ h; omega⟩)).trans hk, hst', fun b hb => ⟨Nat.lt_of_lt_of_le (hbd b hb) e4, (hgr b hb).2⟩⟩
      rcases hb with h | h
      · exact .inl (.inl h)
      · exact .inr ⟨by omega, h.2⟩
    case sX =>
      rintro k W _ W' ⟨c, O0, rfl, hi, hl0, hk0, hbd, hl, hk, hst, hgr⟩ e1 e2 e3 e4 e5
      have hst' : Stp (fun b => O b ∨ E b) w W' := ⟨e1.trans hst.os, e2.trans hst.tape, e3.trans hst.output, Nat.le_trans hst.size e4, fun b hb hn => (e5 b (.inr ⟨by omega, fun h => hn (.inr h)⟩)).trans (hst.block b hb hn)⟩
      refine ⟨c, O0, rfl, hIx c k W O0 W' hi e1 e2 e3 e4 (fun b hb => e5 b ?_), hl0, hk0, fun b hb => Nat.lt_of_lt_of_le (hbd b hb) e4, (e5 _ (.inl (.inr rfl))).trans hl, (e5 _ (.inr ⟨by omega, fun h => by have := hE _ h; omega⟩)).trans hk, hst', fun b hb => ⟨Nat.lt_of_lt_of_le (hbd b hb) e4, (hgr b hb).2⟩⟩
      rcases hb with h | h
      · exact .inl (.inl h)
      · exact .inr ⟨by omega, h.2⟩
    case round =>
      rintro k x W _ hx ⟨O0, rfl, hi, hl0, hk0, hbd, hl, hk, hst, hgr⟩ _ _
      have hlt : w.heap.size + 1 < W.heap.size := (Array.getElem?_eq_some_iff.1 hl).1
      have hy := run_yield (P := P) (args := enc x) hl (by rw [hrec]; exact hps x)
      rw [hrec] at hy
      refine ⟨fn, _, assign, body, hy, roundIn_of_wpIn trivial (wpIn_mono (hround _ k x W O0 hx) ?_)⟩
      clear hy
      intro e a' W' he
      cases e with
      | normal => ?_
      | exit id => exact he.elim
      | goto t => exact he.elim
      | ret => exact he.elim
      | panic ch => exact he.elim
      | outgrown => exact he.elim
      obtain ⟨rfl, hbody⟩ := he
      refine ⟨_, run_beginRound hl (by rw [hrec]), ?_⟩
      obtain ⟨W2, hW2⟩ : ∃ W2, W.putObj (w.heap.size + 1) (.loop { rec .ready none with state := .busy }) = W2 := ⟨_, rfl⟩
      rw [hW2]
      have hs2 : W2.heap.size = W.heap.size := by rw [← hW2]; simp
      have hl2 : W2.heap[w.heap.size + 1]? = some (.loop { rec .ready none with state := .busy }) := by rw [← hW2]; exact World.putObj_heap_same hlt
      have hk2 : W2.heap[w.heap.size]? = some (.deferred (some [])) := by rw [← hW2]; exact (World.putObj_heap_other (by omega)).trans hk
      have hi2 : I k W2 O0 := by rw [← hW2]; exact hI.putObj hi hl0 (by omega) _
      have hst2 : Stp (fun b => O b ∨ E b) w W2 := by rw [← hW2]; exact hst.putObj (.inr (by omega)) _
      have hstW : Stp (fun b => O0 b ∨ b = w.heap.size + 1) W W2 := by rw [← hW2]; exact (Stp.refl _ _).putObj (.inl (.inr rfl)) _
      refine wpIn_mono (hbody W2 hi2 (fun b hb => by rw [hs2]; exact hbd b hb) hst2.size) ?_
      -- what any way out of the body owes
      have fin : ∀ (jump : Option Code) (W3 : World) (O3 : Blk), Stp O0 W2 W3 → Grw O0 O3 W2 W3 → ∃ W4, W4 = W3.putObj (w.heap.size + 1) (.loop (rec (if jump.isNone then .ready else .done) jump)) ∧
          (Instr.endRound (w.heap.size + 1) jump).run P W3 = .ok (.bool jump.isNone) W4 ∧ ¬ O3 (w.heap.size + 1) ∧ ¬ O3 w.heap.size ∧ (∀ b, O3 b → b < W4.heap.size) ∧
          W4.heap[w.heap.size + 1]? = some (.loop (rec (if jump.isNone then .ready else .done) jump)) ∧ W4.heap[w.heap.size]? = some (.deferred (some [])) ∧ Stp (fun b => O b ∨ E b) w W4 ∧ Grw O O3 w W4 ∧
          Stp (fun b => O0 b ∨ b = w.heap.size + 1) W W4 ∧ Grw (fun b => O0 b ∨ b = w.heap.size + 1) (fun b => O3 b ∨ b = w.heap.size + 1) W W4 := fun jump W3 O3 h3 g3 => by
        have hl3 := h3.at hl2 hl0
        have hk3 := h3.at hk2 hk0
        have he := run_endRound (P := P) jump hl3
        rw [hrec] at he ⊢
        have n1 : ¬ O3 (w.heap.size + 1) := fun hb => by rcases (g3 _ hb).2 with h | h; exact hl0 h; omega
        have n0 : ¬ O3 w.heap.size := fun hb => by rcases (g3 _ hb).2 with h | h; exact hk0 h; omega
        have s4 := h3.size
        have e4 : (W3.putObj (w.heap.size + 1) (.loop (rec (if jump.isNone then .ready else .done) jump))).heap.size = W3.heap.size := by simp
        rw [hrec] at e4
        refine ⟨_, rfl, he, n1, n0, fun b hb => by rw [e4]; exact (g3 b hb).1, World.putObj_heap_same (Array.getElem?_eq_some_iff.1 hl3).1, (World.putObj_heap_other (by omega)).trans hk3, ?_, ?_, ?_, ?_⟩
        · exact (hst2.then h3 (fun b hb => (hgr b hb).2.imp .inl id)).putObj (.inr (by omega)) _
        · intro b hb
          refine ⟨by rw [e4]; exact (g3 b hb).1, ?_⟩
          rcases (g3 b hb).2 with h | h
          · exact (hgr b h).2
          · right; omega
        · exact (hstW.then h3 (fun b hb => .inl (.inl hb))).putObj (.inl (.inr rfl)) _
        · intro b hb
          rcases hb with hb | hb
          · refine ⟨by rw [e4]; exact (g3 b hb).1, ?_⟩
            rcases (g3 b hb).2 with h | h
            · exact .inl (.inl h)
            · right; omega
          · subst hb
            exact ⟨by rw [e4]; omega, .inl (.inr rfl)⟩
      rintro e a3 W3 hp
      cases e with
      | normal =>
        obtain ⟨O3, h3, g3, hi3⟩ := hp
        obtain ⟨W4, e4, he, n1, n0, bd, l4, k4, s4, gr4, sW, gW⟩ := fin none W3 O3 h3 g3
        exact ⟨_, _, he, .inl ⟨rfl, _, ⟨O3, rfl, by rw [e4]; exact hI.putObj hi3 n1 (by omega) _, n1, n0, bd, l4, k4, s4, gr4⟩, sW, gW⟩⟩
      | ret =>
        obtain ⟨O3, h3, g3, hi3⟩ := hp
        obtain ⟨W4, e4, he, n1, n0, bd, l4, k4, s4, gr4, sW, gW⟩ := fin (some .ret) W3 O3 h3 g3
        exact ⟨_, _, he, .inr ⟨rfl, _, ⟨.ret, O3, rfl, by rw [e4]; exact (hIx _).putObj hi3 n1 (by omega) _, n1, n0, bd, l4, k4, s4, gr4⟩, sW, gW⟩⟩
      | exit id =>
        obtain ⟨O3, h3, g3, hi3⟩ := hp
        obtain ⟨W4, e4, he, n1, n0, bd, l4, k4, s4, gr4, sW, gW⟩ := fin (some (.exit id)) W3 O3 h3 g3
        exact ⟨_, _, he, .inr ⟨rfl, _, ⟨.exit id, O3, rfl, by rw [e4]; exact (hIx _).putObj hi3 n1 (by omega) _, n1, n0, bd, l4, k4, s4, gr4⟩, sW, gW⟩⟩
      | goto t =>
        obtain ⟨O3, h3, g3, hi3⟩ := hp
        obtain ⟨W4, e4, he, n1, n0, bd, l4, k4, s4, gr4, sW, gW⟩ := fin (some (.goto t)) W3 O3 h3 g3
        exact ⟨_, _, he, .inr ⟨rfl, _, ⟨.goto t, O3, rfl, by rw [e4]; exact (hIx _).putObj hi3 n1 (by omega) _, n1, n0, bd, l4, k4, s4, gr4⟩, sW, gW⟩⟩
      | panic ch => exact hp.elim
      | outgrown => exact hp.elim
    case back =>
      rintro e W2 ⟨⟨v, rfl⟩, (⟨_, ⟨O0, rfl, hi, hl0, hk0, hbd, hl, hk, hst, hgr⟩, hT, _, _⟩ | ⟨k, _, hkx, ⟨c, O0, rfl, hi, hl0, hk0, hbd, hl, hk, hst, hgr⟩, hT, _, _⟩)⟩
      · have he := run_endLoop (P := P) hl (by rw [hrec]; simp)
        rw [hrec] at he
        refine ⟨none, _, he, hdone _ _ O0 (Nat.le_refl _) (hI.putObj hi hl0 (by omega) _) (hseq.2.1 _ _ _ hT (fun b hb => World.putObj_heap_other (fun e => by have := hE b hb; omega))) (hst.putObj (.inr (by omega)) _) (fun b hb => ⟨by simpa using hbd b hb, (hgr b hb).2⟩) ((World.putObj_heap_other (by omega)).trans hk) hk0⟩
      · have he := run_endLoop (P := P) hl (by rw [hrec]; simp)
        rw [hrec] at he
        refine ⟨some c, _, he, (wpIn_wide (n := 0)).2 (hstop _ c k _ O0 (Nat.le_refl _) hkx ((hIx c).putObj hi hl0 (by omega) _) (hseq.2.1 _ _ _ hT (fun b hb => World.putObj_heap_other (fun e => by have := hE b hb; omega))) (hst.putObj (.inr (by omega)) _) (fun b hb => ⟨by simpa using hbd b hb, (hgr b hb).2⟩) ((World.putObj_heap_other (by omega)).trans hk) hk0)⟩

end Go.Proofs.Ytahkkodeppeknaa

/- A range over a function, told of blocks: what the rounds own, what the iterator owns; iterators that keep state of their own in cells, and that range over others. For whatever program. -/
import Derived.Test.YtamnmpcnhaeigaaBase
import Derived.RangeFuncLeaves
import Derived.RangeFuncNested
import Derived.RangeFuncRecord
namespace Go.Proofs.Ytamnmpcnhaeigaa
open Go.RowKit

/-- 'f == nil', f a function value that isn't nil. -/
theorem run_eql_func_nil {P : Program} (w : World) {t : TypeId} {ps rs : Array TypeId} {v : Bool} (h : P.underlying t = some (.func ps rs v)) (f : Fn) (a b : Array Value) :
    (binOp .eql t (.func f a b) .nilFunc).run P w = .ok (.bool false) w := by
  have hd : ∀ d : Nat, (Op.equalIn (d + 1) t (.func f a b) .nilFunc).run P w = .ok false w := fun d => by simp [Op.equalIn, run_underlying h]
  simp only [binOp]
  simp [Op.equal, Op.maxDepth, hd 9999]

/-- A set of blocks. -/
abbrev Blk := Nat → Prop

/-- All blocks that were there, but those of O, are as they were. -/
structure Stp (O : Blk) (W W' : World) : Prop where
  os : W'.os = W.os
  tape : W'.tape = W.tape
  output : W'.output = W.output
  size : W.heap.size ≤ W'.heap.size
  block : ∀ k, k < W.heap.size → ¬ O k → W'.heap[k]? = W.heap[k]?

theorem Stp.refl (O : Blk) (W : World) : Stp O W W := ⟨rfl, rfl, rfl, Nat.le_refl _, fun _ _ _ => rfl⟩
theorem Stp.then {O O' : Blk} {a b c : World} (h : Stp O a b) (k : Stp O' b c) (hs : ∀ x, O' x → O x ∨ a.heap.size ≤ x) : Stp O a c :=
  ⟨k.os.trans h.os, k.tape.trans h.tape, k.output.trans h.output, Nat.le_trans h.size k.size,
   fun i hi hn => (k.block i (Nat.lt_of_lt_of_le hi h.size) (fun m => (hs i m).elim hn (fun hle => by omega))).trans (h.block i hi hn)⟩
theorem Stp.mono {O O' : Blk} {a b : World} (h : Stp O a b) (hs : ∀ x, O x → O' x) : Stp O' a b :=
  ⟨h.os, h.tape, h.output, h.size, fun k hk hn => h.block k hk fun m => hn (hs k m)⟩
/-- Blocks of O' that are newer than the first world may be left out. -/
theorem Stp.drop {O O' : Blk} {a b : World} (h : Stp O a b) (hs : ∀ x, O x → O' x ∨ a.heap.size ≤ x) : Stp O' a b :=
  ⟨h.os, h.tape, h.output, h.size, fun k hk hn => h.block k hk fun m => (hs k m).elim hn (fun hle => by omega)⟩
theorem Stp.alloc {O : Blk} {a w : World} (h : Stp O a w) (o : Obj) : Stp O a (w.alloc o) :=
  h.then (O' := fun _ => False) ⟨rfl, rfl, rfl, by simp, fun k hk _ => Below.heap_alloc _ _ _ hk⟩ (fun _ hx => hx.elim)
theorem Stp.drew {O : Blk} {a w : World} (h : Stp O a w) : Stp O a w.drew := ⟨h.os, h.tape, h.output, h.size, h.block⟩
theorem Stp.drewN {O : Blk} {a w : World} (h : Stp O a w) (n : Nat) : Stp O a (w.drewN n) := ⟨h.os, h.tape, h.output, h.size, h.block⟩
theorem Stp.setCell {O : Blk} {a w : World} (h : Stp O a w) {p : Addr} (hp : O p.block ∨ a.heap.size ≤ p.block) (u : Value) : Stp O a (w.setCell p u) := by
  refine ⟨h.os, h.tape, h.output, by simpa [World.setCell] using h.size, fun k hk hn => ?_⟩
  rw [Below.heap_setCell _ _ _ _ (fun e => hp.elim (fun m => hn (by rw [e]; exact m)) (fun hle => by omega))]
  exact h.block k hk hn
theorem Stp.putObj {O : Blk} {a w : World} (h : Stp O a w) {l : Nat} (hl : O l ∨ a.heap.size ≤ l) (o : Obj) : Stp O a (w.putObj l o) := by
  refine ⟨h.os, h.tape, h.output, by simpa using h.size, fun k hk hn => ?_⟩
  rw [World.putObj_heap_other (fun e => hl.elim (fun m => hn (by rw [e]; exact m)) (fun hle => by omega))]
  exact h.block k hk hn
theorem Stp.of_fr {S : List Nat} {w w' : World} (h : Fr S w w') : Stp (fun k => k ∈ S) w w' := ⟨h.os, h.tape, h.output, h.size, h.block⟩
theorem Stp.to_fr {O : Blk} {S : List Nat} {w w' : World} (h : Stp O w w') (hs : ∀ x, O x → x ∈ S ∨ w.heap.size ≤ x) : Fr S w w' :=
  ⟨h.os, h.tape, h.output, h.size, fun k hk hn => h.block k hk fun m => (hs k m).elim hn (fun hle => by omega)⟩
theorem Stp.at {O : Blk} {w w' : World} (h : Stp O w w') {k : Nat} {o : Obj} (hk : w.heap[k]? = some o) (hs : ¬ O k) : w'.heap[k]? = some o :=
  (h.block k (Array.getElem?_eq_some_iff.1 hk).1 hs).trans hk
theorem Stp.cell {O : Blk} {w w' : World} (h : Stp O w w') {p : Addr} {v : Value} (hc : w.cell? p = some v) (hs : ¬ O p.block) : w'.cell? p = some v :=
  (World.cell?_of_block (w := w) (h.block p.block (World.block_lt_of_cell? w p hc) hs)).trans hc

/-- What the rounds own behind a step was theirs ahead of it, or is new. -/
def Grw (O O' : Blk) (W W' : World) : Prop := ∀ b, O' b → b < W'.heap.size ∧ (O b ∨ W.heap.size ≤ b)
theorem Grw.refl {O : Blk} {W : World} (h : ∀ b, O b → b < W.heap.size) : Grw O O W W := fun b hb => ⟨h b hb, .inl hb⟩
theorem Grw.then {O O' O'' : Blk} {a b c : World} (h : Grw O O' a b) (hs : a.heap.size ≤ b.heap.size) (k : Grw O' O'' b c) : Grw O O'' a c := fun x hx => by
  obtain ⟨h1, h2⟩ := k x hx
  refine ⟨h1, ?_⟩
  rcases h2 with h2 | h2
  · exact (h x h2).2
  · exact .inr (by omega)

/-- What the rounds know abides whatever becomes of blocks that are neither theirs, nor below B. -/
def Stable (B : Nat) (J : Nat → World → Blk → Prop) : Prop :=
  ∀ k W O W', J k W O → W'.os = W.os → W'.tape = W.tape → W'.output = W.output → W.heap.size ≤ W'.heap.size → (∀ b, (O b ∨ b < B) → W'.heap[b]? = W.heap[b]?) → J k W' O
theorem Stable.mono {B B' : Nat} {J : Nat → World → Blk → Prop} (h : Stable B J) (hB : B ≤ B') : Stable B' J :=
  fun k W O W' hj h1 h2 h3 h4 h5 => h k W O W' hj h1 h2 h3 h4 (fun b hb => h5 b (hb.imp id (fun hlt => by omega)))
theorem Stable.and {B : Nat} {J : Nat → World → Blk → Prop} (h : Stable B J) (q : Nat → Prop) : Stable B (fun k W O => q k ∧ J k W O) :=
  fun k W O W' hj h1 h2 h3 h4 h5 => ⟨hj.1, h k W O W' hj.2 h1 h2 h3 h4 h5⟩
theorem Stable.or {B : Nat} {J K : Nat → World → Blk → Prop} (h : Stable B J) (h' : Stable B K) : Stable B (fun k W O => J k W O ∨ K k W O) :=
  fun k W O W' hj h1 h2 h3 h4 h5 => hj.imp (fun hj => h k W O W' hj h1 h2 h3 h4 h5) (fun hj => h' k W O W' hj h1 h2 h3 h4 h5)
theorem Stable.setCell {B : Nat} {J : Nat → World → Blk → Prop} (h : Stable B J) {k : Nat} {W : World} {O : Blk} {l i : Nat} (hj : J k W O) (hl : ¬ O l) (hB : B ≤ l) (v : Value) : J k (W.setCell ⟨l, i, none⟩ v) O :=
  h k W O _ hj rfl rfl rfl (by simp [World.setCell]) (fun b hb => Below.heap_setCell _ _ _ _ (fun e => by
    have e' : b = l := e
    subst e'
    rcases hb with h1 | h1
    · exact hl h1
    · omega))
theorem Stable.putObj {B : Nat} {J : Nat → World → Blk → Prop} (h : Stable B J) {k : Nat} {W : World} {O : Blk} {l : Nat} (hj : J k W O) (hl : ¬ O l) (hB : B ≤ l) (o : Obj) : J k (W.putObj l o) O :=
  h k W O _ hj rfl rfl rfl (by simp) (fun b hb => World.putObj_heap_other (fun e => by subst e; rcases hb with h1 | h1; exact hl h1; omega))
theorem Stable.alloc {B : Nat} {J : Nat → World → Blk → Prop} (h : Stable B J) {k : Nat} {W : World} {O : Blk} (hj : J k W O) (hO : ∀ b, O b → b < W.heap.size) (hB : B ≤ W.heap.size) (o : Obj) : J k (W.alloc o) O :=
  h k W O _ hj rfl rfl rfl (by simp) (fun b hb => Below.heap_alloc _ _ _ (by rcases hb with h1 | h1; exact hO b h1; omega))

/-- What an outer loop's rounds know, carried along by an inner loop that began in W0. -/
def Track (J : Nat → World → Blk → Prop) (f : Nat → Nat) (O : Blk) (W0 : World) : Nat → World → Blk → Prop := fun k W1 O1 => J (f k) W1 O1 ∧ Stp O W0 W1 ∧ Grw O O1 W0 W1
theorem Stp.outside {O O1 : Blk} {W0 W1 W' : World} (h : Stp O W0 W1) (e1 : W'.os = W1.os) (e2 : W'.tape = W1.tape) (e3 : W'.output = W1.output) (e4 : W1.heap.size ≤ W'.heap.size) (e5 : ∀ b, (O1 b ∨ b < W0.heap.size) → W'.heap[b]? = W1.heap[b]?) : Stp O W0 W' :=
  ⟨e1.trans h.os, e2.trans h.tape, e3.trans h.output, Nat.le_trans h.size e4, fun b hb hn => (e5 b (.inr hb)).trans (h.block b hb hn)⟩
theorem Grw.outside {O O1 : Blk} {W0 W1 W' : World} (h : Grw O O1 W0 W1) (e4 : W1.heap.size ≤ W'.heap.size) : Grw O O1 W0 W' := fun b hb => ⟨Nat.lt_of_lt_of_le (h b hb).1 e4, (h b hb).2⟩
theorem Track.stable {B : Nat} {J : Nat → World → Blk → Prop} (hJ : Stable B J) (f : Nat → Nat) (O : Blk) (W0 : World) (hB : B ≤ W0.heap.size) : Stable W0.heap.size (Track J f O W0) := by
  rintro k W1 O1 W' ⟨hj, hs, hg⟩ e1 e2 e3 e4 e5
  exact ⟨hJ.mono hB (f k) W1 O1 W' hj e1 e2 e3 e4 e5, hs.outside e1 e2 e3 e4 e5, hg.outside e4⟩
/-- .. the way out of it by a 'return', the outer loop's round having said 'no more'. -/
def TrackX (Jx : Nat → World → Blk → Prop) (m : Nat) (O : Blk) (W0 : World) (c : Code) : Nat → World → Blk → Prop := fun _ W1 O1 => c = .ret ∧ ∃ j, j ≤ m ∧ Jx j W1 O1 ∧ Stp O W0 W1 ∧ Grw O O1 W0 W1
theorem TrackX.stable {B : Nat} {J : Nat → World → Blk → Prop} (hJ : Stable B J) (m : Nat) (O : Blk) (W0 : World) (hB : B ≤ W0.heap.size) (c : Code) : Stable W0.heap.size (TrackX J m O W0 c) := by
  rintro k W1 O1 W' ⟨hc, j, hm, hj, hs, hg⟩ e1 e2 e3 e4 e5
  exact ⟨hc, j, hm, hJ.mono hB j W1 O1 W' hj e1 e2 e3 e4 e5, hs.outside e1 e2 e3 e4 e5, hg.outside e4⟩

/-- The like, where the inner loop's rounds write one block tb that was laid ahead of it. -/
def TrackB (J : Nat → World → Blk → Prop) (f : Nat → Nat) (O : Blk) (W0 : World) (tb : Nat) (ob : Nat → Obj) : Nat → World → Blk → Prop := fun k W1 O1 =>
  ∃ O0 : Blk, O1 = (fun b => O0 b ∨ b = tb) ∧ J (f k) W1 O0 ∧ ¬ O0 tb ∧ W1.heap[tb]? = some (ob k) ∧ Stp O W0 W1 ∧ Grw O O0 W0 W1
theorem TrackB.stable {B : Nat} {J : Nat → World → Blk → Prop} (hJ : Stable B J) (f : Nat → Nat) (O : Blk) (W0 : World) (tb : Nat) (ob : Nat → Obj) {B' : Nat} (hB : B ≤ W0.heap.size) (hB' : W0.heap.size ≤ B') : Stable B' (TrackB J f O W0 tb ob) := by
  rintro k W1 _ W' ⟨O0, rfl, hj, hn, ht, hs, hg⟩ e1 e2 e3 e4 e5
  have e6 : ∀ b, (O0 b ∨ b < W0.heap.size) → W'.heap[b]? = W1.heap[b]? := fun b hb => e5 b (by
    rcases hb with h | h
    · exact .inl (.inl h)
    · exact .inr (by omega))
  exact ⟨O0, rfl, hJ.mono hB (f k) W1 O0 W' hj e1 e2 e3 e4 e6, hn, (e5 tb (.inl (.inr rfl))).trans ht, hs.outside e1 e2 e3 e4 e6, hg.outside e4⟩
def TrackBX (X : Nat → World → Blk → Prop) (m : Nat) (O : Blk) (W0 : World) (tb : Nat) (c : Code) : Nat → World → Blk → Prop := fun _ W1 O1 =>
  c = .ret ∧ ∃ (j : Nat) (O0 : Blk), O1 = (fun b => O0 b ∨ b = tb) ∧ j ≤ m ∧ X j W1 O0 ∧ ¬ O0 tb ∧ Stp O W0 W1 ∧ Grw O O0 W0 W1
theorem TrackBX.stable {B : Nat} {X : Nat → World → Blk → Prop} (hX : Stable B X) (m : Nat) (O : Blk) (W0 : World) (tb : Nat) (c : Code) {B' : Nat} (hB : B ≤ W0.heap.size) (hB' : W0.heap.size ≤ B') : Stable B' (TrackBX X m O W0 tb c) := by
  rintro k W1 _ W' ⟨hc, j, O0, rfl, hm, hj, hn, hs, hg⟩ e1 e2 e3 e4 e5
  have e6 : ∀ b, (O0 b ∨ b < W0.heap.size) → W'.heap[b]? = W1.heap[b]? := fun b hb => e5 b (by
    rcases hb with h | h
    · exact .inl (.inl h)
    · exact .inr (by omega))
  exact ⟨hc, j, O0, rfl, hm, hX.mono hB j W1 O0 W' hj e1 e2 e3 e4 e6, hn, hs.outside e1 e2 e3 e4 e6, hg.outside e4⟩

/-- One round of loop l, in a program under no fence. -/
def YieldW (P : Program) (l : Nat) (args : Array Value) (W : World) (R : Ending → World → Prop) : Prop := YieldAt Fence.wide 0 P l args W R

/-- How an iterator's call ends: all were told; or a round said 'no more'. -/
def IterPost (J Jx : Nat → World → Blk → Prop) (n : Nat) (O : Blk) (W : World) (e : Ending) (W' : World) : Prop :=
  (∃ v, e = .returned v) ∧ ((∃ O', J n W' O' ∧ Stp O W W' ∧ Grw O O' W W') ∨ (∃ k O', k ≤ n ∧ Jx k W' O' ∧ Stp O W W' ∧ Grw O O' W W'))

/-- The function g, that has captured lb, tells xs to whatever rounds: where the blocks of C are as they are now when it begins. -/
def IterAt {α : Type} (P : Program) (w : World) (C : Blk) (g : FuncId) (lb : Array Value) (enc : α → Array Value) (xs : List α) : Prop :=
  (∀ b, C b → b < w.heap.size) ∧
  ∀ (W : World) (l : Nat) (O : Blk) (J Jx : Nat → World → Blk → Prop),
    w.heap.size ≤ W.heap.size → (∀ b, C b → W.heap[b]? = w.heap[b]?) → (∀ b, O b → b < W.heap.size) → Stable W.heap.size J → Stable W.heap.size Jx →
    (∀ k x W1 O1, xs[k]? = some x → J k W1 O1 → (∀ b, O1 b → b < W1.heap.size) → YieldW P l (enc x) W1 fun e W2 =>
      (e = .returned (.bool true) ∧ ∃ O2, J (k + 1) W2 O2 ∧ Stp O1 W1 W2 ∧ Grw O1 O2 W1 W2) ∨
      (e = .returned (.bool false) ∧ ∃ O2, Jx (k + 1) W2 O2 ∧ Stp O1 W1 W2 ∧ Grw O1 O2 W1 W2)) →
    J 0 W O →
    Calls P g (#[.func (.yield l) #[] #[]] ++ lb) W (IterPost J Jx xs.length O W)

theorem IterAt.later {α : Type} {P : Program} {w w' : World} {C : Blk} {g : FuncId} {lb : Array Value} {enc : α → Array Value} {xs : List α} (h : IterAt P w C g lb enc xs)
    (hs : w.heap.size ≤ w'.heap.size) (hC : ∀ b, C b → w'.heap[b]? = w.heap[b]?) : IterAt P w' C g lb enc xs :=
  ⟨fun b hb => Nat.lt_of_lt_of_le (h.1 b hb) hs, fun W l O J Jx h1 h2 => h.2 W l O J Jx (Nat.le_trans hs h1) (fun b hb => (h2 b hb).trans (hC b hb))⟩

/-- Under no fence the room that is counted doesn't matter. -/
theorem roundIn_wide {P : Program} {l : Nat} {f : FuncId} {tmps : Array Value} {assign body : Code} {w : World} {R : Ending → World → Prop} {n : Nat} (m : Nat) (h : RoundIn Fence.wide n P l f tmps assign body w R) : RoundIn Fence.wide m P l f tmps assign body w R :=
  ⟨h.1, fun c cs _ => h.2 c cs (room_wide _)⟩
theorem YieldW.at {P : Program} {l : Nat} {args : Array Value} {W : World} {R : Ending → World → Prop} (h : YieldW P l args W R) (m : Nat) : YieldAt Fence.wide m P l args W R := by
  obtain ⟨fn, tmps, assign, body, hy, hR⟩ := h
  exact ⟨fn, tmps, assign, body, hy, roundIn_wide m hR⟩

/-- A function of one number that tells a bool, and turns nothing: in each world in which the blocks of C are as they are now. -/
def FitsAt (P : Program) (w : World) (C : Blk) (g : FuncId) (lb : Array Value) (p : Int → Bool) : Prop :=
  (∀ b, C b → b < w.heap.size) ∧ (∀ args w, (callFunc g args).run P w = .ok (.enter g args) w) ∧
  ∀ (W : World) (x : Int), (∀ b, C b → W.heap[b]? = w.heap[b]?) → Calls P g (#[.int .i64 x] ++ lb) W fun e W' => e = .returned (.bool (p x)) ∧ W = W'

theorem FitsAt.later {P : Program} {w w' : World} {C : Blk} {g : FuncId} {lb : Array Value} {p : Int → Bool} (h : FitsAt P w C g lb p) (hs : w.heap.size ≤ w'.heap.size) (hC : ∀ b, C b → w'.heap[b]? = w.heap[b]?) : FitsAt P w' C g lb p :=
  ⟨fun b hb => Nat.lt_of_lt_of_le (h.1 b hb) hs, h.2.1, fun W x h1 => h.2.2 W x (fun b hb => (h1 b hb).trans (hC b hb))⟩

/-- How a round's body may be left. -/
def roundEnd (I : Nat → World → Blk → Prop) (Ix : Code → Nat → World → Blk → Prop) (k : Nat) (O : Blk) (W : World) : Exit → Act → World → Prop
  | .normal, _, W' => ∃ O', Stp O W W' ∧ Grw O O' W W' ∧ I (k + 1) W' O'
  | .ret, _, W' => ∃ O', Stp O W W' ∧ Grw O O' W W' ∧ Ix .ret (k + 1) W' O'
  | .exit id, _, W' => ∃ O', Stp O W W' ∧ Grw O O' W W' ∧ Ix (.exit id) (k + 1) W' O'
  | .goto t, _, W' => ∃ O', Stp O W W' ∧ Grw O O' W W' ∧ Ix (.goto t) (k + 1) W' O'
  | .panic _, _, _ => False
  | .outgrown, _, _ => False

/-- What is owed behind the assignments to the loop's left sides: the world is as it was, and the body, from the frame that they left, goes through. -/
def BodyFrom (P : Program) (l : Nat) (body : Code) (B : Nat) (I : Nat → World → Blk → Prop) (Ix : Code → Nat → World → Blk → Prop) (k : Nat) (O : Blk) (W : World) (a' : Act) (W' : World) : Prop :=
  W = W' ∧ ∀ W2, I k W2 O → (∀ b, O b → b < W2.heap.size) → B ≤ W2.heap.size → body.wpIn (Fence.wide.inRound l) 0 P (roundEnd I Ix k O W2) a' W2

/-- The law: 'for .. := range g { body }'. -/
theorem wp_range {α : Type} {P : Program} {g : Operand} {ps : Array Tmp} {assign body : Code} {Q : Exit → Act → World → Prop} {a : Act} {w : World}
    {gf : Nat} {lb : Array Value} (hg : a.eval g = .func (.func gf) #[] lb) (eg : ∀ args w, (callFunc gf args).run P w = .ok (.enter gf args) w)
    {C : Blk} {enc : α → Array Value} {xs : List α} (hseq : IterAt P w C gf lb enc xs) (hps : ∀ x, (enc x).size = ps.size)
    (I : Nat → World → Blk → Prop) (Ix : Code → Nat → World → Blk → Prop) (hI : Stable w.heap.size I) (hIx : ∀ c, Stable w.heap.size (Ix c))
    (O : Blk) (hO : ∀ b, O b → b < w.heap.size) (h0 : I 0 w O)
    (hround : ∀ (l k : Nat) (x : α) (W : World) (O : Blk), xs[k]? = some x → assign.wpIn (Fence.wide.inRound l) 0 P (Exit.then (BodyFrom P l body w.heap.size I Ix k O W) (fun _ _ _ => False)) { tmps := (ps.zip (enc x)).foldl (fun t (p, v) => t.setIfInBounds p v) a.tmps, defers := [] } W)
    (hdone : ∀ (D : Nat) (W' : World) (O' : Blk), w.heap.size ≤ D → I xs.length W' O' → Stp O w W' → Grw O O' w W' → W'.heap[D]? = some (.deferred (some [])) → ¬ O' D → Q .normal { a with defers := { target := .collected D, args := #[] } :: a.defers } W')
    (hstop : ∀ (D : Nat) (c : Code) (k : Nat) (W' : World) (O' : Blk), w.heap.size ≤ D → k ≤ xs.length → Ix c k W' O' → Stp O w W' → Grw O O' w W' → W'.heap[D]? = some (.deferred (some [])) → ¬ O' D → c.wp P Q { a with defers := { target := .collected D, args := #[] } :: a.defers } W') :
    (Code.rangeFunc g ps assign body).wp P Q a w := by
  refine (wpIn_wide (n := 0)).1 (wpIn_rangeFunc ?_)
  intro fn _
  obtain ⟨rec, hrec⟩ : ∃ rec : LoopState → Option Code → Loop, rec = fun st pe => { state := st, pending := pe, fn, tmps := a.tmps, params := ps, assign, body, defers := w.heap.size } := ⟨_, rfl⟩
  obtain ⟨W1, hW1⟩ : ∃ W1, (w.alloc (.deferred (some []))).alloc (.loop (rec .ready none)) = W1 := ⟨_, rfl⟩
  have hs1 : W1.heap.size = w.heap.size + 2 := by rw [← hW1]; simp
  have hL1 : W1.heap[w.heap.size + 1]? = some (.loop (rec .ready none)) := by
    rw [← hW1]; have := World.alloc_heap_new (w.alloc (.deferred (some []))) (.loop (rec .ready none)); rwa [World.size_alloc] at this
  have hK1 : W1.heap[w.heap.size]? = some (.deferred (some [])) := by
    rw [← hW1]; exact (Below.heap_alloc _ _ _ (by simp)).trans (World.alloc_heap_new w _)
  have hst1 : Stp O w W1 := by rw [← hW1]; exact ((Stp.refl O w).alloc _).alloc _
  have hb1 : ∀ b, b < w.heap.size → W1.heap[b]? = w.heap[b]? := fun b hb => by
    rw [← hW1]; exact (Below.heap_alloc _ _ _ (by simp; omega)).trans (Below.heap_alloc _ _ _ hb)
  have hI1 : I 0 W1 O := by
    refine hI 0 w O W1 h0 hst1.os hst1.tape hst1.output hst1.size (fun b hb => hb1 b ?_)
    rcases hb with h | h
    · exact hO b h
    · exact h
  have hnO : ∀ b, w.heap.size ≤ b → ¬ O b := fun b hb ho => by have := hO b ho; omega
  refine ⟨w.heap.size + 1, [{ target := .collected w.heap.size, args := #[] }], W1, { target := .fn (.func gf) lb, args := #[.func (.yield (w.heap.size + 1)) #[] #[]] }, W1, gf,
    #[.func (.yield (w.heap.size + 1)) #[] #[]] ++ lb, W1, ?_, ?_, ?_, ?_, fun h => by simp [Fence.wide] at h, ?_⟩
  · rw [← hW1, hrec]; exact run_enterLoop_outer _ _ _ _ _
  · simp only [resolve, hg]
    simp [go_sem]
  · intro f' _; trivial
  · simp [invoke, go_sem, eg]
  · refine callsIn_wide.2 ((hseq.2 W1 (w.heap.size + 1) (fun b => O b ∨ b = w.heap.size + 1)
      (fun k W O1 => ∃ O0, O1 = (fun b => O0 b ∨ b = w.heap.size + 1) ∧ I k W O0 ∧ ¬ O0 (w.heap.size + 1) ∧ ¬ O0 w.heap.size ∧ (∀ b, O0 b → b < W.heap.size) ∧ W.heap[w.heap.size + 1]? = some (.loop (rec .ready none)) ∧ W.heap[w.heap.size]? = some (.deferred (some [])) ∧ Stp O w W ∧ Grw O O0 w W)
      (fun k W O1 => ∃ c O0, O1 = (fun b => O0 b ∨ b = w.heap.size + 1) ∧ Ix c k W O0 ∧ ¬ O0 (w.heap.size + 1) ∧ ¬ O0 w.heap.size ∧ (∀ b, O0 b → b < W.heap.size) ∧ W.heap[w.heap.size + 1]? = some (.loop (rec .done (some c))) ∧ W.heap[w.heap.size]? = some (.deferred (some [])) ∧ Stp O w W ∧ Grw O O0 w W)
      (by omega) (fun b hb => hb1 b (hseq.1 b hb))
      (fun b hb => by rcases hb with hb | hb; have := hO b hb; omega; omega) ?sJ ?sX ?round ⟨O, rfl, hI1, hnO _ (by omega), hnO _ (Nat.le_refl _), fun b hb => by have := hO b hb; omega, hL1, hK1, hst1, fun b hb => ⟨by have := hO b hb; omega, .inl hb⟩⟩).mono ?back)
    case sJ =>
      rintro k W _ W' ⟨O0, rfl, hi, hl0, hk0, hbd, hl, hk, hst, hgr⟩ e1 e2 e3 e4 e5
      have hst' : Stp O w W' := ⟨e1.trans hst.os, e2.trans hst.tape, e3.trans hst.output, Nat.le_trans hst.size e4, fun b hb hn => (e5 b (.inr (by omega))).trans (hst.block b hb hn)⟩
      refine ⟨O0, rfl, hI k W O0 W' hi e1 e2 e3 e4 (fun b hb => e5 b ?_), hl0, hk0, fun b hb => Nat.lt_of_lt_of_le (hbd b hb) e4, (e5 _ (.inl (.inr rfl))).trans hl, (e5 _ (.inr (by omega))).trans hk, hst', fun b hb => ⟨Nat.lt_of_lt_of_le (hbd b hb) e4, (hgr b hb).2⟩⟩
      rcases hb with h | h
      · exact .inl (.inl h)
      · exact .inr (by omega)
    case sX =>
      rintro k W _ W' ⟨c, O0, rfl, hi, hl0, hk0, hbd, hl, hk, hst, hgr⟩ e1 e2 e3 e4 e5
      have hst' : Stp O w W' := ⟨e1.trans hst.os, e2.trans hst.tape, e3.trans hst.output, Nat.le_trans hst.size e4, fun b hb hn => (e5 b (.inr (by omega))).trans (hst.block b hb hn)⟩
      refine ⟨c, O0, rfl, hIx c k W O0 W' hi e1 e2 e3 e4 (fun b hb => e5 b ?_), hl0, hk0, fun b hb => Nat.lt_of_lt_of_le (hbd b hb) e4, (e5 _ (.inl (.inr rfl))).trans hl, (e5 _ (.inr (by omega))).trans hk, hst', fun b hb => ⟨Nat.lt_of_lt_of_le (hbd b hb) e4, (hgr b hb).2⟩⟩
      rcases hb with h | h
      · exact .inl (.inl h)
      · exact .inr (by omega)
    case round =>
      rintro k x W _ hx ⟨O0, rfl, hi, hl0, hk0, hbd, hl, hk, hst, hgr⟩ _
      have hlt : w.heap.size + 1 < W.heap.size := (Array.getElem?_eq_some_iff.1 hl).1
      have hy := run_yield (P := P) (args := enc x) hl (by rw [hrec]; exact hps x)
      rw [hrec] at hy
      refine ⟨fn, _, assign, body, hy, roundIn_of_wpIn trivial (wpIn_mono (hround _ k x W O0 hx) ?_)⟩
      clear hy
      intro e a' W' he
      cases e with
      | normal => ?_
      | exit id => exact he.elim
      | goto t => exact he.elim
      | ret => exact he.elim
      | panic ch => exact he.elim
      | outgrown => exact he.elim
      obtain ⟨rfl, hbody⟩ := he
      refine ⟨_, run_beginRound hl (by rw [hrec]), ?_⟩
      obtain ⟨W2, hW2⟩ : ∃ W2, W.putObj (w.heap.size + 1) (.loop { rec .ready none with state := .busy }) = W2 := ⟨_, rfl⟩
      rw [hW2]
      have hs2 : W2.heap.size = W.heap.size := by rw [← hW2]; simp
      have hl2 : W2.heap[w.heap.size + 1]? = some (.loop { rec .ready none with state := .busy }) := by rw [← hW2]; exact World.putObj_heap_same hlt
      have hk2 : W2.heap[w.heap.size]? = some (.deferred (some [])) := by rw [← hW2]; exact (World.putObj_heap_other (by omega)).trans hk
      have hi2 : I k W2 O0 := by rw [← hW2]; exact hI.putObj hi hl0 (by omega) _
      have hst2 : Stp O w W2 := by rw [← hW2]; exact hst.putObj (.inr (by omega)) _
      have hstW : Stp (fun b => O0 b ∨ b = w.heap.size + 1) W W2 := by rw [← hW2]; exact (Stp.refl _ _).putObj (.inl (.inr rfl)) _
      refine wpIn_mono (hbody W2 hi2 (fun b hb => by rw [hs2]; exact hbd b hb) hst2.size) ?_
      -- what any way out of the body owes
      have fin : ∀ (jump : Option Code) (W3 : World) (O3 : Blk), Stp O0 W2 W3 → Grw O0 O3 W2 W3 → ∃ W4, W4 = W3.putObj (w.heap.size + 1) (.loop (rec (if jump.isNone then .ready else .done) jump)) ∧
          (Instr.endRound (w.heap.size + 1) jump).run P W3 = .ok (.bool jump.isNone) W4 ∧ ¬ O3 (w.heap.size + 1) ∧ ¬ O3 w.heap.size ∧ (∀ b, O3 b → b < W4.heap.size) ∧
          W4.heap[w.heap.size + 1]? = some (.loop (rec (if jump.isNone then .ready else .done) jump)) ∧ W4.heap[w.heap.size]? = some (.deferred (some [])) ∧ Stp O w W4 ∧ Grw O O3 w W4 ∧
          Stp (fun b => O0 b ∨ b = w.heap.size + 1) W W4 ∧ Grw (fun b => O0 b ∨ b = w.heap.size + 1) (fun b => O3 b ∨ b = w.heap.size + 1) W W4 := fun jump W3 O3 h3 g3 => by
        have hl3 := h3.at hl2 hl0
        have hk3 := h3.at hk2 hk0
        have he := run_endRound (P := P) jump hl3
        rw [hrec] at he ⊢
        have n1 : ¬ O3 (w.heap.size + 1) := fun hb => by rcases (g3 _ hb).2 with h | h; exact hl0 h; omega
        have n0 : ¬ O3 w.heap.size := fun hb => by rcases (g3 _ hb).2 with h | h; exact hk0 h; omega
        have s4 := h3.size
        have e4 : (W3.putObj (w.heap.size + 1) (.loop (rec (if jump.isNone then .ready else .done) jump))).heap.size = W3.heap.size := by simp
        rw [hrec] at e4
        refine ⟨_, rfl, he, n1, n0, fun b hb => by rw [e4]; exact (g3 b hb).1, World.putObj_heap_same (Array.getElem?_eq_some_iff.1 hl3).1, (World.putObj_heap_other (by omega)).trans hk3, ?_, ?_, ?_, ?_⟩
        · exact (hst2.then h3 (fun b hb => (hgr b hb).2)).putObj (.inr (by omega)) _
        · intro b hb
          refine ⟨by rw [e4]; exact (g3 b hb).1, ?_⟩
          rcases (g3 b hb).2 with h | h
          · exact (hgr b h).2
          · right; omega
        · exact (hstW.then h3 (fun b hb => .inl (.inl hb))).putObj (.inl (.inr rfl)) _
        · intro b hb
          rcases hb with hb | hb
          · refine ⟨by rw [e4]; exact (g3 b hb).1, ?_⟩
            rcases (g3 b hb).2 with h | h
            · exact .inl (.inl h)
            · right; omega
          · subst hb
            exact ⟨by rw [e4]; omega, .inl (.inr rfl)⟩
      rintro e a3 W3 hp
      cases e with
      | normal =>
        obtain ⟨O3, h3, g3, hi3⟩ := hp
        obtain ⟨W4, e4, he, n1, n0, bd, l4, k4, s4, gr4, sW, gW⟩ := fin none W3 O3 h3 g3
        exact ⟨_, _, he, .inl ⟨rfl, _, ⟨O3, rfl, by rw [e4]; exact hI.putObj hi3 n1 (by omega) _, n1, n0, bd, l4, k4, s4, gr4⟩, sW, gW⟩⟩
      | ret =>
        obtain ⟨O3, h3, g3, hi3⟩ := hp
        obtain ⟨W4, e4, he, n1, n0, bd, l4, k4, s4, gr4, sW, gW⟩ := fin (some .ret) W3 O3 h3 g3
        exact ⟨_, _, he, .inr ⟨rfl, _, ⟨.ret, O3, rfl, by rw [e4]; exact (hIx _).putObj hi3 n1 (by omega) _, n1, n0, bd, l4, k4, s4, gr4⟩, sW, gW⟩⟩
      | exit id =>
        obtain ⟨O3, h3, g3, hi3⟩ := hp
        obtain ⟨W4, e4, he, n1, n0, bd, l4, k4, s4, gr4, sW, gW⟩ := fin (some (.exit id)) W3 O3 h3 g3
        exact ⟨_, _, he, .inr ⟨rfl, _, ⟨.exit id, O3, rfl, by rw [e4]; exact (hIx _).putObj hi3 n1 (by omega) _, n1, n0, bd, l4, k4, s4, gr4⟩, sW, gW⟩⟩
      | goto t =>
        obtain ⟨O3, h3, g3, hi3⟩ := hp
        obtain ⟨W4, e4, he, n1, n0, bd, l4, k4, s4, gr4, sW, gW⟩ := fin (some (.goto t)) W3 O3 h3 g3
        exact ⟨_, _, he, .inr ⟨rfl, _, ⟨.goto t, O3, rfl, by rw [e4]; exact (hIx _).putObj hi3 n1 (by omega) _, n1, n0, bd, l4, k4, s4, gr4⟩, sW, gW⟩⟩
      | panic ch => exact hp.elim
      | outgrown => exact hp.elim
    case back =>
      rintro e W2 ⟨⟨v, rfl⟩, (⟨_, ⟨O0, rfl, hi, hl0, hk0, hbd, hl, hk, hst, hgr⟩, _, _⟩ | ⟨k, _, hkx, ⟨c, O0, rfl, hi, hl0, hk0, hbd, hl, hk, hst, hgr⟩, _, _⟩)⟩
      · have he := run_endLoop (P := P) hl (by rw [hrec]; simp)
        rw [hrec] at he
        refine ⟨none, _, he, hdone _ _ O0 (Nat.le_refl _) (hI.putObj hi hl0 (by omega) _) (hst.putObj (.inr (by omega)) _) (fun b hb => ⟨by simpa using hbd b hb, (hgr b hb).2⟩) ((World.putObj_heap_other (by omega)).trans hk) hk0⟩
      · have he := run_endLoop (P := P) hl (by rw [hrec]; simp)
        rw [hrec] at he
        refine ⟨some c, _, he, (wpIn_wide (n := 0)).2 (hstop _ c k _ O0 (Nat.le_refl _) hkx ((hIx c).putObj hi hl0 (by omega) _) (hst.putObj (.inr (by omega)) _) (fun b hb => ⟨by simpa using hbd b hb, (hgr b hb).2⟩) ((World.putObj_heap_other (by omega)).trans hk) hk0)⟩

/-- A function that held a range over a function leaves: its mark is taken up. -/
theorem leave_normal {P : Program} {n : Nat} {fn : Func} {R : Ending → World → Prop} {tmps : Array Value} {D : Nat} {W : World} (v : Value) (hK : W.heap[D]? = some (.deferred (some [])))
    (hv : ∀ w, (results fn tmps).run P w = .ok v w) (hR : R (.returned v) (W.putObj D (.deferred none))) :
    bodyPostM Fence.wide n P fn R .normal { tmps, defers := [{ target := .collected D, args := #[] }] } W := by
  refine ⟨by simp, .inl ⟨_, _, rfl, run_takeDeferred hK, ?_⟩⟩
  exact ⟨v, hv _, hR⟩
theorem leave_ret {P : Program} {n : Nat} {fn : Func} {R : Ending → World → Prop} {tmps : Array Value} {D : Nat} {W : World} (v : Value) (hK : W.heap[D]? = some (.deferred (some [])))
    (hv : ∀ w, (results fn tmps).run P w = .ok v w) (hR : R (.returned v) (W.putObj D (.deferred none))) :
    bodyPostM Fence.wide n P fn R .ret { tmps, defers := [{ target := .collected D, args := #[] }] } W := by
  refine ⟨by simp, .inl ⟨_, _, rfl, run_takeDeferred hK, ?_⟩⟩
  exact ⟨v, hv _, hR⟩

end Go.Proofs.Ytamnmpcnhaeigaa

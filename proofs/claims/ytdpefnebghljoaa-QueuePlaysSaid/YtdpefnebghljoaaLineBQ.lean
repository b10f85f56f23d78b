/- The layer 'line': what counts, looks for, tells the first of who stands there. -/
import Derived.Test.YtdpefnebghljoaaLineQ
import Derived.RangeFuncRecord
namespace Go.Proofs.Ytdpefnebghljoaa
open Go.RowKit Go.Shelf
attribute [local go_sem] Oper.semAt_some

theorem leave_ret_at {P : Program} {n : Nat} {fn : Func} {R : Ending → World → Prop} {tmps : Array Value} {D : Nat} {W : World} (v : Value) (hK : W.heap[D]? = some (.deferred (some [])))
    (hv : (results fn tmps).run P (W.putObj D (.deferred none)) = .ok v (W.putObj D (.deferred none))) (hR : R (.returned v) (W.putObj D (.deferred none))) :
    bodyPostM Fence.wide n P fn R .ret { tmps, defers := [{ target := .collected D, args := #[] }] } W := by
  refine ⟨by simp, .inl ⟨_, _, rfl, run_takeDeferred hK, ?_⟩⟩
  exact ⟨v, hv, hR⟩
theorem leave_normal_at {P : Program} {n : Nat} {fn : Func} {R : Ending → World → Prop} {tmps : Array Value} {D : Nat} {W : World} (v : Value) (hK : W.heap[D]? = some (.deferred (some [])))
    (hv : (results fn tmps).run P (W.putObj D (.deferred none)) = .ok v (W.putObj D (.deferred none))) (hR : R (.returned v) (W.putObj D (.deferred none))) :
    bodyPostM Fence.wide n P fn R .normal { tmps, defers := [{ target := .collected D, args := #[] }] } W := by
  refine ⟨by simp, .inl ⟨_, _, rfl, run_takeDeferred hK, ?_⟩⟩
  exact ⟨v, hv, hR⟩

/-- What digits leaves: a function that tells the digits; the block that it takes apart is new. -/
def DigPost (w : World) (n : Nat) (e : Ending) (w' : World) : Prop :=
  ∃ (v : Value) (g : FuncId) (lb : Array Value), e = .returned v ∧ v = .func (.func g) #[] lb ∧ (∀ args w, (callFunc g args).run Try.prog w = .ok (.enter g args) w) ∧
    IterE Try.prog w' (fun _ => False) (fun x => x = w.heap.size) (fun _ _ => True) id 0 g lb encP (digP n) ∧ Fr [] w w' ∧ w.heap.size < w'.heap.size
theorem digits_any (w : World) (n : Nat) (hn : n < 9223372036854775808) : Calls Try.prog 61 #[.int .i64 (n : Int)] w (DigPost w n) := by
  go_enter Try.func61, Try.ntmps61
  go_wp2
  go_ret
  exact ⟨_, _, _, rfl, rfl, fun _ _ => rfl, digits_iter _ _ n hn (heap_alloc_new w _), (Fr.refl [] w).alloc _, by simp⟩

/-- The rounds write the blocks of O alone; ob says what lies there ahead of round k. -/
def BoxInv (w2 : World) (E O0 : Blk) (ob : Nat → Nat → Obj) : Nat → World → Blk → Prop := fun k W O =>
  O = O0 ∧ (∀ b, O0 b → W.heap[b]? = some (ob k b)) ∧ Stp (fun x => O0 x ∨ E x) w2 W
theorem BoxInv.stable (w2 : World) (E O0 : Blk) (ob : Nat → Nat → Obj) {B : Nat} (hB : w2.heap.size ≤ B) : StableE B E (BoxInv w2 E O0 ob) := by
  rintro k W _ W' ⟨rfl, h1, hs⟩ e1 e2 e3 e4 e5
  refine ⟨rfl, fun b hb => (e5 b (.inl hb)).trans (h1 b hb), ⟨e1.trans hs.os, e2.trans hs.tape, e3.trans hs.output, Nat.le_trans hs.size e4, fun b hb hn => (e5 b (.inr ⟨by omega, fun h => hn (.inr h)⟩)).trans (hs.block b hb hn)⟩⟩
theorem BoxInv.next {w2 W2 W3 : World} {E O0 : Blk} {ob ob' : Nat → Nat → Obj} {k k' : Nat} (h : BoxInv w2 E O0 ob k W2 O0) (s : Stp O0 W2 W3) (h3 : ∀ b, O0 b → W3.heap[b]? = some (ob' k' b)) :
    ∃ O', Stp O0 W2 W3 ∧ Grw O0 O' W2 W3 ∧ BoxInv w2 E O0 ob' k' W3 O' :=
  ⟨O0, s, fun b hb => ⟨heap_lt (h3 b hb), .inl hb⟩, rfl, h3, h.2.2.then s (fun x hx => .inl (.inl hx))⟩

set_option maxHeartbeats 400000 in
theorem len_any (w : World) (n : Nat) (hn : n < 9223372036854775808) : Calls Try.prog 51 #[.int .i64 (n : Int)] w fun e w' => e = .returned (.int .i64 ((digW n).length : Int)) ∧ Fr [] w w' := by
  refine (callsIn_wide (n := 3)).1 (callsIn_of_wp_marks Try.func51 rfl trivial (wpIn_wide.2 ?_) rfl)
  simp only [Try.ntmps51, List.size_toArray, List.length_cons, List.length_nil, Nat.reduceAdd, Nat.reduceSub, Array.replicate_succ, Array.replicate_zero, List.push_toArray, List.append_toArray, List.nil_append, List.cons_append]
  go_wp2_with fail
  refine (digits_any _ n hn).mono ?_
  rintro e w2 ⟨v, g, lb, rfl, rfl, hg, hI, f2, hlt2⟩
  have hc0 := (Stp.of_fr f2).at (heap_alloc_new w (.cells #[.int .i64 0] 3)) (by simp)
  have F2 := ((Fr.refl [] w).alloc (.cells #[.int .i64 0] 3)).trans f2
  simp only [World.size_alloc] at hI hlt2
  have h16 := length_digW n
  have HG := Lib.hid hg; have HI := Lib.hid hI; have HC := Lib.hid hc0; clear hg hI hc0 f2
  go_wp2
  refine wp_rangeE (xs := digP n) (enc := encP) rfl HG.out HI.out (fun x => rfl)
    (BoxInv w2 (fun x => x = w.heap.size + 1) (fun x => x = w.heap.size) (fun k _ => .cells #[.int .i64 k] 3)) (fun _ _ _ _ => False) (BoxInv.stable _ _ _ _ (Nat.le_refl _)) (fun _ => StableE.never)
    (fun x => x = w.heap.size) (fun b hb => by show b < w2.heap.size; have : b = w.heap.size := hb; omega) (fun b hb h => by rcases hb with hb | hb; exact hb.elim; have : b = w.heap.size := h; have : b = w.heap.size + 1 := hb; omega) ⟨rfl, fun b hb => by subst hb; exact HC.out, Stp.refl _ _⟩ ?round ?done ?stop
  case round =>
    intro l' k x W1 O1 hx
    have hk : k < 16 := by have := (List.getElem?_eq_some_iff.1 hx).1; rw [length_digP] at this; omega
    clear hx
    simp only [encP, List.zip_toArray, List.zip_cons_cons, List.zip_nil_right, List.foldl_toArray', List.foldl_cons, List.foldl_nil, List.setIfInBounds_toArray, List.set_cons_zero, List.set_cons_succ]
    gi_wp2
    refine ⟨rfl, ?_⟩
    rintro W2 hJ hb2 hsz2
    obtain rfl := hJ.1
    have hc := hJ.2.1 _ rfl
    have q1 : W2.cell? ⟨w.heap.size, 0, none⟩ = some (.int .i64 k) := cell_of (i := 0) hc rfl
    have q2 : W2.frozen? ⟨w.heap.size, 0, none⟩ = false := frozen_of hc
    have fin := hJ.next (W3 := W2.setCell ⟨w.heap.size, 0, none⟩ (.int .i64 ((k : Int) + 1))) (ob' := fun k _ => .cells #[.int .i64 k] 3) (k' := k + 1) ((Stp.refl (fun x => x = w.heap.size) W2).setCell (p := ⟨w.heap.size, 0, none⟩) (.inl rfl) _) (fun b hb => by
      subst hb
      have := heap_setCell_same (i := 0) hc (.int .i64 ((k : Int) + 1))
      simpa using this)
    have FIN := Lib.hid fin; clear fin hJ hc
    gi_wp2
    exact FIN.out
  case done =>
    rintro D W' O' hD hJ _ hst _ hK hnD
    obtain rfl := hJ.1
    have hc := hJ.2.1 _ rfl
    rw [length_digP] at hc
    have q1 : W'.cell? ⟨w.heap.size, 0, none⟩ = some (.int .i64 ((digW n).length : Int)) := cell_of (i := 0) hc rfl
    have fin : Fr [] w (W'.putObj D (.deferred none)) := (((Stp.of_fr F2).then hst (fun x hx => by right; omega)).putObj (.inr (by have := F2.size; omega)) _).to_fr (fun x hx => by simp at hx)
    have FIN := Lib.hid fin; clear fin hc hst hJ
    go_wp2
    exact leave_normal (.int .i64 ((digW n).length : Int)) hK (fun _ => results_tmp (t := 2) rfl _ _ _) ⟨rfl, FIN.out⟩
  case stop => exact fun _ _ _ _ _ _ _ h => h.elim

end Go.Proofs.Ytdpefnebghljoaa

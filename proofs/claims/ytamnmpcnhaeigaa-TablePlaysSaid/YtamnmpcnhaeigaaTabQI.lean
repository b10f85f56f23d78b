/- Table[int,int]: Least. Printed by gen_tab.py. -/
import Derived.Test.YtamnmpcnhaeigaaTabMI
namespace Go.Proofs.Ytamnmpcnhaeigaa.TabI
open Go.RowKit Go.Shelf
attribute [local go_sem] Oper.semAt_some
set_option linter.unusedVariables false

theorem leave_ret_at {P : Program} {n : Nat} {fn : Func} {R : Ending → World → Prop} {tmps : Array Value} {D : Nat} {W : World} (v : Value) (hK : W.heap[D]? = some (.deferred (some [])))
    (hv : (results fn tmps).run P (W.putObj D (.deferred none)) = .ok v (W.putObj D (.deferred none))) (hR : R (.returned v) (W.putObj D (.deferred none))) :
    bodyPostM Fence.wide n P fn R .ret { tmps, defers := [{ target := .collected D, args := #[] }] } W := by
  refine ⟨by simp, .inl ⟨_, _, rfl, run_takeDeferred hK, ?_⟩⟩
  exact ⟨v, hv, hR⟩

/-- What Least says. -/
def leastV : List (Int × Int) → Value
  | [] => .tuple #[kv k0, vv v0, .bool false]
  | x :: _ => .tuple #[kv x.1, vv x.2, .bool true]

/-- The three result cells. -/
def Cells3 (b : Nat) (x : Int) (y : Int) (z : Bool) (W : World) : Prop :=
  W.heap[b]? = some (.cells #[kv x] 3 (0, 0)) ∧ W.heap[b + 1]? = some (.cells #[vv y] 3 (0, 0)) ∧ W.heap[b + 1 + 1]? = some (.cells #[.bool z] 4 (0, 0))
def LI (b : Nat) (x : Int) (y : Int) (z : Bool) : Nat → World → Blk → Prop := fun _ W O => O = (fun j => j = b ∨ j = b + 1 ∨ j = b + 1 + 1) ∧ Cells3 b x y z W
theorem LI.stable {B b : Nat} {x : Int} {y : Int} {z : Bool} : Stable B (LI b x y z) := by
  rintro k W _ W' ⟨rfl, h1, h2, h3⟩ e1 e2 e3 e4 e5
  exact ⟨rfl, (e5 _ (.inl (.inl rfl))).trans h1, (e5 _ (.inl (.inr (.inl rfl)))).trans h2, (e5 _ (.inl (.inr (.inr rfl)))).trans h3⟩

theorem Cells3.set {b : Nat} {x x' : Int} {y y' : Int} {z z' : Bool} {W : World} (h : Cells3 b x y z W) : Cells3 b x' y' z' (((W.setCell ⟨b, 0, none⟩ (kv x')).setCell ⟨b + 1, 0, none⟩ (vv y')).setCell ⟨b + 1 + 1, 0, none⟩ (.bool z')) := by
  obtain ⟨h1, h2, h3⟩ := h
  refine ⟨?_, ?_, ?_⟩
  · refine heap_setCell_ne (a := ⟨b + 1 + 1, 0, none⟩) (heap_setCell_ne (a := ⟨b + 1, 0, none⟩) ?_ (show b ≠ b + 1 by omega) _) (show b ≠ b + 1 + 1 by omega) _
    have := heap_setCell_same (i := 0) h1 (kv x'); simpa using this
  · refine heap_setCell_ne (a := ⟨b + 1 + 1, 0, none⟩) ?_ (show b + 1 ≠ b + 1 + 1 by omega) _
    have := heap_setCell_same (i := 0) (heap_setCell_ne (a := ⟨b, 0, none⟩) h2 (show b + 1 ≠ b by omega) (kv x')) (vv y'); simpa using this
  · have := heap_setCell_same (i := 0) (heap_setCell_ne (a := ⟨b + 1, 0, none⟩) (heap_setCell_ne (a := ⟨b, 0, none⟩) h3 (show b + 1 + 1 ≠ b by omega) (kv x')) (show b + 1 + 1 ≠ b + 1 by omega) (vv y')) (.bool z'); simpa using this

theorem Cells3.put {b : Nat} {x : Int} {y : Int} {z : Bool} {W : World} (h : Cells3 b x y z W) {D : Nat} (o : Obj) (h1 : D ≠ b) (h2 : D ≠ b + 1) (h3 : D ≠ b + 1 + 1) : Cells3 b x y z (W.putObj D o) :=
  ⟨(World.putObj_heap_other (fun e => h1 e.symm)).trans h.1, (World.putObj_heap_other (fun e => h2 e.symm)).trans h.2.1, (World.putObj_heap_other (fun e => h3 e.symm)).trans h.2.2⟩
theorem Cells3.get {b : Nat} {x : Int} {y : Int} {z : Bool} {W : World} (h : Cells3 b x y z W) : W.cell? ⟨b, 0, none⟩ = some (kv x) ∧ W.cell? ⟨b + 1, 0, none⟩ = some (vv y) ∧ W.cell? ⟨b + 1 + 1, 0, none⟩ = some (.bool z) :=
  ⟨cell_of (i := 0) h.1 rfl, cell_of (i := 0) h.2.1 rfl, cell_of (i := 0) h.2.2 rfl⟩

set_option maxHeartbeats 2000000 in
theorem least_any (w : World) (p : Nat) (s : Value) (L : List (Int × Int)) (hn : L.length ≤ 1000) (ht : TabS w p s) (hr : Things w s L) : Calls Try.prog 28 #[.pointer (some ⟨p, 0, none⟩)] w fun e w' => e = .returned (leastV L) ∧ Fr [] w w' := by
  refine (callsIn_wide (n := 3)).1 (callsIn_of_wp_marks Try.func28 rfl trivial (wpIn_wide.2 ?_) rfl)
  simp only [Try.ntmps28, List.size_toArray, List.length_cons, List.length_nil, Nat.reduceAdd, Nat.reduceSub, Array.replicate_succ, Array.replicate_zero, List.push_toArray, List.append_toArray, List.nil_append, List.cons_append]
  go_wp2_with fail
  refine (all_fn _ p).mono ?_
  rintro e w2 ⟨bx, rfl, hbx, f2⟩
  have F0 := (((Fr.refl [] w).alloc (.cells #[kv k0] 3)).alloc (.cells #[vv v0] 3)).alloc (.cells #[.bool false] 4)
  have F2 : Fr [] w w2 := F0.trans f2
  have hc : Cells3 w.heap.size k0 v0 false w2 := by
    refine ⟨f2.at (heap_alloc_keep (heap_alloc_keep (heap_alloc_new w _) _) _) (by simp), f2.at (heap_alloc_keep ?_ _) (by simp), f2.at ?_ (by simp)⟩
    · have := heap_alloc_new (w.alloc (.cells #[kv k0] 3)) (.cells #[vv v0] 3)
      rw [World.size_alloc] at this; exact this
    · have := heap_alloc_new ((w.alloc (.cells #[kv k0] 3)).alloc (.cells #[vv v0] 3)) (.cells #[.bool false] 4)
      rw [World.size_alloc, World.size_alloc] at this; exact this
  have hit := all_iter w2 p bx s L hn hbx (F2.at ht (by simp)) (hr.fr F2)
  have hlt2 : w.heap.size + 1 + 1 + 1 ≤ w2.heap.size := by have := f2.size; simp only [World.size_alloc] at this; exact this
  have HI := Lib.hid hit; have HC := Lib.hid hc; have HF := Lib.hid F2; clear hit hc f2 F0 hbx ht hr F2
  obtain ⟨b, hbe⟩ : ∃ b, w.heap.size = b := ⟨_, rfl⟩
  rw [hbe] at HC hlt2 ⊢
  have hbw : w.heap.size ≤ b := by omega
  clear hbe
  go_wp2
  refine wp_range (xs := L) (enc := encP) rfl (fun _ _ => rfl) HI.out (fun x => rfl)
    (fun k W O => k = 0 ∧ LI b k0 v0 false k W O) (fun c k W O => ∃ x, L.head? = some x ∧ c = .ret ∧ LI b x.1 x.2 true k W O)
    (LI.stable.and (fun k => k = 0)) (fun c => by
      rintro k W O W' ⟨x, hx, hc, hl⟩ e1 e2 e3 e4 e5
      exact ⟨x, hx, hc, LI.stable k W O W' hl e1 e2 e3 e4 e5⟩) (fun j => j = b ∨ j = b + 1 ∨ j = b + 1 + 1) (fun j hj => by have h : j = b ∨ j = b + 1 ∨ j = b + 1 + 1 := hj; omega)
    ⟨rfl, rfl, HC.out⟩ ?round ?done ?stop
  case round =>
    rintro l' k ⟨x, y⟩ W1 O1 hx
    simp only [encP, kv, vv, List.zip_toArray, List.zip_cons_cons, List.zip_nil_right, List.foldl_toArray', List.foldl_cons, List.foldl_nil, List.setIfInBounds_toArray, List.set_cons_zero, List.set_cons_succ]
    have HX := Lib.hid hx; clear hx
    gi_wp2
    refine ⟨rfl, ?_⟩
    rintro W2 ⟨hk0, rfl, hc⟩ hb2 hsz2
    subst hk0
    have q1 : W2.cell? ⟨b, 0, none⟩ = some (kv k0) := cell_of (i := 0) hc.1 rfl
    have z1 : W2.frozen? ⟨b, 0, none⟩ = false := frozen_of hc.1
    have q2 : W2.cell? ⟨b + 1, 0, none⟩ = some (vv v0) := cell_of (i := 0) hc.2.1 rfl
    have z2 : W2.frozen? ⟨b + 1, 0, none⟩ = false := frozen_of hc.2.1
    have q3 : W2.cell? ⟨b + 1 + 1, 0, none⟩ = some (.bool false) := cell_of (i := 0) hc.2.2 rfl
    have z3 : W2.frozen? ⟨b + 1 + 1, 0, none⟩ = false := frozen_of hc.2.2
    have HS := Lib.hid (hc.set (x' := x) (y' := y) (z' := true))
    have hl := heap_lt hc.2.2
    clear hc hb2
    gi_wp2
    refine ⟨fun j => j = b ∨ j = b + 1 ∨ j = b + 1 + 1, ((((Stp.refl _ W2).setCell (p := ⟨b, 0, none⟩) (.inl (.inl rfl)) _).setCell (p := ⟨b + 1, 0, none⟩) (.inl (.inr (.inl rfl))) _).setCell (p := ⟨b + 1 + 1, 0, none⟩) (.inl (.inr (.inr rfl))) _), fun j hj => ⟨?_, .inl hj⟩, (x, y), ?_, rfl, rfl, HS.out⟩
    · have h : j = b ∨ j = b + 1 ∨ j = b + 1 + 1 := hj
      simp only [World.setCell, Array.size_modify]
      omega
    · have := HX.out; rw [List.head?_eq_getElem?]; exact this
  case done =>
    rintro D W' O' hD ⟨hk0, rfl, hc⟩ hst _ hK hnD
    have q1 : W'.cell? ⟨b, 0, none⟩ = some (kv k0) := cell_of (i := 0) hc.1 rfl
    have z1 : W'.frozen? ⟨b, 0, none⟩ = false := frozen_of hc.1
    have q2 : W'.cell? ⟨b + 1, 0, none⟩ = some (vv v0) := cell_of (i := 0) hc.2.1 rfl
    have z2 : W'.frozen? ⟨b + 1, 0, none⟩ = false := frozen_of hc.2.1
    have q3 : W'.cell? ⟨b + 1 + 1, 0, none⟩ = some (.bool false) := cell_of (i := 0) hc.2.2 rfl
    have z3 : W'.frozen? ⟨b + 1 + 1, 0, none⟩ = false := frozen_of hc.2.2
    have hL0 : L = [] := List.eq_nil_of_length_eq_zero hk0
    have hD1 : D ≠ b := fun e => hnD (.inl e)
    have hD2 : D ≠ b + 1 := fun e => hnD (.inr (.inl e))
    have hD3 : D ≠ b + 1 + 1 := fun e => hnD (.inr (.inr e))
    have hc3 := hc.set (x' := k0) (y' := v0) (z' := false)
    have fin : Fr [] w ((((W'.setCell ⟨b, 0, none⟩ (kv k0)).setCell ⟨b + 1, 0, none⟩ (vv v0)).setCell ⟨b + 1 + 1, 0, none⟩ (.bool false)).putObj D (.deferred none)) := by
      have h1 : Stp (fun _ => False) w W' := ((Stp.of_fr HF.out).mono (fun x hx => by simp at hx)).then hst (fun x hx => .inr (by have h : x = b ∨ x = b + 1 ∨ x = b + 1 + 1 := hx; omega))
      exact ((((h1.setCell (p := ⟨b, 0, none⟩) (.inr hbw) _).setCell (p := ⟨b + 1, 0, none⟩) (.inr (Nat.le_succ_of_le hbw)) _).setCell (p := ⟨b + 1 + 1, 0, none⟩) (.inr (Nat.le_succ_of_le (Nat.le_succ_of_le hbw))) _).putObj (.inr (by have := HF.out.size; omega)) _).to_fr (fun x hx => hx.elim)
    have hK2 : (((W'.setCell ⟨b, 0, none⟩ (kv k0)).setCell ⟨b + 1, 0, none⟩ (vv v0)).setCell ⟨b + 1 + 1, 0, none⟩ (.bool false)).heap[D]? = some (.deferred (some [])) :=
      heap_setCell_ne (a := ⟨b + 1 + 1, 0, none⟩) (heap_setCell_ne (a := ⟨b + 1, 0, none⟩) (heap_setCell_ne (a := ⟨b, 0, none⟩) hK hD1 _) hD2 _) hD3 _
    have FIN := Lib.hid fin; have R := Lib.hid (hc3.put (.deferred none) hD1 hD2 hD3).get; have HK2 := Lib.hid hK2; have HL0 := Lib.hid hL0
    clear fin hK2 hst hc hc3 hk0 hL0
    go_wp2
    refine leave_ret_at (.tuple #[kv k0, vv v0, .bool false]) HK2.out ?_ ?_
    · obtain ⟨r1, r2, r3⟩ := R.out
      simp only [kv, vv, k0, v0] at r1 r2 r3 ⊢
      simp [results, Try.f28, go_sem, r1, r2, r3]
    · exact ⟨by rw [HL0.out]; rfl, FIN.out⟩
  case stop =>
    rintro D c k W' O' hD hk ⟨x, hx, rfl, rfl, hc⟩ hst _ hK hnD
    have hD1 : D ≠ b := fun e => hnD (.inl e)
    have hD2 : D ≠ b + 1 := fun e => hnD (.inr (.inl e))
    have hD3 : D ≠ b + 1 + 1 := fun e => hnD (.inr (.inr e))
    have fin : Fr [] w (W'.putObj D (.deferred none)) := by
      have h1 : Stp (fun _ => False) w W' := ((Stp.of_fr HF.out).mono (fun x hx => by simp at hx)).then hst (fun x hx => .inr (by have h : x = b ∨ x = b + 1 ∨ x = b + 1 + 1 := hx; omega))
      exact (h1.putObj (.inr (by have := HF.out.size; omega)) _).to_fr (fun x hx => hx.elim)
    have hl : leastV L = .tuple #[kv x.1, vv x.2, .bool true] := by
      cases L with
      | nil => cases hx
      | cons y L => simp at hx; subst hx; rfl
    have FIN := Lib.hid fin; have R := Lib.hid (hc.put (.deferred none) hD1 hD2 hD3).get; have HL := Lib.hid hl
    clear fin hst hc hl
    go_wp2
    refine leave_ret_at (.tuple #[kv x.1, vv x.2, .bool true]) hK ?_ ?_
    · obtain ⟨r1, r2, r3⟩ := R.out
      simp only [kv, vv] at r1 r2 r3 ⊢
      simp [results, Try.f28, go_sem, r1, r2, r3]
    · exact ⟨by rw [HL.out], FIN.out⟩

end Go.Proofs.Ytamnmpcnhaeigaa.TabI

/- Table[int,int]: New, Len, Put, Get, Drop. Printed by gen_tab.py. -/
import Derived.Test.YtamnmpcnhaeigaaTabFI
namespace Go.Proofs.Ytamnmpcnhaeigaa.TabI
open Go.RowKit
set_option linter.unusedVariables false

/-- The table p tells the pairs L; all its blocks are from B on. -/
structure TabAt (B : Nat) (w : World) (p : Nat) (L : List (Int × Int)) : Prop where
  at_ : ∃ s, TabS w p s ∧ Things w s L ∧ p ∉ rowsOf s ∧ ∀ x ∈ rowsOf s, B ≤ x
  low : B ≤ p
  up : Rising lt L

theorem new_any (w : World) : Calls Try.prog 23 #[] w fun e w' => ∃ p, e = .returned (.pointer (some ⟨p, 0, none⟩)) ∧ w.heap.size ≤ p ∧ TabAt w.heap.size w' p [] ∧ Fr [] w w' := by
  have hb := heap_alloc_new w (.cells #[.slice none 0 0] 72 (0, 0))
  have F1 := (Fr.refl [] w).alloc (.cells #[.slice none 0 0] 72 (0, 0))
  go_enter Try.func23, Try.ntmps23
  go_wp2
  go_ret
  exact ⟨_, rfl, Nat.le_refl _, ⟨⟨_, hb, .inl ⟨rfl, rfl⟩, by simp [rowsOf], by simp [rowsOf]⟩, Nat.le_refl _, fun i j x y _ h => by simp at h⟩, F1⟩

theorem len_any (B : Nat) (w : World) (p : Nat) (L : List (Int × Int)) (ht : TabAt B w p L) : Calls Try.prog 17 #[.pointer (some ⟨p, 0, none⟩)] w fun e w' => e = .returned (.int .i64 L.length) ∧ w' = w := by
  obtain ⟨s, hs, hr, _, _⟩ := ht.at_
  have c1 : w.cell? ⟨p, 0, none⟩ = some s := cell_of (c := #[s]) hs rfl
  rcases hr with ⟨rfl, rfl⟩ | ⟨q, c, rfl, hc, hc63, hr⟩
  · go_enter Try.func17, Try.ntmps17
    go_wp2
    go_ret
    exact ⟨rfl, rfl⟩
  · clear hr
    go_enter Try.func17, Try.ntmps17
    go_wp2
    go_ret
    exact ⟨rfl, rfl⟩

/-- What Get says. -/
def got (L : List (Int × Int)) (k : Int) : Int := if has lt L k then match L[Go.Proofs.Ytamnmpcnhaeigaa.at_ lt L k]? with | some x => x.2 | none => v0 else v0

set_option maxHeartbeats 1000000 in
theorem get_any (B : Nat) (w : World) (p : Nat) (L : List (Int × Int)) (k : Int) (hn : L.length ≤ 1000) (ht : TabAt B w p L) : Calls Try.prog 11 #[.pointer (some ⟨p, 0, none⟩), kv k] w fun e w' => e = .returned (.tuple #[vv (got L k), .bool (has lt L k)]) ∧ Fr [] w w' := by
  obtain ⟨s, hs, hr, _, _⟩ := ht.at_
  have HP := Lib.hid (place_any w p s L k hn hs hr ht.up)
  obtain ⟨kb, hkb⟩ : ∃ x, kv k = x := ⟨_, rfl⟩
  rw [hkb] at HP ⊢
  have c1 : w.cell? ⟨p, 0, none⟩ = some s := cell_of (c := #[s]) hs rfl
  have hle := at_le lt L k
  obtain ⟨hh, HH⟩ : ∃ b, has lt L k = b := ⟨_, rfl⟩
  rw [HH] at HP ⊢
  cases hh with
  | false =>
    have hg : got L k = v0 := by simp [got, HH]
    rw [hg]
    have hz : vv v0 = .int .i64 0 := rfl
    rw [hz]
    clear hg hz HH hkb hr
    generalize Go.Proofs.Ytamnmpcnhaeigaa.at_ lt L k = i at HP hle
    go_enter Try.func11, Try.ntmps11
    go_wp2_with fail
    refine HP.out.mono ?_
    rintro e w1 ⟨rfl, f1⟩
    go_wp2_with fail
    go_ret2
    exact ⟨rfl, f1⟩
  | true =>
    obtain ⟨⟨a, v⟩, hx⟩ : ∃ x, L[Go.Proofs.Ytamnmpcnhaeigaa.at_ lt L k]? = some x := by
      cases h : L[Go.Proofs.Ytamnmpcnhaeigaa.at_ lt L k]? with
      | some x => exact ⟨x, rfl⟩
      | none => simp [has, h] at HH
    have hg : got L k = v := by simp [got, HH, hx]
    rw [hg]
    have hil := (List.getElem?_eq_some_iff.1 hx).1
    rcases hr with ⟨rfl, rfl⟩ | ⟨q, c, rfl, hc, hc63, hr⟩
    · simp at hx
    have HW := Lib.hid fun (w' : World) (f : Fr [] w w') => (hr.fr f (by simp)).what hx
    generalize Go.Proofs.Ytamnmpcnhaeigaa.at_ lt L k = i at HP hil HW
    clear hg HH hkb hr hx hle
    generalize vv v = vx at HW ⊢
    obtain ⟨n, hn'⟩ : ∃ n, L.length = n := ⟨_, rfl⟩
    rw [hn'] at hil hc c1
    clear hn' hs hn ht
    go_enter Try.func11, Try.ntmps11
    go_wp2_with fail
    refine HP.out.mono ?_
    rintro e w1 ⟨rfl, f1⟩
    have c2 := f1.cell c1 (by simp)
    have c3 := HW.out w1 f1
    go_wp2_with fail
    go_ret2
    exact ⟨rfl, f1⟩

end Go.Proofs.Ytamnmpcnhaeigaa.TabI

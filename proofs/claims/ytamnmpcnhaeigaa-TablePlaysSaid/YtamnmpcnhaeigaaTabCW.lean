/- Table[int,string]: the row as a flat list; Clone, Delete. Printed by gen_tab.py. -/
import Derived.Test.YtamnmpcnhaeigaaTabBW
import Derived.Test.YtamnmpcnhaeigaaTabRow
namespace Go.Proofs.Ytamnmpcnhaeigaa.TabW
open Go.RowKit
set_option linter.unusedVariables false

def flat (L : List (Int × ByteArray)) : List Value := L.flatMap fun x => [kv x.1, vv x.2]
theorem flat_cons (x : Int × ByteArray) (L : List (Int × ByteArray)) : flat (x :: L) = kv x.1 :: vv x.2 :: flat L := by simp [flat]
theorem flat_append (A B : List (Int × ByteArray)) : flat (A ++ B) = flat A ++ flat B := by simp [flat]
theorem flat_length : ∀ L : List (Int × ByteArray), (flat L).length = L.length * 2
  | [] => rfl
  | x :: L => by rw [flat_cons]; simp [flat_length L]; omega
theorem flat_one (L : List (Int × ByteArray)) : ∀ v ∈ flat L, v.oneCell' = true := by
  intro v hv
  simp only [flat, List.mem_flatMap, List.mem_cons, List.not_mem_nil, or_false] at hv
  obtain ⟨x, _, rfl | rfl⟩ := hv <;> rfl
theorem flat_get : ∀ (L : List (Int × ByteArray)) (l : List Value), (∀ (j : Nat) x, L[j]? = some x → l[j * 2]? = some (kv x.1) ∧ l[j * 2 + 1]? = some (vv x.2)) → ∃ r, l = flat L ++ r
  | [], l, _ => ⟨l, rfl⟩
  | x :: L, l, h => by
    obtain ⟨h0, h1⟩ := h 0 x rfl
    match l, h0, h1, h with
    | a :: b :: l, h0, h1, h =>
      simp only [Nat.zero_mul, List.getElem?_cons_zero, Option.some.injEq, Nat.zero_add, List.getElem?_cons_succ] at h0 h1
      obtain ⟨r, hr⟩ := flat_get L l fun j y hj => by
        have := h (j + 1) y (by simpa using hj)
        rw [show (j + 1) * 2 = j * 2 + 1 + 1 by omega, show j * 2 + 1 + 1 + 1 = (j * 2 + 1) + 1 + 1 by omega] at this
        simpa using this
      exact ⟨r, by rw [flat_cons, h0, h1, hr]; rfl⟩
theorem get_flat : ∀ (L : List (Int × ByteArray)) (r : List Value) (j : Nat) (x : Int × ByteArray), L[j]? = some x → (flat L ++ r)[j * 2]? = some (kv x.1) ∧ (flat L ++ r)[j * 2 + 1]? = some (vv x.2)
  | [], _, _, _, h => by simp at h
  | y :: L, r, 0, x, h => by
    simp only [List.getElem?_cons_zero, Option.some.injEq] at h
    subst h
    rw [flat_cons]
    exact ⟨rfl, rfl⟩
  | y :: L, r, j + 1, x, h => by
    have := get_flat L r j x (by simpa using h)
    rw [flat_cons, show (j + 1) * 2 = j * 2 + 1 + 1 by omega, show j * 2 + 1 + 1 + 1 = (j * 2 + 1) + 1 + 1 by omega]
    simpa using this

theorem Row.toFlat {w : World} {q c : Nat} {L : List (Int × ByteArray)} (h : Row w q c L) : ∃ (cur : Array Value) (r : List Value), w.heap[q]? = some (.cells cur 90 (0, 0)) ∧ cur.size = c * 2 ∧ cur.toList = flat L ++ r := by
  obtain ⟨cur, h1, h2, h3⟩ := h.row
  obtain ⟨r, hr⟩ := flat_get L cur.toList fun j x hj => by simpa using h3 j x hj
  exact ⟨cur, r, h1, h2, hr⟩
theorem Row.mk_flat {w : World} {q c : Nat} {L : List (Int × ByteArray)} (cur : Array Value) (r : List Value) (h1 : w.heap[q]? = some (.cells cur 90 (0, 0))) (h2 : cur.size = c * 2) (h3 : cur.toList = flat L ++ r) : Row w q c L :=
  ⟨⟨cur, h1, h2, fun j x hj => by
    have := get_flat L r j x hj
    rw [← h3] at this
    simpa using this⟩⟩

/-- The zero value of a pair. -/
def k0 : Int := 0
def v0 : ByteArray := ⟨#[]⟩
theorem kept_info : (Try.prog.info? 90).map (fun i => (i.zero, i.size, i.bytes)) = some (some (.agg #[kv k0, vv v0]), 2, 24) := by kernel_rfl
theorem info_parts {P : Program} {t : TypeId} {z : Option Value} {s b : Nat} (h : (P.info? t).map (fun i => (i.zero, i.size, i.bytes)) = some (z, s, b)) : ∃ i, P.info? t = some i ∧ i.zero = z ∧ i.size = s ∧ i.bytes = b := by
  cases hi : P.info? t with
  | none => simp [hi] at h
  | some i => simp only [hi, Option.map_some, Option.some.injEq, Prod.mk.injEq] at h; exact ⟨i, rfl, h.1, h.2.1, h.2.2⟩

/-- The row of a slice. -/
def rowsOf : Value → List Nat
  | .slice (some a) _ _ => [a.block]
  | _ => []

theorem Row.cells {w : World} {q c : Nat} {L : List (Int × ByteArray)} (h : Row w q c L) (i n : Nat) : ∀ (j : Nat) v, (flat ((L.drop i).take n))[j]? = some v → w.cell? ⟨q, i * 2 + j, none⟩ = some v := by
  obtain ⟨cur, r, h1, h2, h3⟩ := h.toFlat
  intro j v hj
  refine cell_of h1 ?_
  have hl : (flat (L.take i)).length ≤ i * 2 := by rw [flat_length, List.length_take]; omega
  have hjl := (List.getElem?_eq_some_iff.1 hj).1
  rw [flat_length, List.length_take, List.length_drop] at hjl
  have hil : i ≤ L.length := by omega
  have hl2 : (flat (L.take i)).length = i * 2 := by rw [flat_length, List.length_take]; omega
  have e : cur.toList = flat (L.take i) ++ (flat ((L.drop i).take n) ++ (flat ((L.drop i).drop n) ++ r)) := by
    rw [h3, ← List.append_assoc (flat ((L.drop i).take n)), ← flat_append, List.take_append_drop, ← List.append_assoc, ← flat_append, List.take_append_drop]
  rw [← Array.getElem?_toList, e, List.getElem?_append_right (by omega), hl2, Nat.add_sub_cancel_left, List.getElem?_append_left (by rw [flat_length, List.length_take, List.length_drop]; omega)]
  exact hj

end Go.Proofs.Ytamnmpcnhaeigaa.TabW

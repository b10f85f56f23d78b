/- Table[int,int]: Put. Printed by gen_tab.py. -/
import Derived.Test.YtamnmpcnhaeigaaTabHI
namespace Go.Proofs.Ytamnmpcnhaeigaa.TabI
open Go.RowKit
set_option linter.unusedVariables false

def put (L : List (Int × Int)) (k : Int) (v : Int) : List (Int × Int) := if has lt L k then L.set (Go.Proofs.Ytamnmpcnhaeigaa.at_ lt L k) (k, v) else ins L (Go.Proofs.Ytamnmpcnhaeigaa.at_ lt L k) (k, v)

theorem put_up {L : List (Int × Int)} (h : Rising lt L) (k : Int) (v : Int) : Rising lt (put L k v) := by
  unfold put
  cases hh : has lt L k with
  | true => simp only [if_true]; exact rising_set ord h hh v
  | false => simp only [Bool.false_eq_true, if_false, ins]; exact rising_ins ord h hh v

theorem Row.set {w : World} {q c : Nat} {L : List (Int × Int)} (h : Row w q c L) {i : Nat} {a : Int} {u v : Int} (hi : L[i]? = some (a, u)) : Row (w.setCell ⟨q, i * 2 + 1, none⟩ (vv v)) q c (L.set i (a, v)) := by
  obtain ⟨cur, h1, h2, h3⟩ := h.row
  refine ⟨⟨_, heap_setCell_same h1 _, by simpa using h2, fun j x hj => ?_⟩⟩
  by_cases hij : i = j
  · subst hij
    have hl := (List.getElem?_eq_some_iff.1 hi).1
    rw [List.getElem?_set_self hl] at hj
    cases hj
    have := h3 i _ hi
    have hlt := (Array.getElem?_eq_some_iff.1 this.2).1
    exact ⟨by rw [Array.getElem?_setIfInBounds_ne (by omega)]; exact this.1, by rw [Array.getElem?_setIfInBounds_self_of_lt hlt]⟩
  · rw [List.getElem?_set_ne hij] at hj
    have := h3 j x hj
    exact ⟨by rw [Array.getElem?_setIfInBounds_ne (by omega)]; exact this.1, by rw [Array.getElem?_setIfInBounds_ne (by omega)]; exact this.2⟩

theorem Row.soft {w : World} {q c : Nat} {L : List (Int × Int)} (h : Row w q c L) (j : Nat) : w.frozen? ⟨q, j, none⟩ = false := by
  obtain ⟨cur, h1, h2, h3⟩ := h.row
  exact frozen_of h1

set_option maxHeartbeats 2000000 in
theorem put_x (w : World) (p : Nat) (s : Value) (L : List (Int × Int)) (k : Int) (v : Int) (hn : L.length ≤ 1000) (ht : TabX w p s L) : Calls Try.prog 16 #[.pointer (some ⟨p, 0, none⟩), kv k, vv v] w fun e w' => e = .returned (.bool (has lt L k)) ∧ ∃ s', TabX w' p s' (put L k v) ∧ Turned w w' p s s' := by
  obtain ⟨hs, hr, hps, hUP⟩ := ht
  have HP := Lib.hid (place_any w p s L k hn hs hr hUP)
  have hup := put_up hUP k v
  have hkb : kv k = .int .i64 k := rfl
  have hvx : vv v = .int .i64 v := rfl
  rw [hkb] at HP ⊢
  rw [hvx]
  have c1 : w.cell? ⟨p, 0, none⟩ = some s := cell_of (c := #[s]) hs rfl
  obtain ⟨hh, HH⟩ : ∃ b, has lt L k = b := ⟨_, rfl⟩
  rw [HH] at HP ⊢
  cases hh with
  | true =>
    have hp : put L k v = L.set (Go.Proofs.Ytamnmpcnhaeigaa.at_ lt L k) (k, v) := by simp [put, HH]
    rw [hp] at hup ⊢
    obtain ⟨u, hu⟩ := has_key ord HH
    have hil := (List.getElem?_eq_some_iff.1 hu).1
    rcases hr with ⟨rfl, rfl⟩ | ⟨q, c, rfl, hc, hc63, hr⟩
    · simp at hu
    have hpq : p ≠ q := fun h => hps (by simp [rowsOf, h])
    obtain ⟨i, hI⟩ : ∃ i, Go.Proofs.Ytamnmpcnhaeigaa.at_ lt L k = i := ⟨_, rfl⟩
    rw [hI] at HP hu hil hup ⊢
    have HT := Lib.hid fun (w' : World) (f : Fr [] w w') => (hr.fr f (by simp)).set (v := v) hu
    have HW := Lib.hid fun (w' : World) (f : Fr [] w w') => (hr.fr f (by simp)).what hu
    have HZ := Lib.hid fun (w' : World) (f : Fr [] w w') => (hr.fr f (by simp)).soft (i * 2 + 1)
    have HU := Lib.hid hup
    have HS := Lib.hid fun (w' : World) (f : Fr [] w w') => f.at hs (by simp)
    have hsl : (L.set i (k, v)).length = L.length := List.length_set
    rw [hvx] at HT
    obtain ⟨M, hM⟩ : ∃ M, L.set i (k, v) = M := ⟨_, rfl⟩
    rw [hM] at HT HU hsl ⊢
    obtain ⟨n, hn'⟩ : ∃ n, L.length = n := ⟨_, rfl⟩
    rw [hn'] at hil hc c1 HS hsl
    generalize vv u = ux at HW
    clear hp hu hr hs hI hM hn' hn hps hup hUP HH hkb hvx
    go_enter Try.func16, Try.ntmps16
    go_wp2_with fail
    refine HP.out.mono ?_
    rintro e w1 ⟨rfl, f1⟩
    have c2 := f1.cell c1 (by simp)
    have c3 := HW.out w1 f1
    have z3 := HZ.out w1 f1
    go_wp2_with fail
    go_ret
    have hb1 := heap_setCell_ne (a := ⟨q, i * 2 + 1, none⟩) (HS.out w1 f1) hpq (.int .i64 v)
    exact ⟨rfl, _, ⟨hb1, .inr ⟨q, c, by rw [hsl], by rw [hsl]; exact hc, hc63, HT.out w1 f1⟩, by simp [rowsOf]; exact hpq, HU.out⟩, ⟨(f1.mono (by simp)).setCell (.inl (by simp [rowsOf])) _, fun x hx => .inl hx⟩⟩
  | false =>
    have hp : put L k v = ins L (Go.Proofs.Ytamnmpcnhaeigaa.at_ lt L k) (k, v) := by simp [put, HH]
    rw [hp] at hup ⊢
    have hil := at_le lt L k
    obtain ⟨i, hI⟩ : ∃ i, Go.Proofs.Ytamnmpcnhaeigaa.at_ lt L k = i := ⟨_, rfl⟩
    rw [hI] at HP hil hup ⊢
    have hpl := heap_lt hs
    have hrl : ∀ x ∈ rowsOf s, x < w.heap.size := fun x hx => by
      rcases hr with ⟨_, rfl⟩ | ⟨q, c, rfl, _, _, hr⟩
      · simp [rowsOf] at hx
      · simp [rowsOf] at hx; subst hx; exact hr.lt
    have HD := Lib.hid fun (w' : World) (vb : Nat) (f : Fr [] w w') (hv : w'.heap[vb]? = some (.cells #[.int .i64 k, .int .i64 v] 69 (0, 0))) (hvb : w.heap.size ≤ vb) => insert_any w' s i L k v vb hn hil (hr.fr f) hv (fun h => by have := hrl _ h; omega)
    have HU := Lib.hid hup
    have HS := Lib.hid fun (w' : World) (f : Fr [] w w') => f.at hs (by simp)
    have HPS := Lib.hid hps
    have HPL := Lib.hid hpl
    have hi1 : i ≤ 1000 := by omega
    have o1 := hr.one
    obtain ⟨M, hM⟩ : ∃ M, ins L i (k, v) = M := ⟨_, rfl⟩
    rw [hM] at HD HU ⊢
    clear hp hI hM hup hUP HH hkb hr hs hps hil hpl hrl hvx hn
    go_enter Try.func16, Try.ntmps16
    go_wp2_with fail
    refine HP.out.mono ?_
    rintro e w1 ⟨rfl, f1⟩
    have c2 := f1.cell c1 (by simp)
    go_wp2_with fail
    refine (HD.out _ _ (f1.alloc _) (heap_alloc_new w1 _) f1.size).mono ?_
    rintro e w2 ⟨s', rfl, t2, f2, hrow⟩
    have hb2 := f2.at (HS.out _ (f1.alloc _)) HPS.out
    have c3 : w2.cell? ⟨p, 0, none⟩ = some s := cell_of hb2 rfl
    have o3 := t2.one
    have z3 : w2.frozen? ⟨p, 0, none⟩ = false := frozen_of hb2
    have hrow' : ∀ x ∈ rowsOf s', x ∈ rowsOf s ∨ w.heap.size ≤ x := fun x hx => (hrow x hx).imp id (Nat.le_trans (f1.alloc _).size)
    have hps' : p ∉ rowsOf s' := fun h => (hrow' p h).elim HPS.out (fun h => by have := HPL.out; omega)
    have F2 : Fr (p :: rowsOf s) w w2 := ((f1.alloc _).mono (S' := p :: rowsOf s) (fun k h => absurd h (by simp))).trans (f2.mono (S' := p :: rowsOf s) (fun k h => List.mem_cons_of_mem _ h))
    have T2 := Lib.hid t2
    rcases t2 with ⟨_, rfl⟩ | ⟨q', c', rfl, _⟩
    all_goals
      try generalize List.length M = m at T2 hrow hps' hrow'
      go_wp2_with fail
      go_ret
      exact ⟨rfl, _, ⟨heap_setCell_same hb2 _, T2.out.frS ((Fr.refl [p] w2).setCell (.inl (by simp)) _) (fun x hx h => hps' (by simp at h; exact h ▸ hx)), hps', HU.out⟩, F2.setCell (.inl (by simp)) _, hrow'⟩
theorem put_any (B : Nat) (w : World) (p : Nat) (L : List (Int × Int)) (k : Int) (v : Int) (hn : L.length ≤ 1000) (hB : B ≤ w.heap.size) (ht : TabAt B w p L) : Calls Try.prog 16 #[.pointer (some ⟨p, 0, none⟩), kv k, vv v] w fun e w' => e = .returned (.bool (has lt L k)) ∧ TabAt B w' p (put L k v) ∧ Lo B w w' := by
  obtain ⟨s, hs, hr, hps, hlow⟩ := ht.at_
  refine (put_x w p s L k v hn ⟨hs, hr, hps, ht.up⟩).mono ?_
  rintro e w' ⟨he, s', hx, ht'⟩
  exact ⟨he, TabAt.of hx ht' ht.low hlow hB, ht'.lo ht.low hlow⟩

end Go.Proofs.Ytamnmpcnhaeigaa.TabI

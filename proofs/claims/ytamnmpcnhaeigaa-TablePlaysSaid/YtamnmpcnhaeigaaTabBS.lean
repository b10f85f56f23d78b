/- Table[string,int]: where a key stands. Printed by gen_tab.py. -/
import Derived.Test.YtamnmpcnhaeigaaTabAS
import Derived.Deep.CutBlock
import Derived.Shelf.RegionOpen
namespace Go.Proofs.Ytamnmpcnhaeigaa.TabS
open Go.RowKit
set_option linter.unusedVariables false

/-- The pairs L lie in the row q. -/
structure Row (w : World) (q c : Nat) (L : List (ByteArray × Int)) : Prop where
  row : ∃ cur : Array Value, w.heap[q]? = some (.cells cur 81 (0, 0)) ∧ cur.size = c * 2 ∧ ∀ j x, L[j]? = some x → cur[j * 2]? = some (kv x.1) ∧ cur[j * 2 + 1]? = some (vv x.2)

theorem Row.fr {w w' : World} {q c : Nat} {L : List (ByteArray × Int)} (h : Row w q c L) {S : List Nat} (f : Fr S w w') (hs : q ∉ S) : Row w' q c L := by
  obtain ⟨cur, h1, h2, h3⟩ := h.row
  exact ⟨cur, f.at h1 hs, h2, h3⟩
theorem Row.key {w : World} {q c : Nat} {L : List (ByteArray × Int)} (h : Row w q c L) {j : Nat} {x : ByteArray × Int} (hj : L[j]? = some x) : w.cell? ⟨q, j * 2, none⟩ = some (kv x.1) := by
  obtain ⟨cur, h1, h2, h3⟩ := h.row
  exact cell_of h1 (h3 j x hj).1
theorem Row.what {w : World} {q c : Nat} {L : List (ByteArray × Int)} (h : Row w q c L) {j : Nat} {x : ByteArray × Int} (hj : L[j]? = some x) : w.cell? ⟨q, j * 2 + 1, none⟩ = some (vv x.2) := by
  obtain ⟨cur, h1, h2, h3⟩ := h.row
  exact cell_of h1 (h3 j x hj).2
theorem Row.lt {w : World} {q c : Nat} {L : List (ByteArray × Int)} (h : Row w q c L) : q < w.heap.size := by
  obtain ⟨cur, h1, h2, h3⟩ := h.row
  exact heap_lt h1

/-- The slice s tells the pairs L. -/
def Things (w : World) (s : Value) (L : List (ByteArray × Int)) : Prop :=
  (L = [] ∧ s = .slice none 0 0) ∨ ∃ q c, s = .slice (some ⟨q, 0, none⟩) L.length c ∧ L.length ≤ c ∧ c ≤ 9223372036854775807 ∧ Row w q c L

set_option maxHeartbeats 4000000 in
/-- The binary search: where k stands, or would. -/
theorem search_some (w : World) (q c : Nat) (L : List (ByteArray × Int)) (k : ByteArray) (hn : L.length ≤ 1000) (hc : L.length ≤ c) (hr : Row w q c L) (hs : Rising lt L) :
    Calls Try.prog 52 #[.slice (some ⟨q, 0, none⟩) L.length c, kv k, .func (.func 53) #[] #[]] w fun e w' =>
      e = .returned (.tuple #[.int .i64 (at_ lt L k), .bool (has lt L k)]) ∧ Fr [] w w' := by
  obtain ⟨kb, hkb⟩ : ∃ x, kv k = x := ⟨_, rfl⟩
  have HC := Lib.hid (fun (w : World) a v => hkb ▸ place1_any w a k v)
  rw [hkb]
  clear hkb
  go_enter Try.func52, Try.ntmps52
  go_wp2
  go_loopw [9, 10] (fun s9 s10 wr => ∃ lo hi : Nat, s9 = .int .i64 lo ∧ s10 = .int .i64 hi ∧ lo ≤ hi ∧ hi ≤ L.length ∧ (∀ (j : Nat) (x : ByteArray × Int), j < lo → L[j]? = some x → lt x.1 k = true) ∧ (∀ (j : Nat) (x : ByteArray × Int), hi ≤ j → L[j]? = some x → lt x.1 k = false) ∧ Fr [] w wr) (fun s9 s10 _ => (intOf s10 - intOf s9).toNat)
  case atStart => exact ⟨0, L.length, rfl, rfl, Nat.zero_le _, Nat.le_refl _, fun j x hj => absurd hj (Nat.not_lt_zero _), fun j x hj hx => by have := (List.getElem?_eq_some_iff.1 hx).1; omega, Fr.refl [] w⟩
  case round =>
    obtain ⟨lo, hi, rfl, rfl, hlh, hin, hb, ha, hf⟩ := hrel
    by_cases hlt : lo < hi
    · have hmn : (lo + hi) / 2 < L.length := by omega
      obtain ⟨⟨a, v⟩, hx⟩ : ∃ x, L[(lo + hi) / 2]? = some x := ⟨_, List.getElem?_eq_getElem hmn⟩
      have c1 := (hr.fr hf (by simp)).key hx
      have c2 := (hr.fr hf (by simp)).what hx
      have HB := Lib.hid hb; have HA := Lib.hid ha; have HS := Lib.hid hs; have HX := Lib.hid hx
      clear hb ha hs hx
      go_wp2_with fail
      refine (HC.out _ a v).mono ?_
      rintro e w1 ⟨rfl, f1⟩
      have f2 := hf.trans f1
      cases e1 : lt a k with
      | true =>
        rw [cmp_lt ord e1]
        have E1 := Lib.hid e1; clear e1
        go_wp2_with fail
        go_roundw
        case rel => exact ⟨(lo + hi) / 2 + 1, hi, by rw [show ((lo : Int) + (hi : Int)) / 2 + 1 = (((lo + hi) / 2 + 1 : Nat) : Int) by omega], rfl, by omega, hin, fun j x hj hx => below_mid ord HS.out HX.out E1.out (by omega) hx, HA.out, f2⟩
        case measure => simp [intOf]; omega
      | false =>
        have hnn : (0 : Int) ≤ cmpK lt a k := by unfold cmpK; rw [e1]; simp only [Bool.false_eq_true, if_false]; split <;> decide
        have E1 := Lib.hid e1; clear e1
        generalize cmpK lt a k = cc at hnn
        go_wp2_with fail
        go_roundw
        case rel => exact ⟨lo, (lo + hi) / 2, rfl, by rw [show ((lo : Int) + (hi : Int)) / 2 = (((lo + hi) / 2 : Nat) : Int) by omega], by omega, by omega, HB.out, fun j x hj hx => above_mid ord HS.out HX.out E1.out hj hx, f2⟩
        case measure => simp [intOf]; omega
    · obtain rfl : hi = lo := by omega
      have hI := at_eq (lt := lt) hin hb ha
      by_cases hl : hi < L.length
      · obtain ⟨⟨a, v⟩, hx⟩ : ∃ x, L[hi]? = some x := ⟨_, List.getElem?_eq_getElem hl⟩
        have c1 := (hr.fr hf (by simp)).key hx
        have c2 := (hr.fr hf (by simp)).what hx
        have hla := ha hi _ (Nat.le_refl _) hx
        have hH : has lt L k = !lt k a := by unfold has; rw [← hI, hx]
        have HLA := Lib.hid hla
        have HH := Lib.hid hH; have HI := Lib.hid hI
        clear hI hb ha hs hx hH hla hr
        go_wp2_with fail
        refine (HC.out _ a v).mono ?_
        rintro e w1 ⟨rfl, f1⟩
        have f2 := hf.trans f1
        cases e1 : lt k a with
        | true =>
          rw [cmp_gt ord e1]
          have E1 := Lib.hid e1; clear e1
          go_wp2_with fail
          go_ret2
          exact ⟨by rw [HH.out, ← HI.out, E1.out]; rfl, f2⟩
        | false =>
          rw [cmp_eq ord (ord.tri _ _ HLA.out e1)]
          have E1 := Lib.hid e1; clear e1
          go_wp2_with fail
          go_ret2
          exact ⟨by rw [HH.out, ← HI.out, E1.out]; rfl, f2⟩
      · have hH : has lt L k = false := by unfold has; rw [← hI, List.getElem?_eq_none (by omega)]
        have HH := Lib.hid hH; have HI := Lib.hid hI
        clear hI hb ha hs hH hr
        go_wp2_with fail
        go_ret2
        exact ⟨by rw [HH.out, ← HI.out]; rfl, hf⟩

set_option maxHeartbeats 1000000 in
/-- .. in the nil slice. -/
theorem search_none (w : World) (k : ByteArray) :
    Calls Try.prog 52 #[.slice none 0 0, kv k, .func (.func 53) #[] #[]] w fun e w' =>
      e = .returned (.tuple #[.int .i64 0, .bool false]) ∧ w' = w := by
  obtain ⟨kb, hkb⟩ : ∃ x, kv k = x := ⟨_, rfl⟩
  rw [hkb]
  clear hkb
  go_enter Try.func52, Try.ntmps52
  go_wp2
  go_loopw [9, 10] (fun s9 s10 wr => s9 = .int .i64 0 ∧ s10 = .int .i64 0 ∧ wr = w) (fun _ _ _ => 0)
  case atStart => exact ⟨rfl, rfl, rfl⟩
  case round =>
    obtain ⟨rfl, rfl, rfl⟩ := hrel
    go_wp2
    go_ret2
    exact ⟨rfl, rfl⟩

/-- The search, of whatever things. -/
theorem search_any (w : World) (s : Value) (L : List (ByteArray × Int)) (k : ByteArray) (hn : L.length ≤ 1000) (hr : Things w s L) (hs : Rising lt L) :
    Calls Try.prog 52 #[s, kv k, .func (.func 53) #[] #[]] w fun e w' =>
      e = .returned (.tuple #[.int .i64 (at_ lt L k), .bool (has lt L k)]) ∧ Fr [] w w' := by
  rcases hr with ⟨rfl, rfl⟩ | ⟨q, c, rfl, hc, _, hr⟩
  · exact (search_none w k).mono fun e w' ⟨he, hw⟩ => ⟨he, hw ▸ Fr.refl [] w⟩
  · exact search_some w q c L k hn hc hr hs

theorem Things.fr {w w' : World} {s : Value} {L : List (ByteArray × Int)} (h : Things w s L) (f : Fr [] w w') : Things w' s L := by
  rcases h with h | ⟨q, c, h1, h2, h3, h4⟩
  · exact .inl h
  · exact .inr ⟨q, c, h1, h2, h3, h4.fr f (by simp)⟩

/-- The table p, whose things are s. -/
def TabS (w : World) (p : Nat) (s : Value) : Prop := w.heap[p]? = some (.cells #[s] 78 (0, 0))

theorem place_any (w : World) (p : Nat) (s : Value) (L : List (ByteArray × Int)) (k : ByteArray) (hn : L.length ≤ 1000) (hp : TabS w p s) (hr : Things w s L) (hs : Rising lt L) :
    Calls Try.prog 38 #[.pointer (some ⟨p, 0, none⟩), kv k] w fun e w' =>
      e = .returned (.tuple #[.int .i64 (at_ lt L k), .bool (has lt L k)]) ∧ Fr [] w w' := by
  have HC := Lib.hid (search_any w s L k hn hr hs)
  have hb : w.heap[p]? = some (.cells #[s] 78 (0, 0)) := hp
  have c1 : w.cell? ⟨p, 0, none⟩ = some s := cell_of hb rfl
  generalize kv k = kb at HC ⊢
  clear hr hs hp
  go_enter Try.func38, Try.ntmps38
  go_wp2_with fail
  refine HC.out.mono ?_
  rintro e w1 ⟨rfl, f1⟩
  go_wp2_with fail
  go_ret2
  exact ⟨rfl, f1⟩

end Go.Proofs.Ytamnmpcnhaeigaa.TabS

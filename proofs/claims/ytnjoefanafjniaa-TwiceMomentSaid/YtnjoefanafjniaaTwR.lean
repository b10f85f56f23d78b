/- The document's answer for looking twice (coachhouseref15): all words that were seen. -/
import Derived.Test.YtnjoefanafjniaaTwWr
import Derived.Test.YtnjoefanafjniaaRef02T
namespace Go.Proofs.Ytnjoefanafjniaa
open Go.RowKit

theorem IntsAt.take {w : World} {g : Option Addr} {L : List Int} (h : IntsAt w g L) (m : Nat) : IntsAt w g (L.take m) :=
  ⟨by have := h.1; rw [List.length_take]; omega, fun j x hx => h.2 j x (by rw [List.getElem?_take] at hx; split at hx; exact hx; cases hx)⟩
theorem mod_of {m S k : Nat} (h : k < S) : (m * S + k) % S = k := by
  rw [Nat.add_comm, Nat.add_mul_mod_self_right, Nat.mod_eq_of_lt h]
/-- The document: are the last two rounds alike? -/
def doneB (S : Nat) (L : List Int) : Bool := decide (L.length % S = 0 ∧ 2 * S ≤ L.length ∧ L.drop (L.length - S) = (L.take (L.length - S)).drop (L.length - 2 * S))
/-- The document: a step that sees x. -/
def seeL (S : Nat) (x : Int) (L : List Int) : List Int := if doneB S L then L else L ++ [x]
/-- What the program knows, and all words that the document has seen. -/
structure Both (S : Nat) (s : TwS) (L : List Int) (m : Nat) : Prop where
  hn : s.n = (m : Int)
  hk : L.length = m * S + s.r.length
  hr : s.r = L.drop (m * S)
  hrl : s.r.length < S
  hl : 1 ≤ m → s.l = (L.take (m * S)).drop ((m - 1) * S)
  hd : s.d = doneB S L
  hd2 : s.d = true → s.r = [] ∧ 2 ≤ m
  hll : s.l.length ≤ S
theorem both_zero {S : Nat} (hS : 1 ≤ S) : Both S ⟨[], [], 0, false⟩ [] 0 :=
  ⟨rfl, by simp, by simp, hS, fun h => by omega, by unfold doneB; exact (decide_eq_false (fun h => by have := h.2.1; simp at this; omega)).symm, (fun h => by cases h), by simp⟩
theorem Both.step {S : Nat} {s : TwS} {L : List Int} {m : Nat} (h : Both S s L m) (x : Int) : ∃ m', Both S (s.step S x) (seeL S x L) m' ∧ m' ≤ m + 1 := by
  obtain ⟨r, l, n, d⟩ := s
  obtain ⟨hn, hk, hr, hrl, hl, hd, hd2, hll⟩ := h
  simp only at hn hk hr hrl hl hd hd2 hll
  cases d with
  | true =>
    have e1 : TwS.step S x ⟨r, l, n, true⟩ = ⟨r, l, n, true⟩ := by unfold TwS.step; rw [if_pos rfl]
    have e2 : seeL S x L = L := by unfold seeL; rw [← hd]; rfl
    rw [e1, e2]
    exact ⟨m, ⟨hn, hk, hr, hrl, hl, hd, hd2, hll⟩, by omega⟩
  | false =>
    have hsee : seeL S x L = L ++ [x] := by unfold seeL; rw [← hd]; simp
    have hlen : (r ++ [x]).length = r.length + 1 := by simp
    have hlen2 : (L ++ [x]).length = m * S + (r.length + 1) := by simp [hk]; omega
    have hdr : (L ++ [x]).drop (m * S) = r ++ [x] := by rw [List.drop_append_of_le_length (by omega), ← hr]
    have htk : (L ++ [x]).take (m * S) = L.take (m * S) := List.take_append_of_le_length (by omega)
    rw [hsee]
    by_cases hlt : r.length + 1 < S
    · have e : TwS.step S x ⟨r, l, n, false⟩ = ⟨r ++ [x], l, n, false⟩ := by
        unfold TwS.step
        rw [if_neg (by simp), if_pos (by rw [hlen]; exact hlt)]
      rw [e]
      refine ⟨m, ⟨hn, by rw [hlen2, hlen], hdr.symm, by rw [hlen]; exact hlt, fun h => by rw [htk]; exact hl h, ?_, (fun h => by cases h), hll⟩, by omega⟩
      unfold doneB
      refine (decide_eq_false (fun h => ?_)).symm
      have h1 := h.1
      rw [hlen2, mod_of (by omega)] at h1
      omega
    · have hS : r.length + 1 = S := by omega
      have e : TwS.step S x ⟨r, l, n, false⟩ = ⟨[], r ++ [x], n + 1, decide (0 < n) && decide (r ++ [x] = l)⟩ := by
        unfold TwS.step
        rw [if_neg (by simp), if_neg (by rw [hlen]; exact hlt)]
      have hk2 : (L ++ [x]).length = (m + 1) * S := by rw [hlen2, hS, Nat.add_mul]; omega
      have hms : (m + 1) * S - S = m * S := by rw [Nat.add_mul]; omega
      have hd' : (decide (0 < n) && decide (r ++ [x] = l)) = doneB S (L ++ [x]) := by
        unfold doneB
        rw [hk2, hms, hdr, htk]
        by_cases h0 : m = 0
        · subst h0 hn
          have : ¬ (2 * S ≤ (0 + 1) * S) := by omega
          simp [this]
        · have h1 := hl (by omega)
          have h2 : (m + 1) * S - 2 * S = (m - 1) * S := by rw [← Nat.sub_mul]; congr 1
          have h3 : (m + 1) * S % S = 0 := Nat.mul_mod_left _ _
          have h4 : 2 * S ≤ (m + 1) * S := Nat.mul_le_mul_right _ (by omega)
          have h5 : 0 < n := by omega
          rw [h2, ← h1, decide_eq_true h5, Bool.true_and]
          simp [h3, h4]
      rw [e]
      refine ⟨m + 1, ⟨by show n + 1 = _; omega, by rw [hk2]; rfl, ?_, by show 0 < S; omega, fun _ => ?_, hd', fun h => ?_, by show (r ++ [x]).length ≤ S; omega⟩, by omega⟩
      · show [] = _
        rw [List.drop_eq_nil_of_le (by omega)]
      · show r ++ [x] = _
        rw [List.take_of_length_le (by omega), Nat.add_sub_cancel, hdr]
      · simp only [Bool.and_eq_true, decide_eq_true_eq] at h
        refine ⟨rfl, ?_⟩
        omega
theorem Both.words {S : Nat} {s : TwS} {L : List Int} {m : Nat} (h : Both S s L m) : (if s.d then s.l else []) = (if doneB S L then L.drop (L.length - S) else []) := by
  rw [← h.hd]
  by_cases hd : s.d = true
  · rw [if_pos hd, if_pos hd]
    have h1 := h.hd2 hd
    have h2 := h.hk
    rw [h1.1] at h2
    simp at h2
    rw [h.hl (by omega), ← h2, List.take_length]
    congr 1
    rw [h2]
    have : (m - 1) * S = m * S - S := by rw [Nat.sub_mul]; omega
    exact this
  · rw [if_neg hd, if_neg hd]
theorem Both.rounds {S : Nat} {s : TwS} {L : List Int} {m : Nat} (h : Both S s L m) : L.length / S = m := by
  rw [h.hk]
  have := h.hrl
  rw [Nat.mul_comm, Nat.mul_add_div (by omega), Nat.div_eq_of_lt this]
  omega
/-- Which slot comes next, if it isn't done. -/
theorem Both.next {S : Nat} {s : TwS} {L : List Int} {m : Nat} (h : Both S s L m) : L.length % S = s.r.length := by
  rw [h.hk, mod_of h.hrl]
theorem seeL_len (S : Nat) (x : Int) (L : List Int) : (seeL S x L).length ≤ L.length + 1 := by unfold seeL; split <;> simp
theorem Both.some {S : Nat} {s : TwS} {L : List Int} {m : Nat} (h : Both S s L m) (hS : 1 ≤ S) (hd : s.d = true) : s.l ≠ [] := by
  intro e
  have h1 := h.words
  rw [hd, if_pos rfl, ← h.hd, hd, if_pos rfl, e] at h1
  have h2 := h.hd2 hd
  have h3 := h.hk
  rw [h2.1] at h3
  have h4 : (L.drop (L.length - S)).length = 0 := by rw [← h1]; rfl
  rw [List.length_drop] at h4
  have h5 : 2 * S ≤ m * S := Nat.mul_le_mul_right _ h2.2
  simp at h3
  omega
/-- What the document's Twice holds: a conf, all words that were seen. -/
structure RefT (w : World) (p : Nat) (c : ConfV) (v : Value) (L : List Int) : Prop where
  b : w.heap[p]? = some (.cells #[.int .i64 c.wo, .int .i64 c.sl, .int .i64 c.st, .int .i64 c.wa, .int .i64 c.us, v] 58)
  o : OwnI w v L
  hv : v.ownBlock ≠ some p
theorem RefT.fr {w w' : World} {p : Nat} {c : ConfV} {v : Value} {L : List Int} {S : List Nat} (h : RefT w p c v L) (f : Fr S w w') (hp : p ∉ S) (h1 : ∀ b, v.ownBlock = some b → b ∉ S) : RefT w' p c v L := ⟨f.at h.b hp, h.o.fr f h1, h.hv⟩

set_option maxHeartbeats 8000000 in
set_option maxRecDepth 100000 in
theorem rdone_any (w : World) (p : Nat) (c : ConfV) (v : Value) (L : List Int) (hc : c.small) (h : RefT w p c v L) (hL : L.length ≤ 1000) :
    Calls Try.prog 38 #[.pointer (some ⟨p, 0, none⟩)] w fun e w' => e = .returned (.bool (doneB c.sl.toNat L)) ∧ Fr [] w w' := by
  obtain ⟨g, cap, rfl, hI, hcap⟩ := h.o.ints
  obtain ⟨wo, sl, st, wa, us⟩ := c
  obtain ⟨-, ⟨hs1, hs2⟩, -⟩ := hc
  simp only at hs1 hs2
  obtain ⟨S, rfl⟩ : ∃ S : Nat, sl = (S : Int) := ⟨sl.toNat, by omega⟩
  have q1 : w.cell? ⟨p, 1, none⟩ = some (.int .i64 (S : Int)) := cell_of h.b rfl
  have q5 : w.cell? ⟨p, 5, none⟩ = some (.slice g L.length cap) := cell_of h.b rfl
  obtain ⟨k, hk⟩ : ∃ k, k = L.length := ⟨_, rfl⟩
  have HI := Lib.hid hI; have HK := Lib.hid hk
  rw [← hk] at q5 hcap hL
  simp only [Int.toNat_natCast]
  have hS1 : 1 ≤ S ∧ S ≤ 5 := by omega
  clear h hI hk hs1 hs2
  by_cases h1 : k % S = 0
  · have h1' : (k : Int) % (S : Int) = 0 := by omega
    by_cases h2 : k < 2 * S
    · have e : doneB S L = false := decide_eq_false (fun h => by have := h.2.1; have := HK.out; omega)
      rw [e]
      clear e
      go_enter Try.func38, Try.ntmps38
      go_wp2
      go_ret
      exact ⟨rfl, Fr.refl _ _⟩
    · have e : doneB S L = decide (L.drop (k - S) = (L.take (k - S)).drop (k - 2 * S)) := by
        unfold doneB
        rw [← HK.out]
        congr 1
        simp only [eq_iff_iff]
        exact ⟨fun h => h.2.2, fun h => ⟨h1, by omega, h⟩⟩
      rw [e]
      have HW1 := Lib.hid (show IntKind.i64.wrap ((k : Int) - (S : Int)) = ((k - S : Nat) : Int) by rw [IntKind.wrap_i64]; omega)
      have HW2 := Lib.hid (show IntKind.i64.wrap ((k : Int) - IntKind.i64.wrap (2 * (S : Int))) = ((k - 2 * S : Nat) : Int) by rw [IntKind.wrap_i64, IntKind.wrap_i64]; omega)
      obtain ⟨bx, ox, rfl, hcx⟩ := HI.out.base (fun e => by have := HK.out; rw [e] at this; simp at this; omega)
      obtain ⟨d1, hd1⟩ : ∃ d1, d1 = k - S := ⟨_, rfl⟩
      obtain ⟨d2, hd2⟩ : ∃ d2, d2 = k - 2 * S := ⟨_, rfl⟩
      rw [← hd1] at HW1 ⊢
      rw [← hd2] at HW2 ⊢
      have hI1 := HI.out.drop d1
      have hI2 := (HI.out.take d1).drop d2
      have HI1 := Lib.hid hI1; have HI2 := Lib.hid hI2
      have hb1 : d1 ≤ k ∧ d1 < cap := by omega
      have hb2 : d2 ≤ d1 := by omega
      have hb3 : d1 ≤ cap := by omega
      have hb4 : d1 ≤ k := by omega
      have HL1 := Lib.hid (show k - d1 = (L.drop d1).length by rw [List.length_drop, HK.out])
      have HL2 := Lib.hid (show d1 - d2 = ((L.take d1).drop d2).length by rw [List.length_drop, List.length_take, ← HK.out, Nat.min_eq_left (by omega)])
      clear e hd1 hd2 hI1 hI2 hcx
      go_enter Try.func38, Try.ntmps38
      go_wp2_with fail
      refine wp_region_held_drew (S := fun w' => w'.cell? ⟨p, 5, none⟩ = some (.slice (some ⟨bx, ox, none⟩) k cap)) (by kernel_rfl) q5 (fun hHeld => ?_)
      refine wpAnyH_take (i := 0) (oi := _) (v := ?_) rfl (by kernel_rfl) (by kernel_rfl) (by kernel_rfl) (fun _ _ _ h => h) (Or.inl ⟨by rfl, ?_⟩) (by assumption) ?_
      rotate_left
      · intro w hSw
        try dsimp only at hSw
        try simp only [List.getElem_toArray, List.getElem_cons_zero]
        go_split_ands
        go_simp
        try with_reducible rfl
      try simp only [Act.put, List.getElem_toArray, List.getElem_cons_zero, List.setIfInBounds_toArray, List.set_cons_zero, List.set_cons_succ]
      refine wpAnyH_take (i := 1) (oi := _) (v := ?_) rfl (by kernel_rfl) (by kernel_rfl) (by kernel_rfl) (fun _ _ _ h => h) (Or.inl ⟨by rfl, ?_⟩) (by assumption) ?_
      rotate_left
      · intro w hSw
        try dsimp only at hSw
        try simp only [List.getElem_toArray, List.getElem_cons_succ, List.getElem_cons_zero]
        go_split_ands
        go_simp
        try with_reducible rfl
      try simp only [Act.put, List.getElem_toArray, List.getElem_cons_succ, List.getElem_cons_zero, List.setIfInBounds_toArray, List.set_cons_zero, List.set_cons_succ]
      refine wpAnyH_take (i := 2) (oi := _) (v := ?_) rfl (by kernel_rfl) (by kernel_rfl) (by kernel_rfl) (fun _ _ _ h => h) (Or.inl ⟨by rfl, ?_⟩) (by assumption) ?_
      rotate_left
      · intro w hSw
        try dsimp only at hSw
        try simp only [List.getElem_toArray, List.getElem_cons_succ, List.getElem_cons_zero]
        go_split_ands
        go_simp
        try with_reducible rfl
      try simp only [Act.put, List.getElem_toArray, List.getElem_cons_succ, List.getElem_cons_zero, List.setIfInBounds_toArray, List.set_cons_zero, List.set_cons_succ]
      refine wpAnyH_take (i := 3) (oi := _) (v := ?_) rfl (by kernel_rfl) (by kernel_rfl) (by kernel_rfl) (fun _ _ _ h => h) (Or.inl ⟨by rfl, ?_⟩) (by assumption) ?_
      rotate_left
      · intro w hSw
        try dsimp only at hSw
        try simp only [List.getElem_toArray, List.getElem_cons_succ, List.getElem_cons_zero]
        go_split_ands
        go_simp
        try with_reducible rfl
      try simp only [Act.put, List.getElem_toArray, List.getElem_cons_succ, List.getElem_cons_zero, List.setIfInBounds_toArray, List.set_cons_zero, List.set_cons_succ]
      refine wpAnyH_take (i := 4) (oi := _) (v := ?_) rfl (by kernel_rfl) (by kernel_rfl) (by kernel_rfl) (fun _ _ _ h => h) (Or.inl ⟨by rfl, ?_⟩) (by assumption) ?_
      rotate_left
      · intro w hSw
        try dsimp only at hSw
        try simp only [List.getElem_toArray, List.getElem_cons_succ, List.getElem_cons_zero]
        go_split_ands
        go_simp
        try with_reducible rfl
      try simp only [Act.put, List.getElem_toArray, List.getElem_cons_succ, List.getElem_cons_zero, List.setIfInBounds_toArray, List.set_cons_zero, List.set_cons_succ]
      refine wpAnyH_take (i := 5) (oi := _) (v := ?_) rfl (by kernel_rfl) (by kernel_rfl) (by kernel_rfl) (fun _ _ _ h => h) (Or.inl ⟨by rfl, ?_⟩) (by assumption) ?_
      rotate_left
      · intro w hSw
        try dsimp only at hSw
        try simp only [List.getElem_toArray, List.getElem_cons_succ, List.getElem_cons_zero]
        go_split_ands
        go_simp
        try with_reducible rfl
      try simp only [Act.put, List.getElem_toArray, List.getElem_cons_succ, List.getElem_cons_zero, List.setIfInBounds_toArray, List.set_cons_zero, List.set_cons_succ]
      refine wpAnyH_take (i := 6) (oi := _) (v := ?_) rfl (by kernel_rfl) (by kernel_rfl) (by kernel_rfl) (fun _ _ _ h => h) (Or.inl ⟨by rfl, ?_⟩) (by assumption) ?_
      rotate_left
      · intro w hSw
        try dsimp only at hSw
        try simp only [List.getElem_toArray, List.getElem_cons_succ, List.getElem_cons_zero]
        go_split_ands
        go_simp
        try with_reducible rfl
      try simp only [Act.put, List.getElem_toArray, List.getElem_cons_succ, List.getElem_cons_zero, List.setIfInBounds_toArray, List.set_cons_zero, List.set_cons_succ]
      try rw [HW1.out]
      refine wpAnyH_take (i := 7) (oi := _) (v := ?_) rfl (by kernel_rfl) (by kernel_rfl) (by kernel_rfl) (fun _ _ _ h => h) (Or.inl ⟨by rfl, ?_⟩) (by assumption) ?_
      rotate_left
      · intro w hSw
        try dsimp only at hSw
        try simp only [List.getElem_toArray, List.getElem_cons_succ, List.getElem_cons_zero]
        go_split_ands
        go_simp
        try with_reducible rfl
      try simp only [Act.put, List.getElem_toArray, List.getElem_cons_succ, List.getElem_cons_zero, List.setIfInBounds_toArray, List.set_cons_zero, List.set_cons_succ]
      try rw [if_neg (show ¬ cap = d1 by omega)]
      refine wpAnyH_take (i := 8) (oi := _) (v := ?_) rfl (by kernel_rfl) (by kernel_rfl) (by kernel_rfl) (fun _ _ _ h => h) (Or.inl ⟨by rfl, ?_⟩) (by assumption) ?_
      rotate_left
      · intro w hSw
        try dsimp only at hSw
        try simp only [List.getElem_toArray, List.getElem_cons_succ, List.getElem_cons_zero]
        go_split_ands
        go_simp
        try with_reducible rfl
      try simp only [Act.put, List.getElem_toArray, List.getElem_cons_succ, List.getElem_cons_zero, List.setIfInBounds_toArray, List.set_cons_zero, List.set_cons_succ]
      refine wpAnyH_take (i := 9) (oi := _) (v := ?_) rfl (by kernel_rfl) (by kernel_rfl) (by kernel_rfl) (fun _ _ _ h => h) (Or.inl ⟨by rfl, ?_⟩) (by assumption) ?_
      rotate_left
      · intro w hSw
        try dsimp only at hSw
        try simp only [List.getElem_toArray, List.getElem_cons_succ, List.getElem_cons_zero]
        go_split_ands
        go_simp
        try with_reducible rfl
      try simp only [Act.put, List.getElem_toArray, List.getElem_cons_succ, List.getElem_cons_zero, List.setIfInBounds_toArray, List.set_cons_zero, List.set_cons_succ]
      refine wpAnyH_take (i := 10) (oi := _) (v := ?_) rfl (by kernel_rfl) (by kernel_rfl) (by kernel_rfl) (fun _ _ _ h => h) (Or.inl ⟨by rfl, ?_⟩) (by assumption) ?_
      rotate_left
      · intro w hSw
        try dsimp only at hSw
        try simp only [List.getElem_toArray, List.getElem_cons_succ, List.getElem_cons_zero]
        go_split_ands
        go_simp
        try with_reducible rfl
      try simp only [Act.put, List.getElem_toArray, List.getElem_cons_succ, List.getElem_cons_zero, List.setIfInBounds_toArray, List.set_cons_zero, List.set_cons_succ]
      refine wpAnyH_take (i := 11) (oi := _) (v := ?_) rfl (by kernel_rfl) (by kernel_rfl) (by kernel_rfl) (fun _ _ _ h => h) (Or.inl ⟨by rfl, ?_⟩) (by assumption) ?_
      rotate_left
      · intro w hSw
        try dsimp only at hSw
        try simp only [List.getElem_toArray, List.getElem_cons_succ, List.getElem_cons_zero]
        go_split_ands
        go_simp
        try with_reducible rfl
      try simp only [Act.put, List.getElem_toArray, List.getElem_cons_succ, List.getElem_cons_zero, List.setIfInBounds_toArray, List.set_cons_zero, List.set_cons_succ]
      refine wpAnyH_take (i := 12) (oi := _) (v := ?_) rfl (by kernel_rfl) (by kernel_rfl) (by kernel_rfl) (fun _ _ _ h => h) (Or.inl ⟨by rfl, ?_⟩) (by assumption) ?_
      rotate_left
      · intro w hSw
        try dsimp only at hSw
        try simp only [List.getElem_toArray, List.getElem_cons_succ, List.getElem_cons_zero]
        go_split_ands
        go_simp
        try with_reducible rfl
      try simp only [Act.put, List.getElem_toArray, List.getElem_cons_succ, List.getElem_cons_zero, List.setIfInBounds_toArray, List.set_cons_zero, List.set_cons_succ]
      refine wpAnyH_take (i := 13) (oi := _) (v := ?_) rfl (by kernel_rfl) (by kernel_rfl) (by kernel_rfl) (fun _ _ _ h => h) (Or.inl ⟨by rfl, ?_⟩) (by assumption) ?_
      rotate_left
      · intro w hSw
        try dsimp only at hSw
        try simp only [List.getElem_toArray, List.getElem_cons_succ, List.getElem_cons_zero]
        go_split_ands
        go_simp
        try with_reducible rfl
      try simp only [Act.put, List.getElem_toArray, List.getElem_cons_succ, List.getElem_cons_zero, List.setIfInBounds_toArray, List.set_cons_zero, List.set_cons_succ]
      refine wpAnyH_take (i := 14) (oi := _) (v := ?_) rfl (by kernel_rfl) (by kernel_rfl) (by kernel_rfl) (fun _ _ _ h => h) (Or.inl ⟨by rfl, ?_⟩) (by assumption) ?_
      rotate_left
      · intro w hSw
        try dsimp only at hSw
        try simp only [List.getElem_toArray, List.getElem_cons_succ, List.getElem_cons_zero]
        go_split_ands
        go_simp
        try with_reducible rfl
      try simp only [Act.put, List.getElem_toArray, List.getElem_cons_succ, List.getElem_cons_zero, List.setIfInBounds_toArray, List.set_cons_zero, List.set_cons_succ]
      refine wpAnyH_take (i := 15) (oi := _) (v := ?_) rfl (by kernel_rfl) (by kernel_rfl) (by kernel_rfl) (fun _ _ _ h => h) (Or.inl ⟨by rfl, ?_⟩) (by assumption) ?_
      rotate_left
      · intro w hSw
        try dsimp only at hSw
        try simp only [List.getElem_toArray, List.getElem_cons_succ, List.getElem_cons_zero]
        go_split_ands
        go_simp
        try with_reducible rfl
      try simp only [Act.put, List.getElem_toArray, List.getElem_cons_succ, List.getElem_cons_zero, List.setIfInBounds_toArray, List.set_cons_zero, List.set_cons_succ]
      try rw [HW2.out]
      refine wpAnyH_take (i := 16) (oi := _) (v := ?_) rfl (by kernel_rfl) (by kernel_rfl) (by kernel_rfl) (fun _ _ _ h => h) (Or.inl ⟨by rfl, ?_⟩) (by assumption) ?_
      rotate_left
      · intro w hSw
        try dsimp only at hSw
        try simp only [List.getElem_toArray, List.getElem_cons_succ, List.getElem_cons_zero]
        go_split_ands
        go_simp
        try with_reducible rfl
      try simp only [Act.put, List.getElem_toArray, List.getElem_cons_succ, List.getElem_cons_zero, List.setIfInBounds_toArray, List.set_cons_zero, List.set_cons_succ]
      refine wpAnyH_take (i := 17) (oi := _) (v := ?_) rfl (by kernel_rfl) (by kernel_rfl) (by kernel_rfl) (fun _ _ _ h => h) (Or.inl ⟨by rfl, ?_⟩) (by assumption) ?_
      rotate_left
      · intro w hSw
        try dsimp only at hSw
        try simp only [List.getElem_toArray, List.getElem_cons_succ, List.getElem_cons_zero]
        go_split_ands
        go_simp
        try with_reducible rfl
      try simp only [Act.put, List.getElem_toArray, List.getElem_cons_succ, List.getElem_cons_zero, List.setIfInBounds_toArray, List.set_cons_zero, List.set_cons_succ]
      refine wpAnyH_take (i := 18) (oi := _) (v := ?_) rfl (by kernel_rfl) (by kernel_rfl) (by kernel_rfl) (fun _ _ _ h => h) (Or.inl ⟨by rfl, ?_⟩) (by assumption) ?_
      rotate_left
      · intro w hSw
        try dsimp only at hSw
        try simp only [List.getElem_toArray, List.getElem_cons_succ, List.getElem_cons_zero]
        go_split_ands
        go_simp
        try with_reducible rfl
      try simp only [Act.put, List.getElem_toArray, List.getElem_cons_succ, List.getElem_cons_zero, List.setIfInBounds_toArray, List.set_cons_zero, List.set_cons_succ]
      try rw [HW1.out]
      refine wpAnyH_take (i := 19) (oi := _) (v := ?_) rfl (by kernel_rfl) (by kernel_rfl) (by kernel_rfl) (fun _ _ _ h => h) (Or.inl ⟨by rfl, ?_⟩) (by assumption) ?_
      rotate_left
      · intro w hSw
        try dsimp only at hSw
        try simp only [List.getElem_toArray, List.getElem_cons_succ, List.getElem_cons_zero]
        go_split_ands
        go_simp
        try with_reducible rfl
      try simp only [Act.put, List.getElem_toArray, List.getElem_cons_succ, List.getElem_cons_zero, List.setIfInBounds_toArray, List.set_cons_zero, List.set_cons_succ]
      try rw [if_neg (show ¬ cap = d2 by omega)]
      refine wpAnyH_ready (rs := [20]) (by kernel_rfl) (by simp) ?_
      refine AllReadyH.cons (o := _) rfl (fun K hK => ?_) AllReadyH.nil
      simp only [List.getElem_toArray, List.getElem_cons_succ, List.getElem_cons_zero]
      go_simp
      refine (ints_len w.drew (some ⟨bx, ox + d1, none⟩) (some ⟨bx, ox + d2, none⟩) _ _ _ _ _ _ HL1.out HL2.out HI1.out HI2.out).mono ?_
      rintro en w2 ⟨rfl, f2⟩
      have F2 := (Fr.refl [] w).drew.trans f2
      go_wp2_with fail
      refine hK.out _ _ (F2.cell q5 (by simp)) (fun hHeld => ?_)
      clear hK K
      try simp only [Act.put, List.getElem_toArray, List.getElem_cons_succ, List.getElem_cons_zero, List.setIfInBounds_toArray, List.set_cons_zero, List.set_cons_succ]
      refine wpAnyH_take (i := 21) (oi := _) (v := ?_) rfl (by kernel_rfl) (by kernel_rfl) (by kernel_rfl) (fun _ _ _ h => h) (Or.inl ⟨by rfl, ?_⟩) (by assumption) ?_
      rotate_left
      · intro w hSw
        try dsimp only at hSw
        try simp only [List.getElem_toArray, List.getElem_cons_succ, List.getElem_cons_zero]
        go_split_ands
        go_simp
        try with_reducible rfl
      try simp only [Act.put, List.getElem_toArray, List.getElem_cons_succ, List.getElem_cons_zero, List.setIfInBounds_toArray, List.set_cons_zero, List.set_cons_succ]
      refine wpAnyH_done (by kernel_rfl) ?_ _
      go_wp2
      go_ret
      exact ⟨rfl, F2⟩
  · have e : doneB S L = false := decide_eq_false (fun h => by have := h.1; have := HK.out; rw [← HK.out] at h; exact h1 h.1)
    rw [e]
    have h1' : ¬ (k : Int) % (S : Int) = 0 := by omega
    clear e h1
    go_enter Try.func38, Try.ntmps38
    go_wp2
    go_ret
    exact ⟨rfl, Fr.refl _ _⟩

set_option maxHeartbeats 8000000 in
set_option maxRecDepth 100000 in
theorem rrounds_any (w : World) (p : Nat) (c : ConfV) (v : Value) (L : List Int) (hc : c.small) (h : RefT w p c v L) (hL : L.length ≤ 1000) :
    Calls Try.prog 23 #[.pointer (some ⟨p, 0, none⟩)] w fun e w' => e = .returned (.int .i64 ((L.length / c.sl.toNat : Nat) : Int)) ∧ Fr [] w w' := by
  obtain ⟨g, cap, rfl, hI, hcap⟩ := h.o.ints
  obtain ⟨wo, sl, st, wa, us⟩ := c
  obtain ⟨-, ⟨hs1, hs2⟩, -⟩ := hc
  simp only at hs1 hs2
  obtain ⟨S, rfl⟩ : ∃ S : Nat, sl = (S : Int) := ⟨sl.toNat, by omega⟩
  have q1 : w.cell? ⟨p, 1, none⟩ = some (.int .i64 (S : Int)) := cell_of h.b rfl
  have q5 : w.cell? ⟨p, 5, none⟩ = some (.slice g L.length cap) := cell_of h.b rfl
  obtain ⟨k, hk⟩ : ∃ k, k = L.length := ⟨_, rfl⟩
  rw [← hk] at q5 hcap hL ⊢
  simp only [Int.toNat_natCast]
  have hS0 : ¬ S = 0 := by omega
  have hS2 : ¬ (S : Int) = 0 := by omega
  have HE := Lib.hid (show (k : Int).tdiv (S : Int) = ((k / S : Nat) : Int) from rfl)
  clear h hI hk
  go_enter Try.func23, Try.ntmps23
  go_wp2_with fail
  refine wp_region_held_drew (S := fun w' => w'.cell? ⟨p, 5, none⟩ = some (.slice g k cap) ∧ w'.cell? ⟨p, 1, none⟩ = some (.int .i64 (S : Int))) (by kernel_rfl) ⟨q5, q1⟩ (fun hHeld => ?_)
  refine wpAnyH_take (i := 0) (oi := _) (v := ?_) rfl (by kernel_rfl) (by kernel_rfl) (by kernel_rfl) (fun _ _ _ h => h) (Or.inl ⟨by rfl, ?_⟩) (by assumption) ?_
  rotate_left
  · intro w hSw
    try dsimp only at hSw
    try simp only [List.getElem_toArray, List.getElem_cons_zero]
    go_split_ands
    go_simp
    try with_reducible rfl
  try simp only [Act.put, List.getElem_toArray, List.getElem_cons_zero, List.setIfInBounds_toArray, List.set_cons_zero, List.set_cons_succ]
  refine wpAnyH_take (i := 1) (oi := _) (v := ?_) rfl (by kernel_rfl) (by kernel_rfl) (by kernel_rfl) (fun _ _ _ h => h) (Or.inl ⟨by rfl, ?_⟩) (by assumption) ?_
  rotate_left
  · intro w hSw
    try dsimp only at hSw
    try simp only [List.getElem_toArray, List.getElem_cons_succ, List.getElem_cons_zero]
    go_split_ands
    go_simp
    try with_reducible rfl
  try simp only [Act.put, List.getElem_toArray, List.getElem_cons_succ, List.getElem_cons_zero, List.setIfInBounds_toArray, List.set_cons_zero, List.set_cons_succ]
  refine wpAnyH_take (i := 2) (oi := _) (v := ?_) rfl (by kernel_rfl) (by kernel_rfl) (by kernel_rfl) (fun _ _ _ h => h) (Or.inl ⟨by rfl, ?_⟩) (by assumption) ?_
  rotate_left
  · intro w hSw
    try dsimp only at hSw
    try simp only [List.getElem_toArray, List.getElem_cons_succ, List.getElem_cons_zero]
    go_split_ands
    go_simp
    try with_reducible rfl
  try simp only [Act.put, List.getElem_toArray, List.getElem_cons_succ, List.getElem_cons_zero, List.setIfInBounds_toArray, List.set_cons_zero, List.set_cons_succ]
  refine wpAnyH_take (i := 3) (oi := _) (v := ?_) rfl (by kernel_rfl) (by kernel_rfl) (by kernel_rfl) (fun _ _ _ h => h) (Or.inl ⟨by rfl, ?_⟩) (by assumption) ?_
  rotate_left
  · intro w hSw
    try dsimp only at hSw
    try simp only [List.getElem_toArray, List.getElem_cons_succ, List.getElem_cons_zero]
    go_split_ands
    go_simp
    try with_reducible rfl
  try simp only [Act.put, List.getElem_toArray, List.getElem_cons_succ, List.getElem_cons_zero, List.setIfInBounds_toArray, List.set_cons_zero, List.set_cons_succ]
  refine wpAnyH_take (i := 4) (oi := _) (v := ?_) rfl (by kernel_rfl) (by kernel_rfl) (by kernel_rfl) (fun _ _ _ h => h) (Or.inl ⟨by rfl, ?_⟩) (by assumption) ?_
  rotate_left
  · intro w hSw
    try dsimp only at hSw
    try simp only [List.getElem_toArray, List.getElem_cons_succ, List.getElem_cons_zero]
    go_split_ands
    go_simp
    try with_reducible rfl
  try simp only [Act.put, List.getElem_toArray, List.getElem_cons_succ, List.getElem_cons_zero, List.setIfInBounds_toArray, List.set_cons_zero, List.set_cons_succ]
  refine wpAnyH_take (i := 5) (oi := _) (v := ?_) rfl (by kernel_rfl) (by kernel_rfl) (by kernel_rfl) (fun _ _ _ h => h) (Or.inl ⟨by rfl, ?_⟩) (by assumption) ?_
  rotate_left
  · intro w hSw
    try dsimp only at hSw
    try simp only [List.getElem_toArray, List.getElem_cons_succ, List.getElem_cons_zero]
    go_split_ands
    go_simp
    try with_reducible rfl
  try simp only [Act.put, List.getElem_toArray, List.getElem_cons_succ, List.getElem_cons_zero, List.setIfInBounds_toArray, List.set_cons_zero, List.set_cons_succ]
  refine wpAnyH_take (i := 6) (oi := _) (v := ?_) rfl (by kernel_rfl) (by kernel_rfl) (by kernel_rfl) (fun _ _ _ h => h) (Or.inl ⟨by rfl, ?_⟩) (by assumption) ?_
  rotate_left
  · intro w hSw
    try dsimp only at hSw
    try simp only [List.getElem_toArray, List.getElem_cons_succ, List.getElem_cons_zero]
    go_split_ands
    go_simp
    try with_reducible rfl
  try simp only [Act.put, List.getElem_toArray, List.getElem_cons_succ, List.getElem_cons_zero, List.setIfInBounds_toArray, List.set_cons_zero, List.set_cons_succ]
  refine wpAnyH_take (i := 7) (oi := _) (v := ?_) rfl (by kernel_rfl) (by kernel_rfl) (by kernel_rfl) (fun _ _ _ h => h) (Or.inl ⟨by rfl, ?_⟩) (by assumption) ?_
  rotate_left
  · intro w hSw
    try dsimp only at hSw
    try simp only [List.getElem_toArray, List.getElem_cons_succ, List.getElem_cons_zero]
    go_split_ands
    go_simp
    try with_reducible rfl
  try simp only [Act.put, List.getElem_toArray, List.getElem_cons_succ, List.getElem_cons_zero, List.setIfInBounds_toArray, List.set_cons_zero, List.set_cons_succ]
  refine wpAnyH_take (i := 8) (oi := _) (v := ?_) rfl (by kernel_rfl) (by kernel_rfl) (by kernel_rfl) (fun _ _ _ h => h) (Or.inl ⟨by rfl, ?_⟩) (by assumption) ?_
  rotate_left
  · intro w hSw
    try dsimp only at hSw
    try simp only [List.getElem_toArray, List.getElem_cons_succ, List.getElem_cons_zero]
    go_split_ands
    go_simp
    try with_reducible rfl
  try simp only [Act.put, List.getElem_toArray, List.getElem_cons_succ, List.getElem_cons_zero, List.setIfInBounds_toArray, List.set_cons_zero, List.set_cons_succ]
  refine wpAnyH_take (i := 9) (oi := _) (v := ?_) rfl (by kernel_rfl) (by kernel_rfl) (by kernel_rfl) (fun _ _ _ h => h) (Or.inl ⟨by rfl, ?_⟩) (by assumption) ?_
  rotate_left
  · intro w hSw
    try dsimp only at hSw
    try simp only [List.getElem_toArray, List.getElem_cons_succ, List.getElem_cons_zero]
    go_split_ands
    go_simp
    try with_reducible rfl
  try simp only [Act.put, List.getElem_toArray, List.getElem_cons_succ, List.getElem_cons_zero, List.setIfInBounds_toArray, List.set_cons_zero, List.set_cons_succ]
  refine wpAnyH_take (i := 10) (oi := _) (v := ?_) rfl (by kernel_rfl) (by kernel_rfl) (by kernel_rfl) (fun _ _ _ h => h) (Or.inl ⟨by rfl, ?_⟩) (by assumption) ?_
  rotate_left
  · intro w hSw
    try dsimp only at hSw
    try simp only [List.getElem_toArray, List.getElem_cons_succ, List.getElem_cons_zero]
    go_split_ands
    go_simp
    try with_reducible rfl
  try simp only [Act.put, List.getElem_toArray, List.getElem_cons_succ, List.getElem_cons_zero, List.setIfInBounds_toArray, List.set_cons_zero, List.set_cons_succ]
  refine wpAnyH_take (i := 11) (oi := _) (v := ?_) rfl (by kernel_rfl) (by kernel_rfl) (by kernel_rfl) (fun _ _ _ h => h) (Or.inl ⟨by rfl, ?_⟩) (by assumption) ?_
  rotate_left
  · intro w hSw
    try dsimp only at hSw
    try simp only [List.getElem_toArray, List.getElem_cons_succ, List.getElem_cons_zero]
    go_split_ands
    go_simp
    try with_reducible rfl
  try simp only [Act.put, List.getElem_toArray, List.getElem_cons_succ, List.getElem_cons_zero, List.setIfInBounds_toArray, List.set_cons_zero, List.set_cons_succ]
  refine wpAnyH_done (by kernel_rfl) ?_ _
  go_wp2
  go_ret
  refine ⟨?_, (Fr.refl [] w).drew⟩
  show Ending.returned (.int .i64 (IntKind.i64.wrap ((k : Int) / (S : Int)))) = _
  have h1 : (k : Int) / (S : Int) = ((k / S : Nat) : Int) := rfl
  have h2 := Nat.div_le_self k S
  rw [h1]
  generalize k / S = z at h2 ⊢
  rw [show IntKind.i64.wrap (z : Int) = (z : Int) by rw [IntKind.wrap_i64]; omega]

set_option maxHeartbeats 8000000 in
set_option maxRecDepth 100000 in
theorem rwords_any (w : World) (p : Nat) (c : ConfV) (v : Value) (L : List Int) (hc : c.small) (h : RefT w p c v L) (hL : L.length ≤ 1000) :
    Calls Try.prog 24 #[.pointer (some ⟨p, 0, none⟩)] w fun e w' => ∃ (g : Option Addr) (cap : Nat), e = .returned (.slice g (if doneB c.sl.toNat L then L.drop (L.length - c.sl.toNat) else []).length cap) ∧ IntsAt w' g (if doneB c.sl.toNat L then L.drop (L.length - c.sl.toNat) else []) ∧ Fr [] w w' := by
  have HD := Lib.hid (rdone_any w p c v L hc h hL)
  have HR := Lib.hid h
  obtain ⟨g, cap, rfl, hI, hcap⟩ := h.o.ints
  obtain ⟨wo, sl, st, wa, us⟩ := c
  obtain ⟨-, ⟨hs1, hs2⟩, -⟩ := hc
  simp only at hs1 hs2
  obtain ⟨S, rfl⟩ : ∃ S : Nat, sl = (S : Int) := ⟨sl.toNat, by omega⟩
  have q1 : w.cell? ⟨p, 1, none⟩ = some (.int .i64 (S : Int)) := cell_of h.b rfl
  have q5 : w.cell? ⟨p, 5, none⟩ = some (.slice g L.length cap) := cell_of h.b rfl
  obtain ⟨k, hk⟩ : ∃ k, k = L.length := ⟨_, rfl⟩
  have HI := Lib.hid hI; have HK := Lib.hid hk
  rw [← hk] at q5 hcap hL
  simp only [Int.toNat_natCast] at HD ⊢
  clear h hI hk
  cases hd : doneB S L with
  | false =>
    rw [hd] at HD
    go_enter Try.func24, Try.ntmps24
    go_wp2_with fail
    refine HD.out.mono ?_
    rintro e w2 ⟨rfl, f2⟩
    go_wp2
    go_ret
    exact ⟨none, ⟨0, rfl⟩, IntsAt.empty _ _, f2⟩
  | true =>
    have h3 := of_decide_eq_true hd
    rw [← HK.out] at h3
    have h4 := h3.2.1
    rw [hd] at HD
    obtain ⟨bx, ox, rfl, hcx⟩ := HI.out.base (fun e => by have := HK.out; rw [e] at this; simp at this; omega)
    rw [if_pos rfl, ← HK.out]
    obtain ⟨d1, hd1⟩ : ∃ d1, d1 = k - S := ⟨_, rfl⟩
    have HW1 := Lib.hid (show IntKind.i64.wrap ((k : Int) - (S : Int)) = ((d1 : Nat) : Int) by rw [IntKind.wrap_i64]; omega)
    rw [← hd1]
    have HL1 := Lib.hid (show k - d1 = (L.drop d1).length by rw [List.length_drop, HK.out])
    have HI1 := Lib.hid (HI.out.drop d1)
    have hb4 : d1 ≤ k := by omega
    have hb5 : ¬ cap = d1 := by omega
    clear h3 hcx hd hd1
    go_enter Try.func24, Try.ntmps24
    go_wp2_with fail
    refine HD.out.mono ?_
    rintro e w2 ⟨rfl, f2⟩
    have r1 := f2.cell q1 (by simp); have r5 := f2.cell q5 (by simp)
    have F2 := Lib.hid f2
    clear q1 q5 f2
    go_wp2_with fail
    refine wp_region_held_drew (S := fun w' => w'.cell? ⟨p, 5, none⟩ = some (.slice (some ⟨bx, ox, none⟩) k cap) ∧ w'.cell? ⟨p, 1, none⟩ = some (.int .i64 (S : Int))) (by kernel_rfl) ⟨r5, r1⟩ (fun hHeld => ?_)
    refine wpAnyH_take (i := 0) (oi := _) (v := ?_) rfl (by kernel_rfl) (by kernel_rfl) (by kernel_rfl) (fun _ _ _ h => h) (Or.inl ⟨by rfl, ?_⟩) (by assumption) ?_
    rotate_left
    · intro w hSw
      try dsimp only at hSw
      try simp only [List.getElem_toArray, List.getElem_cons_zero]
      go_split_ands
      go_simp
      try with_reducible rfl
    try simp only [Act.put, List.getElem_toArray, List.getElem_cons_zero, List.setIfInBounds_toArray, List.set_cons_zero, List.set_cons_succ]
    refine wpAnyH_take (i := 1) (oi := _) (v := ?_) rfl (by kernel_rfl) (by kernel_rfl) (by kernel_rfl) (fun _ _ _ h => h) (Or.inl ⟨by rfl, ?_⟩) (by assumption) ?_
    rotate_left
    · intro w hSw
      try dsimp only at hSw
      try simp only [List.getElem_toArray, List.getElem_cons_succ, List.getElem_cons_zero]
      go_split_ands
      go_simp
      try with_reducible rfl
    try simp only [Act.put, List.getElem_toArray, List.getElem_cons_succ, List.getElem_cons_zero, List.setIfInBounds_toArray, List.set_cons_zero, List.set_cons_succ]
    refine wpAnyH_take (i := 2) (oi := _) (v := ?_) rfl (by kernel_rfl) (by kernel_rfl) (by kernel_rfl) (fun _ _ _ h => h) (Or.inl ⟨by rfl, ?_⟩) (by assumption) ?_
    rotate_left
    · intro w hSw
      try dsimp only at hSw
      try simp only [List.getElem_toArray, List.getElem_cons_succ, List.getElem_cons_zero]
      go_split_ands
      go_simp
      try with_reducible rfl
    try simp only [Act.put, List.getElem_toArray, List.getElem_cons_succ, List.getElem_cons_zero, List.setIfInBounds_toArray, List.set_cons_zero, List.set_cons_succ]
    refine wpAnyH_take (i := 3) (oi := _) (v := ?_) rfl (by kernel_rfl) (by kernel_rfl) (by kernel_rfl) (fun _ _ _ h => h) (Or.inl ⟨by rfl, ?_⟩) (by assumption) ?_
    rotate_left
    · intro w hSw
      try dsimp only at hSw
      try simp only [List.getElem_toArray, List.getElem_cons_succ, List.getElem_cons_zero]
      go_split_ands
      go_simp
      try with_reducible rfl
    try simp only [Act.put, List.getElem_toArray, List.getElem_cons_succ, List.getElem_cons_zero, List.setIfInBounds_toArray, List.set_cons_zero, List.set_cons_succ]
    refine wpAnyH_take (i := 4) (oi := _) (v := ?_) rfl (by kernel_rfl) (by kernel_rfl) (by kernel_rfl) (fun _ _ _ h => h) (Or.inl ⟨by rfl, ?_⟩) (by assumption) ?_
    rotate_left
    · intro w hSw
      try dsimp only at hSw
      try simp only [List.getElem_toArray, List.getElem_cons_succ, List.getElem_cons_zero]
      go_split_ands
      go_simp
      try with_reducible rfl
    try simp only [Act.put, List.getElem_toArray, List.getElem_cons_succ, List.getElem_cons_zero, List.setIfInBounds_toArray, List.set_cons_zero, List.set_cons_succ]
    refine wpAnyH_take (i := 5) (oi := _) (v := ?_) rfl (by kernel_rfl) (by kernel_rfl) (by kernel_rfl) (fun _ _ _ h => h) (Or.inl ⟨by rfl, ?_⟩) (by assumption) ?_
    rotate_left
    · intro w hSw
      try dsimp only at hSw
      try simp only [List.getElem_toArray, List.getElem_cons_succ, List.getElem_cons_zero]
      go_split_ands
      go_simp
      try with_reducible rfl
    try simp only [Act.put, List.getElem_toArray, List.getElem_cons_succ, List.getElem_cons_zero, List.setIfInBounds_toArray, List.set_cons_zero, List.set_cons_succ]
    refine wpAnyH_take (i := 6) (oi := _) (v := ?_) rfl (by kernel_rfl) (by kernel_rfl) (by kernel_rfl) (fun _ _ _ h => h) (Or.inl ⟨by rfl, ?_⟩) (by assumption) ?_
    rotate_left
    · intro w hSw
      try dsimp only at hSw
      try simp only [List.getElem_toArray, List.getElem_cons_succ, List.getElem_cons_zero]
      go_split_ands
      go_simp
      try with_reducible rfl
    try simp only [Act.put, List.getElem_toArray, List.getElem_cons_succ, List.getElem_cons_zero, List.setIfInBounds_toArray, List.set_cons_zero, List.set_cons_succ]
    refine wpAnyH_take (i := 7) (oi := _) (v := ?_) rfl (by kernel_rfl) (by kernel_rfl) (by kernel_rfl) (fun _ _ _ h => h) (Or.inl ⟨by rfl, ?_⟩) (by assumption) ?_
    rotate_left
    · intro w hSw
      try dsimp only at hSw
      try simp only [List.getElem_toArray, List.getElem_cons_succ, List.getElem_cons_zero]
      go_split_ands
      go_simp
      try with_reducible rfl
    try simp only [Act.put, List.getElem_toArray, List.getElem_cons_succ, List.getElem_cons_zero, List.setIfInBounds_toArray, List.set_cons_zero, List.set_cons_succ]
    refine wpAnyH_take (i := 8) (oi := _) (v := ?_) rfl (by kernel_rfl) (by kernel_rfl) (by kernel_rfl) (fun _ _ _ h => h) (Or.inl ⟨by rfl, ?_⟩) (by assumption) ?_
    rotate_left
    · intro w hSw
      try dsimp only at hSw
      try simp only [List.getElem_toArray, List.getElem_cons_succ, List.getElem_cons_zero]
      go_split_ands
      go_simp
      try with_reducible rfl
    try simp only [Act.put, List.getElem_toArray, List.getElem_cons_succ, List.getElem_cons_zero, List.setIfInBounds_toArray, List.set_cons_zero, List.set_cons_succ]
    refine wpAnyH_take (i := 9) (oi := _) (v := ?_) rfl (by kernel_rfl) (by kernel_rfl) (by kernel_rfl) (fun _ _ _ h => h) (Or.inl ⟨by rfl, ?_⟩) (by assumption) ?_
    rotate_left
    · intro w hSw
      try dsimp only at hSw
      try simp only [List.getElem_toArray, List.getElem_cons_succ, List.getElem_cons_zero]
      go_split_ands
      go_simp
      try with_reducible rfl
    try simp only [Act.put, List.getElem_toArray, List.getElem_cons_succ, List.getElem_cons_zero, List.setIfInBounds_toArray, List.set_cons_zero, List.set_cons_succ]
    refine wpAnyH_take (i := 10) (oi := _) (v := ?_) rfl (by kernel_rfl) (by kernel_rfl) (by kernel_rfl) (fun _ _ _ h => h) (Or.inl ⟨by rfl, ?_⟩) (by assumption) ?_
    rotate_left
    · intro w hSw
      try dsimp only at hSw
      try simp only [List.getElem_toArray, List.getElem_cons_succ, List.getElem_cons_zero]
      go_split_ands
      go_simp
      try with_reducible rfl
    try simp only [Act.put, List.getElem_toArray, List.getElem_cons_succ, List.getElem_cons_zero, List.setIfInBounds_toArray, List.set_cons_zero, List.set_cons_succ]
    refine wpAnyH_take (i := 11) (oi := _) (v := ?_) rfl (by kernel_rfl) (by kernel_rfl) (by kernel_rfl) (fun _ _ _ h => h) (Or.inl ⟨by rfl, ?_⟩) (by assumption) ?_
    rotate_left
    · intro w hSw
      try dsimp only at hSw
      try simp only [List.getElem_toArray, List.getElem_cons_succ, List.getElem_cons_zero]
      go_split_ands
      go_simp
      try with_reducible rfl
    try simp only [Act.put, List.getElem_toArray, List.getElem_cons_succ, List.getElem_cons_zero, List.setIfInBounds_toArray, List.set_cons_zero, List.set_cons_succ]
    refine wpAnyH_take (i := 12) (oi := _) (v := ?_) rfl (by kernel_rfl) (by kernel_rfl) (by kernel_rfl) (fun _ _ _ h => h) (Or.inl ⟨by rfl, ?_⟩) (by assumption) ?_
    rotate_left
    · intro w hSw
      try dsimp only at hSw
      try simp only [List.getElem_toArray, List.getElem_cons_succ, List.getElem_cons_zero]
      go_split_ands
      go_simp
      try with_reducible rfl
    try simp only [Act.put, List.getElem_toArray, List.getElem_cons_succ, List.getElem_cons_zero, List.setIfInBounds_toArray, List.set_cons_zero, List.set_cons_succ]
    refine wpAnyH_take (i := 13) (oi := _) (v := ?_) rfl (by kernel_rfl) (by kernel_rfl) (by kernel_rfl) (fun _ _ _ h => h) (Or.inl ⟨by rfl, ?_⟩) (by assumption) ?_
    rotate_left
    · intro w hSw
      try dsimp only at hSw
      try simp only [List.getElem_toArray, List.getElem_cons_succ, List.getElem_cons_zero]
      go_split_ands
      go_simp
      try with_reducible rfl
    try simp only [Act.put, List.getElem_toArray, List.getElem_cons_succ, List.getElem_cons_zero, List.setIfInBounds_toArray, List.set_cons_zero, List.set_cons_succ]
    refine wpAnyH_take (i := 14) (oi := _) (v := ?_) rfl (by kernel_rfl) (by kernel_rfl) (by kernel_rfl) (fun _ _ _ h => h) (Or.inl ⟨by rfl, ?_⟩) (by assumption) ?_
    rotate_left
    · intro w hSw
      try dsimp only at hSw
      try simp only [List.getElem_toArray, List.getElem_cons_succ, List.getElem_cons_zero]
      go_split_ands
      go_simp
      try with_reducible rfl
    try simp only [Act.put, List.getElem_toArray, List.getElem_cons_succ, List.getElem_cons_zero, List.setIfInBounds_toArray, List.set_cons_zero, List.set_cons_succ]
    try rw [HW1.out]
    refine wpAnyH_take (i := 15) (oi := _) (v := ?_) rfl (by kernel_rfl) (by kernel_rfl) (by kernel_rfl) (fun _ _ _ h => h) (Or.inl ⟨by rfl, ?_⟩) (by assumption) ?_
    rotate_left
    · intro w hSw
      try dsimp only at hSw
      try simp only [List.getElem_toArray, List.getElem_cons_succ, List.getElem_cons_zero]
      go_split_ands
      go_simp
      try with_reducible rfl
    try simp only [Act.put, List.getElem_toArray, List.getElem_cons_succ, List.getElem_cons_zero, List.setIfInBounds_toArray, List.set_cons_zero, List.set_cons_succ]
    try rw [if_neg hb5]
    refine wpAnyH_take (i := 16) (oi := _) (v := ?_) rfl (by kernel_rfl) (by kernel_rfl) (by kernel_rfl) (fun _ _ _ h => h) (Or.inl ⟨by rfl, ?_⟩) (by assumption) ?_
    rotate_left
    · intro w hSw
      try dsimp only at hSw
      try simp only [List.getElem_toArray, List.getElem_cons_succ, List.getElem_cons_zero]
      go_split_ands
      go_simp
      try with_reducible rfl
    try simp only [Act.put, List.getElem_toArray, List.getElem_cons_succ, List.getElem_cons_zero, List.setIfInBounds_toArray, List.set_cons_zero, List.set_cons_succ]
    refine wpAnyH_done (by kernel_rfl) ?_ _
    go_wp2
    go_ret
    rw [← HL1.out]
    exact ⟨some ⟨bx, ox + d1, none⟩, _, rfl, HI1.out.fr F2.out.drew (by simp), F2.out.drew⟩

set_option maxHeartbeats 8000000 in
set_option maxRecDepth 100000 in
theorem rwrites_any (w : World) (pm qm : Nat) (M : List Int) (t : Int) (g : Option Addr) (cap : Nat) (l : List WrV) (i : Int) (hM : MemAt 55 w pm qm M t) (hl : WrsAt w g l) (hl20 : l.length ≤ 20) (hm : 1 ≤ M.length ∧ M.length ≤ 100)
    (hg : ∀ a, g = some a → l.length ≠ 0 → a.block ≠ qm) (hi : 0 ≤ i ∧ i ≤ 1000) :
    Calls Try.prog 21 #[.pointer (some ⟨pm, 0, none⟩), .slice g l.length cap, .int .i64 i] w fun e w' => e = .returned (.tuple #[]) ∧ MemAt 55 w' pm qm (wrL i l M) t ∧ Fr [qm] w w' := by
  obtain ⟨len, hlen⟩ : ∃ n, n = l.length := ⟨_, rfl⟩
  rw [← hlen] at hl20 ⊢
  have HLEN := Lib.hid hlen; have HL := Lib.hid hl; have HG := Lib.hid hg
  have hM0 := Lib.hid hM
  clear hlen hl hM hg
  go_enter Try.func21, Try.ntmps21
  go_wp2_with fail
  go_loopw [6] (fun v wr => ∃ k : Nat, k ≤ len ∧ v = .int .i64 (k : Int) ∧ MemAt 55 wr pm qm (wrL i (l.take k) M) t ∧ Fr [qm] w wr) (fun v _ => len - (intOf v).toNat)
  case atStart => exact ⟨0, Nat.zero_le _, rfl, hM0.out, Fr.refl _ _⟩
  case round =>
    obtain ⟨k, hk, rfl, hmk, fk⟩ := hrel
    have HMK := Lib.hid hmk; have HFK := Lib.hid fk
    clear hmk fk
    by_cases hlt : k < len
    · obtain ⟨x, hx⟩ : ∃ x, l[k]? = some x := ⟨_, List.getElem?_eq_getElem (by rw [← HLEN.out]; exact hlt)⟩
      obtain ⟨hwh, hpl, b, o, rfl, c0, c1, c2⟩ := HL.out.2 k x hx
      have hgb := HG.out _ rfl (by rw [← HLEN.out]; omega)
      have hn : b ∉ [qm] := by simp; exact hgb
      have d0 := HFK.out.cell c0 hn; have d1 := HFK.out.cell c1 hn; have d2 := HFK.out.cell c2 hn
      have HX := Lib.hid (wrL_take (i := i) (M := M) hx)
      clear hx c0 c1 c2
      obtain ⟨wh, pl, v⟩ := x
      simp only at hwh hpl d0 d1 d2
      by_cases he : wh = i
      · subst he
        have hlM : (wrL wh (l.take k) M).length = M.length := length_wrL _ _ _
        obtain ⟨cpm, cur, hmem⟩ := HMK.out
        obtain ⟨nM, hnM⟩ : ∃ nM, nM = M.length := ⟨_, rfl⟩
        have e0 := hmem.c0
        rw [hlM, ← hnM] at e0
        have hnM0 : ¬ (nM : Int) = 0 := by omega
        have hnM2 : ¬ nM = 0 := by omega
        have hnM1 : 1 ≤ nM ∧ nM ≤ 100 := by omega
        obtain ⟨pn, rfl⟩ : ∃ pn : Nat, pl = (pn : Int) := ⟨pl.toNat, by omega⟩
        have hwp : IntKind.i64.wrap (pn : Int) = (pn : Int) := by rw [IntKind.wrap_i64]; omega
        obtain ⟨at', hat⟩ : ∃ a : Nat, a = pn % nM := ⟨_, rfl⟩
        have hlt2 : at' < nM := by rw [hat]; exact Nat.mod_lt _ (by omega)
        have HTM := Lib.hid (show (pn : Int).tmod (nM : Int) = (at' : Int) by rw [hat]; rfl)
        have cz := hmem.cq (getElem?_nat (L := wrL wh (l.take k) M) (k := at') (by omega))
        have fz := hmem.fq at'
        have hput := hmem.drew.put at' v
        have e1 : (wrL wh (l.take k) M).set at' v = wrL wh (l.take (k + 1)) M := by
          rw [HX.out]
          unfold wrOne
          rw [if_pos rfl, hlM, ← hnM, hat]
          rfl
        rw [e1] at hput
        have HFQ := Lib.hid ((HFK.out.drew).setCell (p := ⟨qm, at', none⟩) (.inl (by simp)) (.int .i64 v))
        have HFQ2 := Lib.hid ((Fr.refl [qm] wr.drew).setCell (p := ⟨qm, at', none⟩) (.inl (by simp)) (.int .i64 v))
        have HPUT := Lib.hid hput; have HMEM := Lib.hid hmem
        have hne := hmem.hne
        clear hput hmem hlM hnM hm e1 hat
        go_wp2_with fail
        refine wp_region_held_drew (S := fun w' => w'.cell? ⟨pm, 0, none⟩ = some (.slice (some ⟨qm, 0, none⟩) nM cpm) ∧ w'.cell? ⟨b, o + k * 3 + 1, none⟩ = some (.int .u8 (pn : Int)) ∧ w'.cell? ⟨b, o + k * 3 + 2, none⟩ = some (.int .i64 v)) (by kernel_rfl) ⟨e0, d1, d2⟩ (fun hHeld => ?_)
        refine wpAnyH_take (i := 0) (oi := _) (v := ?_) rfl (by kernel_rfl) (by kernel_rfl) (by kernel_rfl) (fun _ _ _ h => h) (Or.inl ⟨by rfl, ?_⟩) (by assumption) ?_
        rotate_left
        · intro w hSw
          try dsimp only at hSw
          try simp only [List.getElem_toArray, List.getElem_cons_zero]
          go_split_ands
          go_simp
          try with_reducible rfl
        try simp only [Act.put, List.getElem_toArray, List.getElem_cons_zero, List.setIfInBounds_toArray, List.set_cons_zero, List.set_cons_succ]
        refine wpAnyH_take (i := 1) (oi := _) (v := ?_) rfl (by kernel_rfl) (by kernel_rfl) (by kernel_rfl) (fun _ _ _ h => h) (Or.inl ⟨by rfl, ?_⟩) (by assumption) ?_
        rotate_left
        · intro w hSw
          try dsimp only at hSw
          try simp only [List.getElem_toArray, List.getElem_cons_succ, List.getElem_cons_zero]
          go_split_ands
          go_simp
          try with_reducible rfl
        try simp only [Act.put, List.getElem_toArray, List.getElem_cons_succ, List.getElem_cons_zero, List.setIfInBounds_toArray, List.set_cons_zero, List.set_cons_succ]
        refine wpAnyH_take (i := 2) (oi := _) (v := ?_) rfl (by kernel_rfl) (by kernel_rfl) (by kernel_rfl) (fun _ _ _ h => h) (Or.inl ⟨by rfl, ?_⟩) (by assumption) ?_
        rotate_left
        · intro w hSw
          try dsimp only at hSw
          try simp only [List.getElem_toArray, List.getElem_cons_succ, List.getElem_cons_zero]
          go_split_ands
          go_simp
          try with_reducible rfl
        try simp only [Act.put, List.getElem_toArray, List.getElem_cons_succ, List.getElem_cons_zero, List.setIfInBounds_toArray, List.set_cons_zero, List.set_cons_succ]
        refine wpAnyH_take (i := 3) (oi := _) (v := ?_) rfl (by kernel_rfl) (by kernel_rfl) (by kernel_rfl) (fun _ _ _ h => h) (Or.inl ⟨by rfl, ?_⟩) (by assumption) ?_
        rotate_left
        · intro w hSw
          try dsimp only at hSw
          try simp only [List.getElem_toArray, List.getElem_cons_succ, List.getElem_cons_zero]
          go_split_ands
          go_simp
          try with_reducible rfl
        try simp only [Act.put, List.getElem_toArray, List.getElem_cons_succ, List.getElem_cons_zero, List.setIfInBounds_toArray, List.set_cons_zero, List.set_cons_succ]
        refine wpAnyH_take (i := 4) (oi := _) (v := ?_) rfl (by kernel_rfl) (by kernel_rfl) (by kernel_rfl) (fun _ _ _ h => h) (Or.inl ⟨by rfl, ?_⟩) (by assumption) ?_
        rotate_left
        · intro w hSw
          try dsimp only at hSw
          try simp only [List.getElem_toArray, List.getElem_cons_succ, List.getElem_cons_zero]
          go_split_ands
          go_simp
          try with_reducible rfl
        try simp only [Act.put, List.getElem_toArray, List.getElem_cons_succ, List.getElem_cons_zero, List.setIfInBounds_toArray, List.set_cons_zero, List.set_cons_succ]
        refine wpAnyH_take (i := 5) (oi := _) (v := ?_) rfl (by kernel_rfl) (by kernel_rfl) (by kernel_rfl) (fun _ _ _ h => h) (Or.inl ⟨by rfl, ?_⟩) (by assumption) ?_
        rotate_left
        · intro w hSw
          try dsimp only at hSw
          try simp only [List.getElem_toArray, List.getElem_cons_succ, List.getElem_cons_zero]
          go_split_ands
          go_simp
          try with_reducible rfl
        try simp only [Act.put, List.getElem_toArray, List.getElem_cons_succ, List.getElem_cons_zero, List.setIfInBounds_toArray, List.set_cons_zero, List.set_cons_succ]
        refine wpAnyH_take (i := 6) (oi := _) (v := ?_) rfl (by kernel_rfl) (by kernel_rfl) (by kernel_rfl) (fun _ _ _ h => h) (Or.inl ⟨by rfl, ?_⟩) (by assumption) ?_
        rotate_left
        · intro w hSw
          try dsimp only at hSw
          try simp only [List.getElem_toArray, List.getElem_cons_succ, List.getElem_cons_zero]
          go_split_ands
          go_simp
          try with_reducible rfl
        try simp only [Act.put, List.getElem_toArray, List.getElem_cons_succ, List.getElem_cons_zero, List.setIfInBounds_toArray, List.set_cons_zero, List.set_cons_succ]
        refine wpAnyH_take (i := 7) (oi := _) (v := ?_) rfl (by kernel_rfl) (by kernel_rfl) (by kernel_rfl) (fun _ _ _ h => h) (Or.inl ⟨by rfl, ?_⟩) (by assumption) ?_
        rotate_left
        · intro w hSw
          try dsimp only at hSw
          try simp only [List.getElem_toArray, List.getElem_cons_succ, List.getElem_cons_zero]
          go_split_ands
          go_simp
          try with_reducible rfl
        try simp only [Act.put, List.getElem_toArray, List.getElem_cons_succ, List.getElem_cons_zero, List.setIfInBounds_toArray, List.set_cons_zero, List.set_cons_succ]
        refine wpAnyH_take (i := 8) (oi := _) (v := ?_) rfl (by kernel_rfl) (by kernel_rfl) (by kernel_rfl) (fun _ _ _ h => h) (Or.inl ⟨by rfl, ?_⟩) (by assumption) ?_
        rotate_left
        · intro w hSw
          try dsimp only at hSw
          try simp only [List.getElem_toArray, List.getElem_cons_succ, List.getElem_cons_zero]
          go_split_ands
          go_simp
          try with_reducible rfl
        try simp only [Act.put, List.getElem_toArray, List.getElem_cons_succ, List.getElem_cons_zero, List.setIfInBounds_toArray, List.set_cons_zero, List.set_cons_succ]
        refine wpAnyH_take (i := 9) (oi := _) (v := ?_) rfl (by kernel_rfl) (by kernel_rfl) (by kernel_rfl) (fun _ _ _ h => h) (Or.inl ⟨by rfl, ?_⟩) (by assumption) ?_
        rotate_left
        · intro w hSw
          try dsimp only at hSw
          try simp only [List.getElem_toArray, List.getElem_cons_succ, List.getElem_cons_zero]
          go_split_ands
          go_simp
          try with_reducible rfl
        try simp only [Act.put, List.getElem_toArray, List.getElem_cons_succ, List.getElem_cons_zero, List.setIfInBounds_toArray, List.set_cons_zero, List.set_cons_succ]
        refine wpAnyH_take (i := 10) (oi := _) (v := ?_) rfl (by kernel_rfl) (by kernel_rfl) (by kernel_rfl) (fun _ _ _ h => h) (Or.inl ⟨by rfl, ?_⟩) (by assumption) ?_
        rotate_left
        · intro w hSw
          try dsimp only at hSw
          try simp only [List.getElem_toArray, List.getElem_cons_succ, List.getElem_cons_zero]
          go_split_ands
          go_simp
          try with_reducible rfl
        try simp only [Act.put, List.getElem_toArray, List.getElem_cons_succ, List.getElem_cons_zero, List.setIfInBounds_toArray, List.set_cons_zero, List.set_cons_succ]
        refine wpAnyH_take (i := 11) (oi := _) (v := ?_) rfl (by kernel_rfl) (by kernel_rfl) (by kernel_rfl) (fun _ _ _ h => h) (Or.inl ⟨by rfl, ?_⟩) (by assumption) ?_
        rotate_left
        · intro w hSw
          try dsimp only at hSw
          try simp only [List.getElem_toArray, List.getElem_cons_succ, List.getElem_cons_zero]
          go_split_ands
          go_simp
          try with_reducible rfl
        try simp only [Act.put, List.getElem_toArray, List.getElem_cons_succ, List.getElem_cons_zero, List.setIfInBounds_toArray, List.set_cons_zero, List.set_cons_succ]
        refine wpAnyH_take (i := 12) (oi := _) (v := ?_) rfl (by kernel_rfl) (by kernel_rfl) (by kernel_rfl) (fun _ _ _ h => h) (Or.inl ⟨by rfl, ?_⟩) (by assumption) ?_
        rotate_left
        · intro w hSw
          try dsimp only at hSw
          try simp only [List.getElem_toArray, List.getElem_cons_succ, List.getElem_cons_zero]
          go_split_ands
          go_simp
          try with_reducible rfl
        try simp only [Act.put, List.getElem_toArray, List.getElem_cons_succ, List.getElem_cons_zero, List.setIfInBounds_toArray, List.set_cons_zero, List.set_cons_succ]
        refine wpAnyH_take (i := 13) (oi := _) (v := ?_) rfl (by kernel_rfl) (by kernel_rfl) (by kernel_rfl) (fun _ _ _ h => h) (Or.inl ⟨by rfl, ?_⟩) (by assumption) ?_
        rotate_left
        · intro w hSw
          try dsimp only at hSw
          try simp only [List.getElem_toArray, List.getElem_cons_succ, List.getElem_cons_zero]
          go_split_ands
          go_simp
          try with_reducible rfl
        try simp only [Act.put, List.getElem_toArray, List.getElem_cons_succ, List.getElem_cons_zero, List.setIfInBounds_toArray, List.set_cons_zero, List.set_cons_succ]
        refine wpAnyH_take (i := 14) (oi := _) (v := ?_) rfl (by kernel_rfl) (by kernel_rfl) (by kernel_rfl) (fun _ _ _ h => h) (Or.inl ⟨by rfl, ?_⟩) (by assumption) ?_
        rotate_left
        · intro w hSw
          try dsimp only at hSw
          try simp only [List.getElem_toArray, List.getElem_cons_succ, List.getElem_cons_zero]
          go_split_ands
          go_simp
          try with_reducible rfl
        try simp only [Act.put, List.getElem_toArray, List.getElem_cons_succ, List.getElem_cons_zero, List.setIfInBounds_toArray, List.set_cons_zero, List.set_cons_succ]
        refine wpAnyH_take (i := 15) (oi := _) (v := ?_) rfl (by kernel_rfl) (by kernel_rfl) (by kernel_rfl) (fun _ _ _ h => h) (Or.inl ⟨by rfl, ?_⟩) (by assumption) ?_
        rotate_left
        · intro w hSw
          try dsimp only at hSw
          try simp only [List.getElem_toArray, List.getElem_cons_succ, List.getElem_cons_zero]
          go_split_ands
          go_simp
          try with_reducible rfl
        try simp only [Act.put, List.getElem_toArray, List.getElem_cons_succ, List.getElem_cons_zero, List.setIfInBounds_toArray, List.set_cons_zero, List.set_cons_succ]
        try rw [HTM.out]
        refine wpAnyH_take (i := 16) (oi := _) (v := ?_) rfl (by kernel_rfl) (by kernel_rfl) (by kernel_rfl) (fun _ _ _ h => h) (Or.inl ⟨by rfl, ?_⟩) (by assumption) ?_
        rotate_left
        · intro w hSw
          try dsimp only at hSw
          try simp only [List.getElem_toArray, List.getElem_cons_succ, List.getElem_cons_zero]
          go_split_ands
          go_simp
          try with_reducible rfl
        try simp only [Act.put, List.getElem_toArray, List.getElem_cons_succ, List.getElem_cons_zero, List.setIfInBounds_toArray, List.set_cons_zero, List.set_cons_succ]
        refine wpAnyH_take (i := 17) (oi := _) (v := ?_) rfl (by kernel_rfl) (by kernel_rfl) (by kernel_rfl) (fun _ _ _ h => h) (Or.inl ⟨by rfl, ?_⟩) (by assumption) ?_
        rotate_left
        · intro w hSw
          try dsimp only at hSw
          try simp only [List.getElem_toArray, List.getElem_cons_succ, List.getElem_cons_zero]
          go_split_ands
          go_simp
          try with_reducible rfl
        try simp only [Act.put, List.getElem_toArray, List.getElem_cons_succ, List.getElem_cons_zero, List.setIfInBounds_toArray, List.set_cons_zero, List.set_cons_succ]
        refine wpAnyH_take (i := 18) (oi := _) (v := ?_) rfl (by kernel_rfl) (by kernel_rfl) (by kernel_rfl) (fun _ _ _ h => h) (Or.inl ⟨by rfl, ?_⟩) (by assumption) ?_
        rotate_left
        · intro w hSw
          try dsimp only at hSw
          try simp only [List.getElem_toArray, List.getElem_cons_succ, List.getElem_cons_zero]
          go_split_ands
          go_simp
          try with_reducible rfl
        try simp only [Act.put, List.getElem_toArray, List.getElem_cons_succ, List.getElem_cons_zero, List.setIfInBounds_toArray, List.set_cons_zero, List.set_cons_succ]
        refine wpAnyH_take (i := 19) (oi := _) (v := ?_) rfl (by kernel_rfl) (by kernel_rfl) (by kernel_rfl) (fun _ _ _ h => h) (Or.inl ⟨by rfl, ?_⟩) (by assumption) ?_
        rotate_left
        · intro w hSw
          try dsimp only at hSw
          try simp only [List.getElem_toArray, List.getElem_cons_succ, List.getElem_cons_zero]
          go_split_ands
          go_simp
          try with_reducible rfl
        try simp only [Act.put, List.getElem_toArray, List.getElem_cons_succ, List.getElem_cons_zero, List.setIfInBounds_toArray, List.set_cons_zero, List.set_cons_succ]
        refine wpAnyH_take (i := 20) (oi := _) (v := ?_) rfl (by kernel_rfl) (by kernel_rfl) (by kernel_rfl) (fun _ _ _ h => h) (Or.inl ⟨by rfl, ?_⟩) (by assumption) ?_
        rotate_left
        · intro w hSw
          try dsimp only at hSw
          try simp only [List.getElem_toArray, List.getElem_cons_succ, List.getElem_cons_zero]
          go_split_ands
          go_simp
          try with_reducible rfl
        try simp only [Act.put, List.getElem_toArray, List.getElem_cons_succ, List.getElem_cons_zero, List.setIfInBounds_toArray, List.set_cons_zero, List.set_cons_succ]
        refine wpAnyH_take (i := 21) (oi := _) (v := ?_) rfl (by kernel_rfl) (by kernel_rfl) (by kernel_rfl) (fun _ _ _ h => h) (Or.inl ⟨by rfl, ?_⟩) (by assumption) ?_
        rotate_left
        · intro w hSw
          try dsimp only at hSw
          try simp only [List.getElem_toArray, List.getElem_cons_succ, List.getElem_cons_zero]
          go_split_ands
          go_simp
          try with_reducible rfl
        try simp only [Act.put, List.getElem_toArray, List.getElem_cons_succ, List.getElem_cons_zero, List.setIfInBounds_toArray, List.set_cons_zero, List.set_cons_succ]
        refine wpAnyH_ready (rs := [22]) (by kernel_rfl) (by simp) ?_
        refine AllReadyH.cons (o := _) rfl (fun K hK => ?_) AllReadyH.nil
        simp only [List.getElem_toArray, List.getElem_cons_succ, List.getElem_cons_zero]
        go_simp
        refine hK.out _ _ ⟨HFQ2.out.cell e0 (by simp; exact hne), HFQ2.out.cell d1 hn, HFQ2.out.cell d2 hn⟩ (fun hHeld => ?_)
        clear hK K
        try simp only [Act.put, List.getElem_toArray, List.getElem_cons_succ, List.getElem_cons_zero, List.setIfInBounds_toArray, List.set_cons_zero, List.set_cons_succ]
        refine wpAnyH_done (by kernel_rfl) ?_ _
        go_wp2
        go_roundw
        case rel => exact ⟨k + 1, by omega, by go_num, ⟨_, _, HPUT.out⟩, HFQ.out⟩
        case measure => simp [intOf]; omega
      · have e : wrOne i (wrL i (l.take k) M) ⟨wh, pl, v⟩ = wrL i (l.take k) M := by unfold wrOne; rw [if_neg he]
        have HMK2 := Lib.hid (show MemAt 55 wr pm qm (wrL i (l.take (k + 1)) M) t by rw [HX.out, e]; exact HMK.out)
        clear e
        go_wp2
        go_roundw
        case rel => exact ⟨k + 1, by omega, by go_num, HMK2.out, HFK.out⟩
        case measure => simp [intOf]; omega
    · have hkl : k = l.length := by have := HLEN.out; omega
      have hP := HMK.out
      rw [hkl, List.take_length] at hP
      have HP := Lib.hid hP
      clear hkl hP
      go_wp2
      refine bodyPost_end (results_none rfl _ _ _) rfl ?_
      exact ⟨rfl, HP.out, HFK.out⟩

end Go.Proofs.Ytnjoefanafjniaa

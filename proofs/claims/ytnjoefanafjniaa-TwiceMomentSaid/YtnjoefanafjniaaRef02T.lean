/- The document's memory (coachhouseref02): each of its calls, in one contract. -/
import Derived.Test.YtnjoefanafjniaaOpsT
namespace Go.Proofs.Ytnjoefanafjniaa
open Go.RowKit
set_option maxHeartbeats 400000 in
theorem rload_low (w : World) (p q : Nat) (L : List Int) (t i  : Int) (hM : MemAt 55 w p q L t) (hi : i < 0) :
    Calls Try.prog 39 #[.pointer (some ⟨p, 0, none⟩), .int .i64 i] w fun e w' => e = .returned (.int .i64 0) ∧ Left 55 p q L t w w' := by
  obtain ⟨cap, cur, h⟩ := hM
  have hL : L.length ≤ 9223372036854775807 := by have := h.hl; have := h.hm; unfold maxLen at this; omega
  have c0 := h.c0; have c1 := h.c1; have f1 := h.f1 1; have hp := h.plt; have hq := h.qlt
  go_enter Try.func39, Try.ntmps39
  go_wp2
  go_ret
  exact ⟨rfl, ⟨cap, cur, h⟩, Fr.refl _ _⟩
set_option maxHeartbeats 400000 in
theorem rload_high (w : World) (p q : Nat) (L : List Int) (t i  : Int) (hM : MemAt 55 w p q L t) (hi0 : 0 ≤ i) (hi : (L.length : Int) ≤ i) :
    Calls Try.prog 39 #[.pointer (some ⟨p, 0, none⟩), .int .i64 i] w fun e w' => e = .returned (.int .i64 0) ∧ Left 55 p q L t w w' := by
  obtain ⟨cap, cur, h⟩ := hM
  have hL : L.length ≤ 9223372036854775807 := by have := h.hl; have := h.hm; unfold maxLen at this; omega
  have c0 := h.c0; have c1 := h.c1; have f1 := h.f1 1; have hp := h.plt; have hq := h.qlt
  go_enter Try.func39, Try.ntmps39
  go_wp2
  go_ret
  exact ⟨rfl, ⟨cap, cur, h⟩, Fr.refl _ _⟩
set_option maxHeartbeats 400000 in
theorem rload_in (w : World) (p q : Nat) (L : List Int) (t i  : Int) (hM : MemAt 55 w p q L t) (ht0 : 0 ≤ t) (ht1 : t < 4611686018427387904) (hi0 : 0 ≤ i) (hi1 : i < L.length) :
    Calls Try.prog 39 #[.pointer (some ⟨p, 0, none⟩), .int .i64 i] w fun e w' => e = .returned (.int .i64 (L.getD i.toNat 0)) ∧ Left 55 p q (L) (t + 1) w w' := by
  obtain ⟨cap, cur, h⟩ := hM
  have hL : L.length ≤ 9223372036854775807 := by have := h.hl; have := h.hm; unfold maxLen at this; omega
  have c0 := h.c0; have c1 := h.c1; have f1 := h.f1 1; have hp := h.plt; have hq := h.qlt
  have cq := h.cq (getElem?_toNat hi0 hi1)
  have fq := h.fq i.toNat
  have hne := h.hne
  have H := h.touch (t + 1)
  generalize L.getD i.toNat 0 = u at cq ⊢
  go_enter Try.func39, Try.ntmps39
  go_wp2
  go_ret
  exact ⟨rfl, ⟨cap, _, H⟩, (Fr.refl _ _).setCell (.inl (by simp)) _⟩
theorem rload_any (w : World) (p q : Nat) (L : List Int) (t i  : Int) (hM : MemAt 55 w p q L t) (ht0 : 0 ≤ t) (ht1 : t < 4611686018427387904) :
    Calls Try.prog 39 #[.pointer (some ⟨p, 0, none⟩), .int .i64 i] w fun e w' => e = .returned (.int .i64 (loadV L i)) ∧ Left 55 p q (L) (t + tch L i) w w' := by
  rcases where_is L i with h | ⟨h0, h⟩ | ⟨h0, h1⟩
  · simpa [loadV, tch, isIn_low h] using rload_low w p q L t i  hM h
  · simpa [loadV, tch, isIn_high h] using rload_high w p q L t i  hM h0 h
  · simpa [loadV, tch, isIn_yes h0 h1] using rload_in w p q L t i  hM ht0 ht1 h0 h1

end Go.Proofs.Ytnjoefanafjniaa

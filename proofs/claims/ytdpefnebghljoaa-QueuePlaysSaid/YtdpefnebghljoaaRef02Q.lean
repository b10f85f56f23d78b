/- The document's memory (coachhouseref02): each of its calls, in one contract. -/
import Derived.Test.YtdpefnebghljoaaOpsQ
namespace Go.Proofs.Ytdpefnebghljoaa
open Go.RowKit
set_option maxHeartbeats 400000 in
theorem rload_low (w : World) (p q : Nat) (L : List Int) (t i  : Int) (hM : MemAt 60 w p q L t) (hi : i < 0) :
    Calls Try.prog 43 #[.pointer (some ⟨p, 0, none⟩), .int .i64 i] w fun e w' => e = .returned (.int .i64 0) ∧ Left 60 p q L t w w' := by
  obtain ⟨cap, cur, h⟩ := hM
  have hL : L.length ≤ 9223372036854775807 := by have := h.hl; have := h.hm; unfold maxLen at this; omega
  have c0 := h.c0; have c1 := h.c1; have f1 := h.f1 1; have hp := h.plt; have hq := h.qlt
  go_enter Try.func43, Try.ntmps43
  go_wp2
  go_ret
  exact ⟨rfl, ⟨cap, cur, h⟩, Fr.refl _ _⟩
set_option maxHeartbeats 400000 in
theorem rload_high (w : World) (p q : Nat) (L : List Int) (t i  : Int) (hM : MemAt 60 w p q L t) (hi0 : 0 ≤ i) (hi : (L.length : Int) ≤ i) :
    Calls Try.prog 43 #[.pointer (some ⟨p, 0, none⟩), .int .i64 i] w fun e w' => e = .returned (.int .i64 0) ∧ Left 60 p q L t w w' := by
  obtain ⟨cap, cur, h⟩ := hM
  have hL : L.length ≤ 9223372036854775807 := by have := h.hl; have := h.hm; unfold maxLen at this; omega
  have c0 := h.c0; have c1 := h.c1; have f1 := h.f1 1; have hp := h.plt; have hq := h.qlt
  go_enter Try.func43, Try.ntmps43
  go_wp2
  go_ret
  exact ⟨rfl, ⟨cap, cur, h⟩, Fr.refl _ _⟩
set_option maxHeartbeats 400000 in
theorem rstore_low (w : World) (p q : Nat) (L : List Int) (t i v : Int) (hM : MemAt 60 w p q L t) (hi : i < 0) :
    Calls Try.prog 45 #[.pointer (some ⟨p, 0, none⟩), .int .i64 i, .int .i64 v] w fun e w' => e = .returned (.bool false) ∧ Left 60 p q L t w w' := by
  obtain ⟨cap, cur, h⟩ := hM
  have hL : L.length ≤ 9223372036854775807 := by have := h.hl; have := h.hm; unfold maxLen at this; omega
  have c0 := h.c0; have c1 := h.c1; have f1 := h.f1 1; have hp := h.plt; have hq := h.qlt
  go_enter Try.func45, Try.ntmps45
  go_wp2
  go_ret
  exact ⟨rfl, ⟨cap, cur, h⟩, Fr.refl _ _⟩
set_option maxHeartbeats 400000 in
theorem rstore_high (w : World) (p q : Nat) (L : List Int) (t i v : Int) (hM : MemAt 60 w p q L t) (hi0 : 0 ≤ i) (hi : (L.length : Int) ≤ i) :
    Calls Try.prog 45 #[.pointer (some ⟨p, 0, none⟩), .int .i64 i, .int .i64 v] w fun e w' => e = .returned (.bool false) ∧ Left 60 p q L t w w' := by
  obtain ⟨cap, cur, h⟩ := hM
  have hL : L.length ≤ 9223372036854775807 := by have := h.hl; have := h.hm; unfold maxLen at this; omega
  have c0 := h.c0; have c1 := h.c1; have f1 := h.f1 1; have hp := h.plt; have hq := h.qlt
  go_enter Try.func45, Try.ntmps45
  go_wp2
  go_ret
  exact ⟨rfl, ⟨cap, cur, h⟩, Fr.refl _ _⟩
set_option maxHeartbeats 400000 in
theorem rcas_low (w : World) (p q : Nat) (L : List Int) (t i o n : Int) (hM : MemAt 60 w p q L t) (hi : i < 0) :
    Calls Try.prog 59 #[.pointer (some ⟨p, 0, none⟩), .int .i64 i, .int .i64 o, .int .i64 n] w fun e w' => e = .returned (.bool false) ∧ Left 60 p q L t w w' := by
  obtain ⟨cap, cur, h⟩ := hM
  have hL : L.length ≤ 9223372036854775807 := by have := h.hl; have := h.hm; unfold maxLen at this; omega
  have c0 := h.c0; have c1 := h.c1; have f1 := h.f1 1; have hp := h.plt; have hq := h.qlt
  go_enter Try.func59, Try.ntmps59
  go_wp2
  go_ret
  exact ⟨rfl, ⟨cap, cur, h⟩, Fr.refl _ _⟩
set_option maxHeartbeats 400000 in
theorem rcas_high (w : World) (p q : Nat) (L : List Int) (t i o n : Int) (hM : MemAt 60 w p q L t) (hi0 : 0 ≤ i) (hi : (L.length : Int) ≤ i) :
    Calls Try.prog 59 #[.pointer (some ⟨p, 0, none⟩), .int .i64 i, .int .i64 o, .int .i64 n] w fun e w' => e = .returned (.bool false) ∧ Left 60 p q L t w w' := by
  obtain ⟨cap, cur, h⟩ := hM
  have hL : L.length ≤ 9223372036854775807 := by have := h.hl; have := h.hm; unfold maxLen at this; omega
  have c0 := h.c0; have c1 := h.c1; have f1 := h.f1 1; have hp := h.plt; have hq := h.qlt
  go_enter Try.func59, Try.ntmps59
  go_wp2
  go_ret
  exact ⟨rfl, ⟨cap, cur, h⟩, Fr.refl _ _⟩
set_option maxHeartbeats 400000 in
theorem rload_in (w : World) (p q : Nat) (L : List Int) (t i  : Int) (hM : MemAt 60 w p q L t) (ht0 : 0 ≤ t) (ht1 : t < 4611686018427387904) (hi0 : 0 ≤ i) (hi1 : i < L.length) :
    Calls Try.prog 43 #[.pointer (some ⟨p, 0, none⟩), .int .i64 i] w fun e w' => e = .returned (.int .i64 (L.getD i.toNat 0)) ∧ Left 60 p q (L) (t + 1) w w' := by
  obtain ⟨cap, cur, h⟩ := hM
  have hL : L.length ≤ 9223372036854775807 := by have := h.hl; have := h.hm; unfold maxLen at this; omega
  have c0 := h.c0; have c1 := h.c1; have f1 := h.f1 1; have hp := h.plt; have hq := h.qlt
  have cq := h.cq (getElem?_toNat hi0 hi1)
  have fq := h.fq i.toNat
  have hne := h.hne
  have H := h.touch (t + 1)
  generalize L.getD i.toNat 0 = u at cq ⊢
  go_enter Try.func43, Try.ntmps43
  go_wp2
  go_ret
  exact ⟨rfl, ⟨cap, _, H⟩, (Fr.refl _ _).setCell (.inl (by simp)) _⟩
set_option maxHeartbeats 400000 in
theorem rstore_in (w : World) (p q : Nat) (L : List Int) (t i v : Int) (hM : MemAt 60 w p q L t) (ht0 : 0 ≤ t) (ht1 : t < 4611686018427387904) (hi0 : 0 ≤ i) (hi1 : i < L.length) :
    Calls Try.prog 45 #[.pointer (some ⟨p, 0, none⟩), .int .i64 i, .int .i64 v] w fun e w' => e = .returned (.bool true) ∧ Left 60 p q (L.set i.toNat v) (t + 1) w w' := by
  obtain ⟨cap, cur, h⟩ := hM
  have hL : L.length ≤ 9223372036854775807 := by have := h.hl; have := h.hm; unfold maxLen at this; omega
  have c0 := h.c0; have c1 := h.c1; have f1 := h.f1 1; have hp := h.plt; have hq := h.qlt
  have cq := h.cq (getElem?_toNat hi0 hi1)
  have fq := h.fq i.toNat
  have hne := h.hne
  have H := (h.touch (t + 1)).put i.toNat v
  generalize L.getD i.toNat 0 = u at cq
  go_enter Try.func45, Try.ntmps45
  go_wp2
  go_ret
  exact ⟨rfl, ⟨cap, _, H⟩, ((Fr.refl _ _).setCell (.inl (by simp)) _).setCell (.inl (by simp)) _⟩
set_option maxHeartbeats 400000 in
theorem rcas_no (w : World) (p q : Nat) (L : List Int) (t i o n : Int) (hM : MemAt 60 w p q L t) (ht0 : 0 ≤ t) (ht1 : t < 4611686018427387904) (hi0 : 0 ≤ i) (hi1 : i < L.length) (hv : (L.getD i.toNat 0 != o) = true) :
    Calls Try.prog 59 #[.pointer (some ⟨p, 0, none⟩), .int .i64 i, .int .i64 o, .int .i64 n] w fun e w' => e = .returned (.bool false) ∧ Left 60 p q (L) (t + 1) w w' := by
  obtain ⟨cap, cur, h⟩ := hM
  have hL : L.length ≤ 9223372036854775807 := by have := h.hl; have := h.hm; unfold maxLen at this; omega
  have c0 := h.c0; have c1 := h.c1; have f1 := h.f1 1; have hp := h.plt; have hq := h.qlt
  have cq := h.cq (getElem?_toNat hi0 hi1)
  have fq := h.fq i.toNat
  have hne := h.hne
  have H := h.touch (t + 1)
  generalize L.getD i.toNat 0 = u at cq hv
  go_enter Try.func59, Try.ntmps59
  go_wp2
  go_ret
  exact ⟨rfl, ⟨cap, _, H⟩, (Fr.refl _ _).setCell (.inl (by simp)) _⟩
set_option maxHeartbeats 400000 in
theorem rcas_yes (w : World) (p q : Nat) (L : List Int) (t i o n : Int) (hM : MemAt 60 w p q L t) (ht0 : 0 ≤ t) (ht1 : t < 4611686018427387904) (hi0 : 0 ≤ i) (hi1 : i < L.length) (hv : (L.getD i.toNat 0 != o) = false) :
    Calls Try.prog 59 #[.pointer (some ⟨p, 0, none⟩), .int .i64 i, .int .i64 o, .int .i64 n] w fun e w' => e = .returned (.bool true) ∧ Left 60 p q (L.set i.toNat n) (t + 1) w w' := by
  obtain ⟨cap, cur, h⟩ := hM
  have hL : L.length ≤ 9223372036854775807 := by have := h.hl; have := h.hm; unfold maxLen at this; omega
  have c0 := h.c0; have c1 := h.c1; have f1 := h.f1 1; have hp := h.plt; have hq := h.qlt
  have cq := h.cq (getElem?_toNat hi0 hi1)
  have fq := h.fq i.toNat
  have hne := h.hne
  have H := (h.touch (t + 1)).put i.toNat n
  generalize L.getD i.toNat 0 = u at cq hv
  go_enter Try.func59, Try.ntmps59
  go_wp2
  go_ret
  exact ⟨rfl, ⟨cap, _, H⟩, ((Fr.refl _ _).setCell (.inl (by simp)) _).setCell (.inl (by simp)) _⟩
theorem rload_any (w : World) (p q : Nat) (L : List Int) (t i  : Int) (hM : MemAt 60 w p q L t) (ht0 : 0 ≤ t) (ht1 : t < 4611686018427387904) :
    Calls Try.prog 43 #[.pointer (some ⟨p, 0, none⟩), .int .i64 i] w fun e w' => e = .returned (.int .i64 (loadV L i)) ∧ Left 60 p q (L) (t + tch L i) w w' := by
  rcases where_is L i with h | ⟨h0, h⟩ | ⟨h0, h1⟩
  · simpa [loadV, tch, isIn_low h] using rload_low w p q L t i  hM h
  · simpa [loadV, tch, isIn_high h] using rload_high w p q L t i  hM h0 h
  · simpa [loadV, tch, isIn_yes h0 h1] using rload_in w p q L t i  hM ht0 ht1 h0 h1

theorem rstore_any (w : World) (p q : Nat) (L : List Int) (t i v : Int) (hM : MemAt 60 w p q L t) (ht0 : 0 ≤ t) (ht1 : t < 4611686018427387904) :
    Calls Try.prog 45 #[.pointer (some ⟨p, 0, none⟩), .int .i64 i, .int .i64 v] w fun e w' => e = .returned (.bool (isIn L i)) ∧ Left 60 p q (storeL L i v) (t + tch L i) w w' := by
  rcases where_is L i with h | ⟨h0, h⟩ | ⟨h0, h1⟩
  · simpa [storeL, tch, isIn_low h] using rstore_low w p q L t i v hM h
  · simpa [storeL, tch, isIn_high h] using rstore_high w p q L t i v hM h0 h
  · simpa [storeL, tch, isIn_yes h0 h1] using rstore_in w p q L t i v hM ht0 ht1 h0 h1

theorem rcas_any (w : World) (p q : Nat) (L : List Int) (t i o n : Int) (hM : MemAt 60 w p q L t) (ht0 : 0 ≤ t) (ht1 : t < 4611686018427387904) :
    Calls Try.prog 59 #[.pointer (some ⟨p, 0, none⟩), .int .i64 i, .int .i64 o, .int .i64 n] w fun e w' => e = .returned (.bool (casB L i o)) ∧ Left 60 p q (casL L i o n) (t + tch L i) w w' := by
  rcases where_is L i with h | ⟨h0, h⟩ | ⟨h0, h1⟩
  · simpa [casL, casB, tch, isIn_low h] using rcas_low w p q L t i o n hM h
  · simpa [casL, casB, tch, isIn_high h] using rcas_high w p q L t i o n hM h0 h
  · by_cases hv : L.getD i.toNat 0 = o
    · have hc : casB L i o = true := by unfold casB; rw [isIn_yes h0 h1, hv]; simp
      simpa [casL, hc, tch, isIn_yes h0 h1] using rcas_yes w p q L t i o n hM ht0 ht1 h0 h1 (by rw [hv]; simp)
    · have hc : casB L i o = false := by unfold casB; rw [isIn_yes h0 h1]; simpa using hv
      simpa [casL, hc, tch, isIn_yes h0 h1] using rcas_no w p q L t i o n hM ht0 ht1 h0 h1 (by simpa using hv)

end Go.Proofs.Ytdpefnebghljoaa

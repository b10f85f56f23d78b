/- What the calls of 'cells' tell and leave, as functions on lists. -/
import Derived.Test.YtdpefnebghljoaaCells2Q
namespace Go.Proofs.Ytdpefnebghljoaa
open Go.RowKit

/-- Is there such a cell? -/
def isIn (L : List Int) (i : Int) : Bool := decide (0 ≤ i ∧ i < L.length)
def loadV (L : List Int) (i : Int) : Int := if isIn L i then L.getD i.toNat 0 else 0
def tch (L : List Int) (i : Int) : Int := if isIn L i then 1 else 0
def storeL (L : List Int) (i v : Int) : List Int := if isIn L i then L.set i.toNat v else L
def casB (L : List Int) (i o : Int) : Bool := isIn L i && decide (L.getD i.toNat 0 = o)
def casL (L : List Int) (i o n : Int) : List Int := if casB L i o then L.set i.toNat n else L
def addL (L : List Int) (i d : Int) : List Int := if isIn L i then L.set i.toNat (wrap64 (L.getD i.toNat 0 + d)) else L

theorem isIn_yes {L : List Int} {i : Int} (h0 : 0 ≤ i) (h1 : i < L.length) : isIn L i = true := by simp [isIn]; omega
theorem isIn_low {L : List Int} {i : Int} (h : i < 0) : isIn L i = false := by simp [isIn]; omega
theorem isIn_high {L : List Int} {i : Int} (h : (L.length : Int) ≤ i) : isIn L i = false := by simp [isIn]; omega
theorem where_is (L : List Int) (i : Int) : (i < 0) ∨ (0 ≤ i ∧ (L.length : Int) ≤ i) ∨ (0 ≤ i ∧ i < L.length) := by omega
theorem tch_0 (L : List Int) (i : Int) : 0 ≤ tch L i ∧ tch L i ≤ 1 := by unfold tch; split <;> omega
theorem length_storeL (L : List Int) (i v : Int) : (storeL L i v).length = L.length := by unfold storeL; split <;> simp
theorem length_casL (L : List Int) (i o n : Int) : (casL L i o n).length = L.length := by unfold casL; split <;> simp
theorem length_addL (L : List Int) (i d : Int) : (addL L i d).length = L.length := by unfold addL; split <;> simp

theorem load_any (w : World) (p q : Nat) (L : List Int) (t i  : Int) (hM : MemAt 83 w p q L t) (ht0 : 0 ≤ t) (ht1 : t < 4611686018427387904) :
    Calls Try.prog 15 #[.pointer (some ⟨p, 0, none⟩), .int .i64 i] w fun e w' => e = .returned (.int .i64 (loadV L i)) ∧ Left 83 p q (L) (t + tch L i) w w' := by
  rcases where_is L i with h | ⟨h0, h⟩ | ⟨h0, h1⟩
  · simpa [loadV, tch, isIn_low h] using load_low w p q L t i  hM h
  · simpa [loadV, tch, isIn_high h] using load_high w p q L t i  hM h0 h
  · simpa [loadV, tch, isIn_yes h0 h1] using load_in w p q L t i  hM ht0 ht1 h0 h1

theorem store_any (w : World) (p q : Nat) (L : List Int) (t i v : Int) (hM : MemAt 83 w p q L t) (ht0 : 0 ≤ t) (ht1 : t < 4611686018427387904) :
    Calls Try.prog 22 #[.pointer (some ⟨p, 0, none⟩), .int .i64 i, .int .i64 v] w fun e w' => e = .returned (.bool (isIn L i)) ∧ Left 83 p q (storeL L i v) (t + tch L i) w w' := by
  rcases where_is L i with h | ⟨h0, h⟩ | ⟨h0, h1⟩
  · simpa [storeL, tch, isIn_low h] using store_low w p q L t i v hM h
  · simpa [storeL, tch, isIn_high h] using store_high w p q L t i v hM h0 h
  · simpa [storeL, tch, isIn_yes h0 h1] using store_in w p q L t i v hM ht0 ht1 h0 h1

theorem cas_any (w : World) (p q : Nat) (L : List Int) (t i o n : Int) (hM : MemAt 83 w p q L t) (ht0 : 0 ≤ t) (ht1 : t < 4611686018427387904) :
    Calls Try.prog 63 #[.pointer (some ⟨p, 0, none⟩), .int .i64 i, .int .i64 o, .int .i64 n] w fun e w' => e = .returned (.bool (casB L i o)) ∧ Left 83 p q (casL L i o n) (t + tch L i) w w' := by
  rcases where_is L i with h | ⟨h0, h⟩ | ⟨h0, h1⟩
  · simpa [casL, casB, tch, isIn_low h] using cas_low w p q L t i o n hM h
  · simpa [casL, casB, tch, isIn_high h] using cas_high w p q L t i o n hM h0 h
  · by_cases hv : L.getD i.toNat 0 = o
    · have hc : casB L i o = true := by unfold casB; rw [isIn_yes h0 h1, hv]; simp
      simpa [casL, hc, tch, isIn_yes h0 h1] using cas_yes w p q L t i o n hM ht0 ht1 h0 h1 (by rw [hv]; simp)
    · have hc : casB L i o = false := by unfold casB; rw [isIn_yes h0 h1]; simpa using hv
      simpa [casL, hc, tch, isIn_yes h0 h1] using cas_no w p q L t i o n hM ht0 ht1 h0 h1 (by simpa using hv)

end Go.Proofs.Ytdpefnebghljoaa

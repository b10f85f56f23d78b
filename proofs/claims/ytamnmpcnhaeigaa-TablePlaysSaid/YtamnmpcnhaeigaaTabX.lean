/- Table: the chapter's example ('awake'). -/
import Derived.Test.YtamnmpcnhaeigaaTabV
namespace Go.Proofs.Ytamnmpcnhaeigaa.TabW
open Go.RowKit
set_option linter.unusedVariables false

def sC : ByteArray := ⟨#[99]⟩
def sA : ByteArray := ⟨#[97]⟩
theorem put1 : put ([] : List (Int × ByteArray)) 3 sC = [(3, sC)] := rfl
theorem put2 : put [(3, sC)] 1 sA = [(1, sA), (3, sC)] := rfl
theorem has1 : has lt ([] : List (Int × ByteArray)) 3 = false := rfl
theorem has2 : has lt [(3, sC)] 1 = false := rfl

theorem lo_fr {B : Nat} {w w' : World} (h : Lo B w w') (hB : w.heap.size ≤ B) : Fr [] w w' := by
  obtain ⟨S, h1, h2⟩ := h
  exact h1.drop (fun k hk => .inr (Nat.le_trans hB (h2 k hk)))
theorem lo_trans {B : Nat} {a b c : World} (h : Lo B a b) (k : Lo B b c) : Lo B a c := by
  obtain ⟨S, h1, h2⟩ := h
  obtain ⟨T, k1, k2⟩ := k
  exact ⟨S ++ T, (h1.mono (S' := S ++ T) (fun x hx => List.mem_append_left _ hx)).trans (k1.mono (fun x hx => List.mem_append_right _ hx)), fun x hx => (List.mem_append.1 hx).elim (h2 x) (k2 x)⟩

set_option maxHeartbeats 1000000 in
theorem awake_any (w : World) : Calls Try.prog 9 #[] w fun e w' => e = .returned (.bool true) ∧ Fr [] w w' := by
  go_enter Try.func9, Try.ntmps9
  go_wp2_with fail
  refine (new_any w).mono ?_
  rintro e w1 ⟨p, rfl, hp, ht1, f1⟩
  have L1 : Lo w.heap.size w w1 := ⟨[], f1, by simp⟩
  go_wp2_with fail
  refine (put_any w.heap.size w1 p _ 3 sC (by simp) f1.size ht1).mono ?_
  rintro e w2 ⟨rfl, ht2, l2⟩
  rw [put1] at ht2
  rw [has1]
  have L2 := lo_trans L1 l2
  have hs2 : w.heap.size ≤ w2.heap.size := by obtain ⟨S, h, _⟩ := L2; exact h.size
  clear L1 l2 ht1 f1
  go_wp2_with fail
  refine (put_any w.heap.size w2 p _ 1 sA (by simp) hs2 ht2).mono ?_
  rintro e w3 ⟨rfl, ht3, l3⟩
  rw [put2] at ht3
  rw [has2]
  have L3 := lo_trans L2 l3
  clear L2 l3 ht2 hs2
  obtain ⟨s, hs, hr, hps, hlow⟩ := ht3.at_
  go_wp2_with fail
  refine (least_any w3 p s _ (by simp) hs hr).mono ?_
  rintro e w4 ⟨rfl, f4⟩
  have ht4 : TabAt w.heap.size w4 p [(1, sA), (3, sC)] := ⟨⟨s, f4.at hs (by simp), hr.fr f4, hps, hlow⟩, ht3.low, ht3.up⟩
  have L4 := lo_trans L3 ⟨[], f4, by simp⟩
  clear L3 f4 ht3 hs hr hps hlow
  simp only [leastV, kv, vv]
  have hsa : (sA.toList == [97]) = true := by decide +kernel
  have hsb : sA.toList = [97] := by simpa using hsa
  go_wp2_with fail
  refine (len_any _ w4 p _ ht4).mono ?_
  rintro e w5 ⟨rfl, rfl⟩
  have FIN := Lib.hid (lo_fr L4 (Nat.le_refl _))
  clear ht4 L4
  go_wp2
  go_ret
  exact ⟨rfl, FIN.out⟩

end Go.Proofs.Ytamnmpcnhaeigaa.TabW

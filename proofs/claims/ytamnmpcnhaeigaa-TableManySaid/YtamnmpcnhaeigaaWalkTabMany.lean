/- TableMany: the walk. -/
import Derived.Test.YtamnmpcnhaeigaaTabY
namespace Go.Proofs.Ytamnmpcnhaeigaa.TabI
open Go.RowKit
set_option linter.unusedVariables false

/-- The plain law: k put, put again, dropped, dropped again. -/
theorem many_law (L : List (Int × Int)) (hs : Rising lt L) (k v u : Int) :
    has lt (put L k v) k = true ∧ has lt (put (put L k v) k u) k = true ∧ has lt (drp (put (put L k v) k u) k) k = false ∧ (put L k v).length = (if has lt L k then L.length else L.length + 1) ∧
    (put (put L k v) k u).length = (if has lt L k then L.length else L.length + 1) ∧ (drp (put (put L k v) k u) k).length + 1 = (if has lt L k then L.length else L.length + 1) := by
  have u1 := up_put ord hs k v
  have u2 := up_put ord u1 k u
  have h1 : has lt (putG lt L k v) k = true := (has_iff ord u1 k).2 ⟨(k, v), (mem_put ord hs k v _).2 (.inl rfl), rfl⟩
  have h2 : has lt (putG lt (putG lt L k v) k u) k = true := (has_iff ord u2 k).2 ⟨(k, u), (mem_put ord u1 k u _).2 (.inl rfl), rfl⟩
  have h3 : has lt (drpG lt (putG lt (putG lt L k v) k u) k) k = false := by
    cases e : has lt (drpG lt (putG lt (putG lt L k v) k u) k) k with
    | false => rfl
    | true =>
      obtain ⟨x, hx, e2⟩ := (has_iff ord (up_drp u2 k) k).1 e
      exact absurd e2 ((mem_drp ord u2 k x).1 hx).2
  have l1 := len_putG (lt := lt) L k v
  have l2 := len_putG (lt := lt) (putG lt L k v) k u
  have l3 := len_drpG (lt := lt) (putG lt (putG lt L k v) k u) k
  rw [h1, if_pos rfl] at l2
  rw [h2, if_pos rfl] at l3
  have hp := at_lt h2
  refine ⟨h1, h2, h3, l1, by rw [put_eq, put_eq, l2, l1], ?_⟩
  show (drpG lt (putG lt (putG lt L k v) k u) k).length + 1 = _
  rw [l3, l2, ← l1]; omega

set_option maxHeartbeats 4000000 in
theorem many_walk (W : World) (g : Option Addr) (c : Nat) (l : List (Int × Int)) (k v : Int) (hA : PairsAt W.heap.size W g l) :
    Calls Try.prog 8 #[.slice g l.length c, .int .i64 k, .int .i64 v] W fun e w' => e = .returned (.bool true) ∧ Fr [] W w' := by
  have HA := Lib.hid hA
  by_cases hbig : 60 < l.length
  · have hbig' : (60 : Int) < (l.length : Int) := by omega
    clear hA
    go_enter Try.func8, Try.ntmps8
    go_wp2_with fail
    refine (TabW.awake_any W).mono ?_
    rintro e w1 ⟨rfl, f1⟩
    go_wp2_with fail
    go_ret
    exact ⟨rfl, f1⟩
  have hsm : l.length ≤ 60 := by omega
  have hbig' : ¬ (60 : Int) < (l.length : Int) := by omega
  clear hA
  go_enter Try.func8, Try.ntmps8
  go_wp2_with fail
  refine (TabW.awake_any W).mono ?_
  rintro e w1 ⟨rfl, f1⟩
  have HA1 := Lib.hid ((HA.out.fr f1).up f1.size)
  go_wp2_with fail
  refine (filled_any w1 g c l hsm HA1.out).mono ?_
  rintro e w2 ⟨p, rfl, ht2, f2⟩
  have F2 := f1.trans f2
  have hup : Rising lt (fillL l) := ht2.up
  have hlen : (fillL l).length ≤ 60 := Nat.le_trans (len_fill l) hsm
  obtain ⟨L, hL⟩ : ∃ L, fillL l = L := ⟨_, rfl⟩
  rw [hL] at ht2 hup hlen
  have hB1 := f2.size
  obtain ⟨B, hB⟩ : ∃ B, w1.heap.size = B := ⟨_, rfl⟩
  have hBW : W.heap.size ≤ B := by rw [← hB]; exact f1.size
  rw [hB] at ht2 hB1
  have FF := Lib.hid F2
  clear f1 f2 F2 HA HA1 hB hL
  obtain ⟨q1, q2, q3, q4, q5, q6⟩ := many_law L hup k v (wrap64 (v + 1))
  obtain ⟨M1, hM1⟩ : ∃ M, put L k v = M := ⟨_, rfl⟩
  rw [hM1] at q1 q2 q3 q4 q5 q6
  obtain ⟨M2, hM2⟩ : ∃ M, put M1 k (wrap64 (v + 1)) = M := ⟨_, rfl⟩
  rw [hM2] at q2 q3 q5 q6
  obtain ⟨M3, hM3⟩ : ∃ M, drp M2 k = M := ⟨_, rfl⟩
  rw [hM3] at q3 q6
  obtain ⟨hb, hHB⟩ : ∃ b, has lt L k = b := ⟨_, rfl⟩
  rw [hHB] at q4 q5 q6
  have hlen1 : M1.length ≤ 1000 := by split at q4 <;> omega
  have hlen2 : M2.length ≤ 1000 := by split at q5 <;> omega
  have hlen3 : M3.length ≤ 60 := by split at q6 <;> omega
  have P1 := Lib.hid fun (w : World) (h : B ≤ w.heap.size) (t : TabAt B w p L) => put_any B w p L k v (by omega) h t
  rw [hM1, hHB] at P1
  have P2 := Lib.hid fun (w : World) (h : B ≤ w.heap.size) (t : TabAt B w p M1) => put_any B w p M1 k (wrap64 (v + 1)) hlen1 h t
  rw [hM2, q1] at P2
  have D2 := Lib.hid fun (w : World) (t : TabAt B w p M2) => drop_any B w p M2 k hlen2 t
  rw [hM3, q2] at D2
  have D3 := Lib.hid fun (w : World) (t : TabAt B w p M3) => drop_any B w p M3 k (by omega) t
  rw [q3] at D3
  have G0 := Lib.hid fun (w : World) (t : TabAt B w p L) => get_any B w p L k (by omega) t
  rw [hHB] at G0
  have A3 := Lib.hid fun (w : World) (t : TabAt B w p M3) => all_tab B w p M3 hlen3 t
  have N0 := Lib.hid fun (w : World) (t : TabAt B w p L) => len_any B w p L t
  have N1 := Lib.hid fun (w : World) (t : TabAt B w p M1) => len_any B w p M1 t
  have N2 := Lib.hid fun (w : World) (t : TabAt B w p M2) => len_any B w p M2 t
  have N3 := Lib.hid fun (w : World) (t : TabAt B w p M3) => len_any B w p M3 t
  obtain ⟨drp3, hD3⟩ : ∃ M, drp M3 k = M := ⟨_, rfl⟩
  have hd3 : drp M3 k = M3 := by unfold drp; rw [q3]; rfl
  rw [hd3] at D3
  have hq5 : M2.length = M1.length := by rw [q5, q4]
  rw [hq5] at N2
  have q6' : M3.length + 1 = M1.length := by rw [q6, q4]
  obtain ⟨m, hm⟩ : ∃ m, M3.length = m := ⟨_, rfl⟩
  obtain ⟨n1, hn1⟩ : ∃ m, M1.length = m := ⟨_, rfl⟩
  obtain ⟨n, hn⟩ : ∃ m, L.length = m := ⟨_, rfl⟩
  rw [hn] at N0 q4
  rw [hn1] at N1 N2 q6' q4
  rw [hm] at N3 q6'
  have HM := Lib.hid hm
  generalize vv (got L k) = gv at G0
  have hmm : m ≤ 60 := by omega
  clear q1 q2 q3 q5 q6 hM1 hM2 hM3 hHB hup hlen1 hlen2 hlen3 hd3 hD3 hq5 hm hn1 hn hlen
  subst q6'
  simp only [kv, vv] at P1 P2 D2 D3 G0
  cases hb with
  | true =>
    have q4' : m + 1 = n := q4
    subst q4'
    have hsub : ((m + 1 : Nat) : Int) - 1 = (m : Int) := by omega
    clear q4
    go_wp2_with fail
    refine (N0.out _ ht2).mono ?_
    rintro e w3 ⟨rfl, rfl⟩
    go_wp2_with fail
    refine (G0.out _ ht2).mono ?_
    rintro e w4 ⟨rfl, f4⟩
    have t4 := ht2.fr f4
    have hB4 := Nat.le_trans hB1 f4.size
    have L4 := (Lo.of_fr (B := B) FF.out).trans (Lo.of_fr f4)
    clear ht2 FF f4
    go_wp2_with fail
    refine (P1.out w4 hB4 t4).mono ?_
    rintro e w5 ⟨rfl, t5, l5⟩
    have L5 := L4.trans l5
    have hB5 := Nat.le_trans hB4 l5.size
    clear t4 L4 l5
    go_wp2_with fail
    refine (N1.out _ t5).mono ?_
    rintro e w6 ⟨rfl, rfl⟩
    go_wp2_with fail
    refine (P2.out _ hB5 t5).mono ?_
    rintro e w7 ⟨rfl, t7, l7⟩
    have L7 := L5.trans l7
    clear t5 L5 l7
    go_wp2_with fail
    refine (N2.out _ t7).mono ?_
    rintro e w8 ⟨rfl, rfl⟩
    go_wp2_with fail
    refine (D2.out _ t7).mono ?_
    rintro e w9 ⟨rfl, t9, l9⟩
    have L9 := L7.trans l9
    clear t7 L7 l9
    go_wp2_with fail
    refine (N3.out _ t9).mono ?_
    rintro e w10 ⟨rfl, rfl⟩
    go_wp2_with fail
    refine (D3.out _ t9).mono ?_
    rintro e w11 ⟨rfl, t11, l11⟩
    have L11 := L9.trans l11
    clear t9 L9 l11
    go_wp2_with fail
    refine (A3.out _ t11).mono ?_
    rintro e w12 ⟨ga, ca, rfl, _, f12⟩
    rw [HM.out]
    have FIN := Lib.hid ((L11.trans (Lo.of_fr f12)).fr hBW)
    clear t11 L11 f12
    go_wp2_with fail
    go_ret
    exact ⟨rfl, FIN.out⟩
  | false =>
    have q4' : m = n := by have : m + 1 = n + 1 := q4; omega
    subst q4'
    clear q4
    go_wp2_with fail
    refine (N0.out _ ht2).mono ?_
    rintro e w3 ⟨rfl, rfl⟩
    go_wp2_with fail
    refine (G0.out _ ht2).mono ?_
    rintro e w4 ⟨rfl, f4⟩
    have t4 := ht2.fr f4
    have hB4 := Nat.le_trans hB1 f4.size
    have L4 := (Lo.of_fr (B := B) FF.out).trans (Lo.of_fr f4)
    clear ht2 FF f4
    go_wp2_with fail
    refine (P1.out w4 hB4 t4).mono ?_
    rintro e w5 ⟨rfl, t5, l5⟩
    have L5 := L4.trans l5
    have hB5 := Nat.le_trans hB4 l5.size
    clear t4 L4 l5
    go_wp2_with fail
    refine (N1.out _ t5).mono ?_
    rintro e w6 ⟨rfl, rfl⟩
    go_wp2_with fail
    refine (P2.out _ hB5 t5).mono ?_
    rintro e w7 ⟨rfl, t7, l7⟩
    have L7 := L5.trans l7
    clear t5 L5 l7
    go_wp2_with fail
    refine (N2.out _ t7).mono ?_
    rintro e w8 ⟨rfl, rfl⟩
    go_wp2_with fail
    refine (D2.out _ t7).mono ?_
    rintro e w9 ⟨rfl, t9, l9⟩
    have L9 := L7.trans l9
    clear t7 L7 l9
    go_wp2_with fail
    refine (N3.out _ t9).mono ?_
    rintro e w10 ⟨rfl, rfl⟩
    go_wp2_with fail
    refine (D3.out _ t9).mono ?_
    rintro e w11 ⟨rfl, t11, l11⟩
    have L11 := L9.trans l11
    clear t9 L9 l11
    go_wp2_with fail
    refine (A3.out _ t11).mono ?_
    rintro e w12 ⟨ga, ca, rfl, _, f12⟩
    rw [HM.out]
    have FIN := Lib.hid ((L11.trans (Lo.of_fr f12)).fr hBW)
    clear t11 L11 f12
    go_wp2_with fail
    go_ret
    exact ⟨rfl, FIN.out⟩

end Go.Proofs.Ytamnmpcnhaeigaa.TabI

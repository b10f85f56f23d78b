/- The walk of LineHead. -/
import Derived.Test.YtngojpccemjikaaAwake06
namespace Go.Proofs.Ytngojpccemjikaa
open Go.RowKit Go.Shelf

theorem rm_head {a : Int} {t : List Int} (h : Ln (a :: t)) : rm (a :: t) a = t := by
  have hn := (List.nodup_cons.1 h.2).1
  have := rm_self hn
  simp only [rm] at this
  simp only [rm, ne_eq, not_true_eq_false, decide_false, Bool.false_eq_true, not_false_eq_true, List.filter_cons_of_neg]
  exact this

set_option maxHeartbeats 1000000 in
theorem head_walk (w : World) (q : Int) (h2 : q ≤ 9223372036854775807) :
    Calls Try.prog 8 #[.int .i64 q] w fun e w' => e = .returned (.bool true) ∧ Fr [] w w' := by
  go_enter Try.func8, Try.ntmps8
  go_wp2_with fail
  refine (awake_any _).mono ?_
  rintro e w1 ⟨rfl, F1⟩
  go_wp2_with fail
  refine (right_L _ q h2).mono ?_
  rintro e w2 ⟨r, rfl, hr, f2⟩
  have F2 := F1.trans f2; clear F1 f2
  cases r
  · clear hr
    go_wp2
    go_ret
    exact ⟨rfl, F2⟩
  · obtain ⟨L, hL, rfl⟩ := hr.1 rfl
    clear hr
    have HL := Lib.hid hL; clear hL
    go_wp2_with fail
    refine (head_L _ L HL.out).mono ?_
    rintro e w3 ⟨rfl, f3⟩
    have F3 := F2.trans f3; clear F2 f3
    cases L with
    | nil =>
      rw [show headV [] = .tuple #[.int .i64 0, .bool false] from rfl, show ((wd [] : Nat) : Int) = 0 from rfl]
      go_wp2_with fail
      refine (drop_L _ [] 0 Ln.nil).mono ?_
      rintro e w4 ⟨rfl, f4⟩
      rw [show ((wd (rm [] 0) : Nat) : Int) = 0 from rfl, show decide ((0 : Int) ∈ ([] : List Int)) = false by decide]
      have F4 := F3.trans f4; clear F3 f4
      go_wp2_with fail
      refine (list_L _ [] Ln.nil).mono ?_
      rintro e w5 ⟨g5, c5, rfl, hx, f5, -⟩
      have F5 := F4.trans f5; clear F4 f5
      go_wp2
      go_ret
      exact ⟨rfl, F5⟩
    | cons a t =>
      rw [show headV (a :: t) = .tuple #[.int .i64 a, .bool true] by simp [headV, headI]]
      have HT := Lib.hid HL.out.tail
      have HM := Lib.hid (List.nodup_cons.1 HL.out.2).1
      have hl15 := HL.out.length
      obtain ⟨Q, hQ⟩ : ∃ Q, Q = wd (a :: t) := ⟨_, rfl⟩
      rw [← hQ]
      have HQ := Lib.hid hQ; clear hQ
      go_wp2_with fail
      rw [HQ.out]
      refine (drop_L _ (a :: t) a HL.out).mono ?_
      rintro e w4 ⟨rfl, f4⟩
      rw [rm_head HL.out, decide_eq_true (List.mem_cons_self (a := a) (l := t)), ← HQ.out]
      have F4 := F3.trans f4; clear F3 f4
      go_wp2_with fail
      rw [HQ.out]
      refine (list_L _ (a :: t) HL.out).mono ?_
      rintro e w5 ⟨g5, c5, rfl, hx, f5, -⟩
      rw [← HQ.out]
      obtain ⟨b5, o5, rfl, hc5⟩ := hx.base (by simp)
      have ga : w5.cell? ⟨b5, o5, none⟩ = some (.int .i64 a) := hc5 0 a rfl
      clear hx hc5
      have F5 := F4.trans f5; clear F4 f5
      rw [List.length_cons] at hl15 ⊢
      have hpos : (0 : Int) < ((t.length + 1 : Nat) : Int) := by omega
      obtain ⟨len, hlen⟩ : ∃ len, len = t.length + 1 := ⟨_, rfl⟩
      rw [← hlen] at hl15 hpos ⊢
      clear hlen
      have hne : ¬ (len : Int) = 0 := by omega
      go_wp2_with fail
      rw [HQ.out]
      refine (pop_L _ (a :: t) HL.out).mono ?_
      rintro e w6 ⟨rfl, f6⟩
      rw [← HQ.out, List.tail_cons]
      have F6 := F5.trans f6; clear F5 f6
      go_wp2_with fail
      rw [HQ.out]
      refine (has_L _ (a :: t) a HL.out).mono ?_
      rintro e w7 ⟨rfl, f7⟩
      rw [decide_eq_true (List.mem_cons_self (a := a) (l := t)), ← HQ.out]
      have F7 := F6.trans f7; clear F6 f7
      go_wp2_with fail
      refine (has_L _ t a HT.out).mono ?_
      rintro e w8 ⟨rfl, f8⟩
      rw [decide_eq_false HM.out]
      have F8 := F7.trans f8; clear F7 f8
      go_wp2
      go_ret
      exact ⟨rfl, F8⟩

end Go.Proofs.Ytngojpccemjikaa

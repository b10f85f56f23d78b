/- The chapter's example ('awake') for the queue. -/
import Derived.Test.YtdpefnebghljoaaQuG
namespace Go.Proofs.Ytdpefnebghljoaa
open Go.RowKit

def confQ : ConfV := ⟨1, 1, 0, 1, 1⟩
theorem confQ_fits : confQ.fits := by unfold ConfV.fits confQ; simp
theorem ln_nil : Ln [] := ⟨fun x hx => by simp at hx, List.nodup_nil⟩
theorem ln_zero : Ln [0] := ⟨fun x hx => by rw [List.mem_singleton.1 hx]; omega, by simp⟩
def MQ : List Int := [0, 0, 0, 0, 0, 0]
def MQ1 : List Int := [0, 1, 0, 0, 0, 0]
theorem laid_confQ : laidM confQ 0 [] = MQ := by decide

/-- Two steps of one that comes into an empty line. -/
theorem qs_come (w : World) (p pm qm : Nat) (c : ConfV) (s : QuS) (M : List Int) (t : Int) (Q : List Int) (h : QuAt w p c s) (hM : MemAt 83 w pm qm M t) (ht0 : 0 ≤ t) (ht1 : t ≤ 1000000) (hp : p ≠ pm ∧ p ≠ qm) (hQ : Ln Q) (hl : loadV M 1 = (wd Q : Int)) (hn : s.nx = .come) :
    Calls Try.prog 13 #[.pointer (some ⟨p, 0, none⟩), .pointer (some ⟨pm, 0, none⟩)] w
      (QStep w p pm qm c (if c.wa ≤ (Q.length : Int) ∨ s.w ∈ Q then { s with line := Q, e := 7, nx := .done } else { s with line := Q, nx := .push }) M (t + tch M 1)) := by
  have hC := qcome_any w p pm qm c s M t Q h hM ht0 ht1 hp hQ hl
  have := qstep_any w p pm qm c s _ _ M _ _ h hp (by rw [hn]; rfl) hC
  by_cases hf : c.wa ≤ (Q.length : Int) ∨ s.w ∈ Q
  · rw [if_pos hf] at this ⊢; rw [if_pos hf] at this; exact this
  · rw [if_neg hf] at this ⊢; rw [if_neg hf] at this; exact this

theorem qs_push (w : World) (p pm qm : Nat) (c : ConfV) (s : QuS) (M : List Int) (t : Int) (h : QuAt w p c s) (hM : MemAt 83 w pm qm M t) (ht0 : 0 ≤ t) (ht1 : t ≤ 1000000) (hp : p ≠ pm ∧ p ≠ qm) (hL : Ln s.line) (hn : s.nx = .push) (hok : Ln (s.line ++ [s.w])) (hcs : casB M 1 (wd s.line) = true) :
    Calls Try.prog 13 #[.pointer (some ⟨p, 0, none⟩), .pointer (some ⟨pm, 0, none⟩)] w
      (QStep w p pm qm c { s with nx := .closed } (casL M 1 (wd s.line) (wd (s.line ++ [s.w]) : Int)) (t + tch M 1)) := by
  have hC := qpush_any w p pm qm c s M t h hM ht0 ht1 hp hL
  rw [if_pos ⟨hok, hcs⟩, if_pos ⟨hok, hcs⟩, if_pos hok, if_pos hok, show pushL s.line s.w = s.line ++ [s.w] by unfold pushL; rw [if_pos hok]] at hC
  exact qstep_any w p pm qm c s _ _ _ _ _ h hp (by rw [hn]; rfl) hC
theorem qs_open (w : World) (p pm qm : Nat) (c : ConfV) (s : QuS) (M : List Int) (t : Int) (h : QuAt w p c s) (hM : MemAt 83 w pm qm M t) (ht0 : 0 ≤ t) (ht1 : t ≤ 1000000) (hp : p ≠ pm ∧ p ≠ qm) (hn : s.nx = .closed) (h0 : loadV M 0 = 0) :
    Calls Try.prog 13 #[.pointer (some ⟨p, 0, none⟩), .pointer (some ⟨pm, 0, none⟩)] w
      (QStep w p pm qm c { s with e := 0, nx := .done } M (t + tch M 0)) := by
  have hC := qclosed_any w p pm qm c s M t h hM ht0 ht1 hp
  rw [if_pos h0, if_pos h0] at hC
  exact qstep_any w p pm qm c s _ _ _ _ _ h hp (by rw [hn]; rfl) hC

set_option maxHeartbeats 4000000 in
set_option maxRecDepth 100000 in
theorem awake_any (w : World) : Calls Try.prog 8 #[] w fun e w' => e = .returned (.bool true) ∧ Fr [] w w' := by
  have HB := Lib.hid ((Fr.refl [] w).alloc (.cells #[.int .i64 1, .int .i64 1, .int .i64 0, .int .i64 1, .int .i64 1] 25))
  go_enter Try.func8, Try.ntmps8
  go_wp2_with fail
  refine (qlaid_any _ confQ 0 none 0 [] confQ_fits ln_nil (IntsAt.empty _ _)).mono ?_
  rintro e w1 ⟨pm, qm, t1, rfl, hpm, hqm, ht1, hm, f1⟩
  rw [laid_confQ] at hm
  rw [World.size_alloc] at hpm hqm
  have hbx := f1.at (heap_alloc_new w _) (by simp)
  have a0 := cell_of (i := 0) hbx rfl
  have a1 := cell_of (i := 1) hbx rfl
  have a2 := cell_of (i := 2) hbx rfl
  have a3 := cell_of (i := 3) hbx rfl
  have a4 := cell_of (i := 4) hbx rfl
  have HF1 := Lib.hid (HB.out.trans f1); have HM1 := Lib.hid hm
  have hpl := hm.plt; have hql := hm.qlt
  clear hbx f1 hm
  go_wp2_with fail
  refine (enter_any _ confQ 0).mono ?_
  rintro e w2 ⟨p, rfl, hp, hq, f2⟩
  have hpp : p ≠ pm ∧ p ≠ qm := ⟨by omega, by omega⟩
  have HS1 := Lib.hid (qs_come w2 p pm qm confQ _ MQ t1 [] hq (HM1.out.fr f2 (by simp) (by simp)) (by omega) (by omega) hpp ln_nil (by decide) rfl)
  have HF2 := Lib.hid (HF1.out.trans f2)
  have hp0 : w.heap.size ≤ p := by have := HF1.out.size; omega
  clear a0 a1 a2 a3 a4 hq f2 hpl hql hp
  go_wp2_with fail
  refine HS1.out.mono ?_
  rw [if_neg (by simp [confQ])]
  rintro e w3 ⟨rfl, hq3, hm3, f3⟩
  have HF3 := Lib.hid (HF2.out.then f3 (fun x hx => by simp at hx; rcases hx with rfl | rfl | rfl <;> exact .inr (by omega)))
  have ht3 := tch_0 MQ 1
  have HS2 := Lib.hid (qs_push w3 p pm qm confQ _ MQ (t1 + tch MQ 1) hq3 hm3 (by omega) (by omega) hpp ln_nil rfl ln_zero (by decide))
  rw [show casL MQ 1 (wd ([] : List Int) : Int) (wd ([] ++ [(0 : Int)]) : Int) = MQ1 by decide] at HS2
  clear hq3 hm3 f3
  go_wp2_with fail
  refine HS2.out.mono ?_
  rintro e w4 ⟨rfl, hq4, hm4, f4⟩
  have HF4 := Lib.hid (HF3.out.then f4 (fun x hx => by simp at hx; rcases hx with rfl | rfl | rfl <;> exact .inr (by omega)))
  have HS3 := Lib.hid (qs_open w4 p pm qm confQ _ MQ1 _ hq4 hm4 (by omega) (by omega) hpp rfl (by decide))
  clear hq4 hm4 f4
  go_wp2_with fail
  refine HS3.out.mono ?_
  rintro e w5 ⟨rfl, hq5, hm5, f5⟩
  have HF5 := Lib.hid (HF4.out.then f5 (fun x hx => by simp at hx; rcases hx with rfl | rfl | rfl <;> exact .inr (by omega)))
  have ht5 := tch_0 MQ1 0
  have HA := Lib.hid (answer_any w5 p confQ _ hq5)
  have HM5 := Lib.hid hm5
  clear hq5 hm5 f5
  go_wp2_with fail
  refine HA.out.mono ?_
  rintro e w6 ⟨rfl, f6⟩
  have hld := load_any w6 pm qm MQ1 _ 1 (HM5.out.fr f6 (by simp) (by simp)) (by omega) (by omega)
  rw [show loadV MQ1 1 = 1 by decide] at hld
  have HLD := Lib.hid hld
  have HF6 := Lib.hid (HF5.out.trans f6)
  clear hld f6
  go_wp2_with fail
  refine HLD.out.mono ?_
  rintro e w7 ⟨rfl, hm7, f7⟩
  have HF7 := Lib.hid (HF6.out.then2 f7 (by omega) (by omega))
  clear hm7 f7
  go_wp2
  go_ret
  exact ⟨rfl, HF7.out⟩

end Go.Proofs.Ytdpefnebghljoaa

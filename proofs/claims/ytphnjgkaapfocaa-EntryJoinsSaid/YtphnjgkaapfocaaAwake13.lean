/- The chapter's example ('awake') for entries. -/
import Derived.Test.YtphnjgkaapfocaaEntL
namespace Go.Proofs.Ytphnjgkaapfocaa
open Go.RowKit

def ent1 : EntV := ⟨1, 3, 0, 0, false, false, 0, 0, 0, 0, false⟩
theorem ent1_ok : ∀ x ∈ [ent1], x.ok := by decide

set_option maxHeartbeats 1000000 in
theorem awake_any (w : World) : Calls Try.prog 9 #[] w fun e w' => e = .returned (.bool true) ∧ Fr [] w w' := by
  go_enter Try.func9, Try.ntmps9
  go_wp2_with fail
  have h0 := EntsAt.lit w 32 [ent1] (by decide)
  refine (encode_any _ _ 1 [ent1] h0).mono ?_
  intro e w1 he
  obtain ⟨g1, c1, rfl, hb1, hc1, f1⟩ := enc_yes he (by decide) ent1_ok
  have f01 := ((Fr.refl [] w).alloc _).trans f1
  have h01 := h0.fr f1 (by simp)
  have HE := Lib.hid h01; have F1 := Lib.hid f01; have HB := Lib.hid hb1; clear he h0 f1 f01 h01 hb1
  obtain ⟨n1, hn1⟩ : ∃ n1, n1 = (forms [ent1]).length := ⟨_, rfl⟩
  have HN := Lib.hid hn1
  rw [← hn1] at hc1 ⊢
  clear hn1
  go_wp2_with fail
  rw [HN.out]
  refine (decode_any _ _ _ _ HB.out (by rw [← HN.out]; exact hc1)).mono ?_
  intro e w2 he
  obtain ⟨g2, c2, rfl, hb2, hc2, f2⟩ := dec_forms he (by decide) ent1_ok
  rw [← HN.out]
  have HE2 := Lib.hid (HE.out.fr f2 (by simp)); have HM := Lib.hid hb2; have F2 := Lib.hid (F1.out.trans f2)
  have hcv := conv_any (HB.out.fr f2 (by simp)) c1
  rw [← HN.out, show strOfNums (forms [ent1]) = { data := #[1, 3, 0, 0, 0, 0, 0, 0, 0, 0, 0, 0] } from rfl] at hcv
  clear he hb2 f2 HE F1 HB
  rw [show ([ent1] : List EntV).length = 1 from rfl]
  obtain ⟨x0, x1, x2, x3, x4, x5, x6, x7, x8, x9, x10⟩ := EntCells.of (b := w.heap.size) (o := 0) (fun i v hv => by
    obtain ⟨b, o, hb, hc⟩ := HE2.out.2 0 ent1 rfl
    have := hc i v hv
    simp only [Option.some.injEq, Addr.mk.injEq, and_true] at hb
    obtain ⟨rfl, rfl⟩ := hb
    exact this)
  go_wp2_with fail
  refine (same_any _ _ _ 1 _ [ent1] [ent1] HE2.out HM.out).mono ?_
  rintro e w3 ⟨rfl, f3⟩
  rw [decide_eq_true rfl]
  have F3 := Lib.hid (F2.out.trans f3)
  have y0 := f3.cell x0 (by simp); have y1 := f3.cell x1 (by simp); have y2 := f3.cell x2 (by simp); have y3 := f3.cell x3 (by simp); have y4 := f3.cell x4 (by simp); have y5 := f3.cell x5 (by simp)
  have y6 := f3.cell x6 (by simp); have y7 := f3.cell x7 (by simp); have y8 := f3.cell x8 (by simp); have y9 := f3.cell x9 (by simp); have y10 := f3.cell x10 (by simp)
  clear x0 x1 x2 x3 x4 x5 x6 x7 x8 x9 x10 hcv f3 F2
  go_wp2_with fail
  refine (right_any _ ent1).mono ?_
  rintro e w4 ⟨rfl, f4⟩
  rw [decide_eq_true (show ent1.ok by decide)]
  have F4 := Lib.hid (F3.out.trans f4)
  clear y0 y1 y2 y3 y4 y5 y6 y7 y8 y9 y10 f4 F3
  go_wp2
  go_ret
  exact ⟨rfl, F4.out⟩

end Go.Proofs.Ytphnjgkaapfocaa

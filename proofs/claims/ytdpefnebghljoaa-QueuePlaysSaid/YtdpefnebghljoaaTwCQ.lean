/- Confs: the program's, and the document's. -/
import Derived.Test.YtdpefnebghljoaaOpsQ
import Derived.Test.YtdpefnebghljoaaIntsQ
namespace Go.Proofs.Ytdpefnebghljoaa
open Go.RowKit

/-- A conf, as data. -/
structure ConfV where
  wo : Int
  sl : Int
  st : Int
  wa : Int
  us : Int
def ConfV.val (c : ConfV) : Value := .agg #[.int .i64 c.wo, .int .i64 c.sl, .int .i64 c.st, .int .i64 c.wa, .int .i64 c.us]
/-- A conf of the document's small ones. -/
def ConfV.small (c : ConfV) : Prop := (1 ≤ c.wo ∧ c.wo ≤ 4) ∧ (1 ≤ c.sl ∧ c.sl ≤ 5) ∧ (0 ≤ c.st ∧ c.st ≤ 3) ∧ (0 ≤ c.wa ∧ c.wa ≤ 3) ∧ (1 ≤ c.us ∧ c.us ≤ 4)
def ConfV.cells (c : ConfV) : Int := 3 + 2 * c.wo + c.sl
def ConfV.slot (c : ConfV) (i : Int) : Int := 3 + 2 * c.wo + i

set_option maxHeartbeats 400000 in
theorem between_any (w : World) (a n b : Int) (h1 : a ≤ n) (h2 : n ≤ b) : Calls Try.prog 60 #[.int .i64 a, .int .i64 n, .int .i64 b] w fun e w' => e = .returned (.bool true) ∧ w' = w := by
  go_enter Try.func60, Try.ntmps60
  go_wp2
  go_ret
  exact ⟨rfl, rfl⟩

set_option maxHeartbeats 1000000 in
theorem cright_any (w : World) (c : ConfV) (hc : c.small) : Calls Try.prog 48 #[c.val] w fun e w' => e = .returned (.bool true) ∧ Fr [] w w' := by
  obtain ⟨wo, sl, st, wa, us⟩ := c
  obtain ⟨⟨a0, a1⟩, ⟨b0, b1⟩, ⟨c0, c1⟩, ⟨d0, d1⟩, ⟨e0, e1⟩⟩ := hc
  unfold ConfV.val
  simp only at a0 a1 b0 b1 c0 c1 d0 d1 e0 e1
  have hfr := (Fr.refl [] w).alloc (.cells #[.int .i64 wo, .int .i64 sl, .int .i64 st, .int .i64 wa, .int .i64 us] 25)
  have HF := Lib.hid hfr; clear hfr
  go_enter Try.func48, Try.ntmps48
  go_wp2_with fail
  refine (between_any _ 1 wo 8 (by omega) (by omega)).mono ?_
  rintro e w1 ⟨rfl, rfl⟩
  go_wp2_with fail
  refine (between_any _ 1 sl 16 (by omega) (by omega)).mono ?_
  rintro e w1 ⟨rfl, rfl⟩
  go_wp2_with fail
  refine (between_any _ 0 st 8 (by omega) (by omega)).mono ?_
  rintro e w1 ⟨rfl, rfl⟩
  go_wp2_with fail
  refine (between_any _ 0 wa 8 (by omega) (by omega)).mono ?_
  rintro e w1 ⟨rfl, rfl⟩
  go_wp2_with fail
  refine (between_any _ 1 us 60 (by omega) (by omega)).mono ?_
  rintro e w1 ⟨rfl, rfl⟩
  go_wp2
  go_ret
  exact ⟨rfl, HF.out⟩

set_option maxHeartbeats 400000 in
theorem ccells_any (w : World) (c : ConfV) (hc : c.small) : Calls Try.prog 50 #[c.val] w fun e w' => e = .returned (.int .i64 c.cells) ∧ Fr [] w w' := by
  obtain ⟨wo, sl, st, wa, us⟩ := c
  obtain ⟨⟨a0, a1⟩, ⟨b0, b1⟩, -⟩ := hc
  unfold ConfV.val ConfV.cells
  simp only at a0 a1 b0 b1
  have hfr := (Fr.refl [] w).alloc (.cells #[.int .i64 wo, .int .i64 sl, .int .i64 st, .int .i64 wa, .int .i64 us] 25)
  have HF := Lib.hid hfr; clear hfr
  go_enter Try.func50, Try.ntmps50
  go_wp2
  go_ret
  exact ⟨rfl, HF.out⟩

set_option maxHeartbeats 400000 in
theorem rslot_any (w : World) (c : ConfV) (i : Int) (hc : c.small) (h0 : 0 ≤ i) (h1 : i < c.sl) : Calls Try.prog 42 #[c.val, .int .i64 i] w fun e w' => e = .returned (.int .i64 (c.slot i)) ∧ Fr [] w w' := by
  obtain ⟨wo, sl, st, wa, us⟩ := c
  obtain ⟨⟨a0, a1⟩, ⟨b0, b1⟩, -⟩ := hc
  unfold ConfV.val ConfV.slot
  simp only at a0 a1 b0 b1 h1
  have hfr := (Fr.refl [] w).alloc (.cells #[.int .i64 wo, .int .i64 sl, .int .i64 st, .int .i64 wa, .int .i64 us] 25)
  have HF := Lib.hid hfr; clear hfr
  have HW := Lib.hid (show 3 + wo + wo + i = 3 + 2 * wo + i by omega)
  go_enter Try.func42, Try.ntmps42
  go_wp2
  go_ret
  exact ⟨by rw [← HW.out]; rfl, HF.out⟩

set_option maxHeartbeats 400000 in
theorem rcells_any (w : World) (c : ConfV) (hc : c.small) : Calls Try.prog 26 #[c.val] w fun e w' => e = .returned (.int .i64 c.cells) ∧ Fr [] w w' := by
  obtain ⟨cc, hcc⟩ : ∃ cc, cc = c := ⟨c, rfl⟩
  have HSM := Lib.hid hc
  obtain ⟨wo, sl, st, wa, us⟩ := c
  obtain ⟨⟨a0, a1⟩, ⟨b0, b1⟩, -⟩ := hc
  simp only at a0 a1 b0 b1
  have hfr := (Fr.refl [] w).alloc (.cells #[.int .i64 wo, .int .i64 sl, .int .i64 st, .int .i64 wa, .int .i64 us] 25)
  have HF := Lib.hid hfr
  have hs := fun W : World => rslot_any W ⟨wo, sl, st, wa, us⟩ (sl - 1) HSM.out (by omega) (by show sl - 1 < sl; omega)
  have HS := Lib.hid hs; clear hfr hs hcc
  unfold ConfV.val ConfV.cells
  have hw : 3 + 2 * wo + (sl - 1) + 1 = 3 + 2 * wo + sl := by omega
  have HW := Lib.hid hw; clear hw
  go_enter Try.func26, Try.ntmps26
  go_wp2_with fail
  refine (HS.out _).mono ?_
  unfold ConfV.slot
  rintro e w1 ⟨rfl, f1⟩
  go_wp2
  go_ret
  exact ⟨by rw [← HW.out]; rfl, HF.out.trans f1⟩

set_option maxHeartbeats 400000 in
theorem rconf_any (w : World) (a b c d e : Int) (ha : 0 ≤ a ∧ a ≤ 255) (hb : 0 ≤ b ∧ b ≤ 255) (hc : 0 ≤ c ∧ c ≤ 255) (hd : 0 ≤ d ∧ d ≤ 255) (he : 0 ≤ e ∧ e ≤ 255) :
    Calls Try.prog 19 #[.agg #[.int .u8 a, .int .u8 b, .int .u8 c, .int .u8 d, .int .u8 e]] w fun en w' => ∃ cv : ConfV, en = .returned cv.val ∧ cv.small ∧ Fr [] w w' := by
  obtain ⟨a0, a1⟩ := ha
  obtain ⟨b0, b1⟩ := hb
  obtain ⟨c0, c1⟩ := hc
  obtain ⟨d0, d1⟩ := hd
  obtain ⟨e0, e1⟩ := he
  go_enter Try.func19, Try.ntmps19
  go_wp2
  have hbk := heap_alloc_new (w.alloc (.cells #[.int .u8 a, .int .u8 b, .int .u8 c, .int .u8 d, .int .u8 e] 44)) (.cells #[.int .i64 (1 + a % 4), .int .i64 (1 + b % 5), .int .i64 (c % 4), .int .i64 (d % 4), .int .i64 (1 + e % 4)] 25)
  have hfr := ((Fr.refl [] w).alloc (.cells #[.int .u8 a, .int .u8 b, .int .u8 c, .int .u8 d, .int .u8 e] 44)).alloc (.cells #[.int .i64 (1 + a % 4), .int .i64 (1 + b % 5), .int .i64 (c % 4), .int .i64 (d % 4), .int .i64 (1 + e % 4)] 25)
  rw [World.size_alloc] at hbk
  generalize (w.alloc (.cells #[.int .u8 a, .int .u8 b, .int .u8 c, .int .u8 d, .int .u8 e] 44)).alloc (.cells #[.int .i64 (1 + a % 4), .int .i64 (1 + b % 5), .int .i64 (c % 4), .int .i64 (d % 4), .int .i64 (1 + e % 4)] 25) = W at hbk hfr ⊢
  have m0 : W.cell? ⟨w.heap.size + 1, 0, none⟩ = some (.int .i64 (1 + a % 4)) := cell_of hbk rfl
  have m1 : W.cell? ⟨w.heap.size + 1, 1, none⟩ = some (.int .i64 (1 + b % 5)) := cell_of hbk rfl
  have m2 : W.cell? ⟨w.heap.size + 1, 2, none⟩ = some (.int .i64 (c % 4)) := cell_of hbk rfl
  have m3 : W.cell? ⟨w.heap.size + 1, 3, none⟩ = some (.int .i64 (d % 4)) := cell_of hbk rfl
  have m4 : W.cell? ⟨w.heap.size + 1, 4, none⟩ = some (.int .i64 (1 + e % 4)) := cell_of hbk rfl
  refine bodyPost_ret (v := ConfV.val ⟨1 + a % 4, 1 + b % 5, c % 4, d % 4, 1 + e % 4⟩) ?_ rfl ⟨⟨1 + a % 4, 1 + b % 5, c % 4, d % 4, 1 + e % 4⟩, rfl, ⟨⟨by show 1 ≤ 1 + a % 4; omega, by show 1 + a % 4 ≤ 4; omega⟩, ⟨by show 1 ≤ 1 + b % 5; omega, by show 1 + b % 5 ≤ 5; omega⟩, ⟨by show 0 ≤ c % 4; omega, by show c % 4 ≤ 3; omega⟩, ⟨by show 0 ≤ d % 4; omega, by show d % 4 ≤ 3; omega⟩, ⟨by show 1 ≤ 1 + e % 4; omega, by show 1 + e % 4 ≤ 4; omega⟩⟩, hfr⟩
  simp [results, Try.f19, go_sem, m0, m1, m2, m3, m4]
  rfl

set_option maxHeartbeats 1000000 in
theorem cmem_any (w : World) (c : ConfV) (hc : c.small) :
    Calls Try.prog 33 #[c.val] w fun e w' => ∃ p q, e = .returned (.tuple #[.pointer (some ⟨p, 0, none⟩), .int .i64 0]) ∧ w.heap.size ≤ p ∧ w.heap.size ≤ q ∧ MemAt 83 w' p q (List.replicate c.cells.toNat 0) 0 ∧ Fr [] w w' := by
  have hn1 : 1 ≤ c.cells := by have := hc.1; have := hc.2.1; unfold ConfV.cells; omega
  have hn2 : c.cells ≤ 4096 := by have := hc.1; have := hc.2.1; unfold ConfV.cells; omega
  have HS := Lib.hid hc
  have HN := Lib.hid (fun W : World => new_any c.cells W hn1 hn2)
  have h1 := Lib.hid (fun W : World => cright_any W c hc)
  have h2 := Lib.hid (fun W : World => ccells_any W c hc)
  clear hc
  obtain ⟨wo, sl, st, wa, us⟩ := c
  have hfr := (Fr.refl [] w).alloc (.cells #[.int .i64 wo, .int .i64 sl, .int .i64 st, .int .i64 wa, .int .i64 us] 25)
  have hbk := heap_alloc_new w (.cells #[.int .i64 wo, .int .i64 sl, .int .i64 st, .int .i64 wa, .int .i64 us] 25)
  have HF := Lib.hid hfr; have HB := Lib.hid hbk; clear hfr hbk
  unfold ConfV.val at h1 h2 ⊢
  simp only at h1 h2
  generalize ConfV.cells ⟨wo, sl, st, wa, us⟩ = nn at *
  go_enter Try.func33, Try.ntmps33
  go_wp2_with fail
  refine (h1.out _).mono ?_
  rintro e w1 ⟨rfl, f1⟩
  have hb1 := f1.at HB.out (by simp)
  have x0 : w1.cell? ⟨w.heap.size, 0, none⟩ = some (.int .i64 wo) := cell_of hb1 rfl
  have x1 : w1.cell? ⟨w.heap.size, 1, none⟩ = some (.int .i64 sl) := cell_of hb1 rfl
  have x2 : w1.cell? ⟨w.heap.size, 2, none⟩ = some (.int .i64 st) := cell_of hb1 rfl
  have x3 : w1.cell? ⟨w.heap.size, 3, none⟩ = some (.int .i64 wa) := cell_of hb1 rfl
  have x4 : w1.cell? ⟨w.heap.size, 4, none⟩ = some (.int .i64 us) := cell_of hb1 rfl
  have F1 := HF.out.trans f1
  clear hb1 f1
  go_wp2_with fail
  refine (h2.out _).mono ?_
  rintro e w2 ⟨rfl, f2⟩
  have F2 := F1.trans f2
  clear F1 f2 x0 x1 x2 x3 x4
  go_wp2_with fail
  refine (HN.out _).mono ?_
  rintro e w3 ⟨p, q, rfl, hp, hq, hm, f3⟩
  have F3 := F2.trans f3
  have hs := F2.size
  clear f3 F2
  have HM := Lib.hid hm; clear hm
  go_wp2
  go_ret2
  exact ⟨p, q, rfl, by omega, by omega, HM.out, F3⟩

end Go.Proofs.Ytdpefnebghljoaa

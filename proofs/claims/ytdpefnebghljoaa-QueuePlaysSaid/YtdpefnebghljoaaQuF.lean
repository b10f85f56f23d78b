/- The queue's memory: confs of any size that fits; laid. -/
import Derived.Test.YtdpefnebghljoaaQuE
namespace Go.Proofs.Ytdpefnebghljoaa
open Go.RowKit

/-- A conf that fits. -/
def ConfV.fits (c : ConfV) : Prop := (1 ≤ c.wo ∧ c.wo ≤ 8) ∧ (1 ≤ c.sl ∧ c.sl ≤ 16) ∧ (0 ≤ c.st ∧ c.st ≤ 8) ∧ (0 ≤ c.wa ∧ c.wa ≤ 8) ∧ (1 ≤ c.us ∧ c.us ≤ 60)
theorem ConfV.small.fits {c : ConfV} (h : c.small) : c.fits := by
  obtain ⟨h1, h2, h3, h4, h5⟩ := h
  exact ⟨by omega, by omega, by omega, by omega, by omega⟩

set_option maxHeartbeats 1000000 in
theorem cright_fits (w : World) (c : ConfV) (hc : c.fits) : Calls Try.prog 48 #[c.val] w fun e w' => e = .returned (.bool true) ∧ Fr [] w w' := by
  obtain ⟨wo, sl, st, wa, us⟩ := c
  obtain ⟨⟨a0, a1⟩, ⟨b0, b1⟩, ⟨c0, c1⟩, ⟨d0, d1⟩, ⟨e0, e1⟩⟩ := hc
  unfold ConfV.val
  simp only at a0 a1 b0 b1 c0 c1 d0 d1 e0 e1
  have hfr := (Fr.refl [] w).alloc (.cells #[.int .i64 wo, .int .i64 sl, .int .i64 st, .int .i64 wa, .int .i64 us] 25)
  have HF := Lib.hid hfr; clear hfr
  go_enter Try.func48, Try.ntmps48
  go_wp2_with fail
  refine (between_any _ 1 wo 8 (by omega) (by omega)).mono ?_
  rintro e w1 ⟨rfl, rfl⟩
  go_wp2_with fail
  refine (between_any _ 1 sl 16 (by omega) (by omega)).mono ?_
  rintro e w1 ⟨rfl, rfl⟩
  go_wp2_with fail
  refine (between_any _ 0 st 8 (by omega) (by omega)).mono ?_
  rintro e w1 ⟨rfl, rfl⟩
  go_wp2_with fail
  refine (between_any _ 0 wa 8 (by omega) (by omega)).mono ?_
  rintro e w1 ⟨rfl, rfl⟩
  go_wp2_with fail
  refine (between_any _ 1 us 60 (by omega) (by omega)).mono ?_
  rintro e w1 ⟨rfl, rfl⟩
  go_wp2
  go_ret
  exact ⟨rfl, HF.out⟩

set_option maxHeartbeats 400000 in
theorem ccells_fits (w : World) (c : ConfV) (hc : c.fits) : Calls Try.prog 50 #[c.val] w fun e w' => e = .returned (.int .i64 c.cells) ∧ Fr [] w w' := by
  obtain ⟨wo, sl, st, wa, us⟩ := c
  obtain ⟨⟨a0, a1⟩, ⟨b0, b1⟩, -⟩ := hc
  unfold ConfV.val ConfV.cells
  simp only at a0 a1 b0 b1
  have hfr := (Fr.refl [] w).alloc (.cells #[.int .i64 wo, .int .i64 sl, .int .i64 st, .int .i64 wa, .int .i64 us] 25)
  have HF := Lib.hid hfr; clear hfr
  go_enter Try.func50, Try.ntmps50
  go_wp2
  go_ret
  exact ⟨rfl, HF.out⟩

set_option maxHeartbeats 1000000 in
theorem cmem_fits (w : World) (c : ConfV) (hc : c.fits) :
    Calls Try.prog 33 #[c.val] w fun e w' => ∃ p q, e = .returned (.tuple #[.pointer (some ⟨p, 0, none⟩), .int .i64 0]) ∧ w.heap.size ≤ p ∧ w.heap.size ≤ q ∧ MemAt 83 w' p q (List.replicate c.cells.toNat 0) 0 ∧ Fr [] w w' := by
  have hn1 : 1 ≤ c.cells := by have := hc.1; have := hc.2.1; unfold ConfV.cells; omega
  have hn2 : c.cells ≤ 4096 := by have := hc.1; have := hc.2.1; unfold ConfV.cells; omega
  have HS := Lib.hid hc
  have HN := Lib.hid (fun W : World => new_any c.cells W hn1 hn2)
  have h1 := Lib.hid (fun W : World => cright_fits W c hc)
  have h2 := Lib.hid (fun W : World => ccells_fits W c hc)
  clear hc
  obtain ⟨wo, sl, st, wa, us⟩ := c
  have hfr := (Fr.refl [] w).alloc (.cells #[.int .i64 wo, .int .i64 sl, .int .i64 st, .int .i64 wa, .int .i64 us] 25)
  have hbk := heap_alloc_new w (.cells #[.int .i64 wo, .int .i64 sl, .int .i64 st, .int .i64 wa, .int .i64 us] 25)
  have HF := Lib.hid hfr; have HB := Lib.hid hbk; clear hfr hbk
  unfold ConfV.val at h1 h2 ⊢
  simp only at h1 h2
  generalize ConfV.cells ⟨wo, sl, st, wa, us⟩ = nn at *
  go_enter Try.func33, Try.ntmps33
  go_wp2_with fail
  refine (h1.out _).mono ?_
  rintro e w1 ⟨rfl, f1⟩
  have hb1 := f1.at HB.out (by simp)
  have x0 : w1.cell? ⟨w.heap.size, 0, none⟩ = some (.int .i64 wo) := cell_of hb1 rfl
  have x1 : w1.cell? ⟨w.heap.size, 1, none⟩ = some (.int .i64 sl) := cell_of hb1 rfl
  have x2 : w1.cell? ⟨w.heap.size, 2, none⟩ = some (.int .i64 st) := cell_of hb1 rfl
  have x3 : w1.cell? ⟨w.heap.size, 3, none⟩ = some (.int .i64 wa) := cell_of hb1 rfl
  have x4 : w1.cell? ⟨w.heap.size, 4, none⟩ = some (.int .i64 us) := cell_of hb1 rfl
  have F1 := HF.out.trans f1
  clear hb1 f1
  go_wp2_with fail
  refine (h2.out _).mono ?_
  rintro e w2 ⟨rfl, f2⟩
  have F2 := F1.trans f2
  clear F1 f2 x0 x1 x2 x3 x4
  go_wp2_with fail
  refine (HN.out _).mono ?_
  rintro e w3 ⟨p, q, rfl, hp, hq, hm, f3⟩
  have F3 := F2.trans f3
  have hs := F2.size
  clear f3 F2
  have HM := Lib.hid hm; clear hm
  go_wp2
  go_ret2
  exact ⟨p, q, rfl, by omega, by omega, HM.out, F3⟩

/-- The memory that laid makes. -/
def laidM (c : ConfV) (closed : Int) (L : List Int) : List Int := storeL (storeL (List.replicate c.cells.toNat 0) 0 closed) 1 (wd L : Int)
theorem length_laidM (c : ConfV) (closed : Int) (L : List Int) : (laidM c closed L).length = c.cells.toNat := by unfold laidM; rw [length_storeL, length_storeL, List.length_replicate]

set_option maxHeartbeats 4000000 in
set_option maxRecDepth 100000 in
theorem qlaid_any (w : World) (c : ConfV) (closed : Int) (g : Option Addr) (cap : Nat) (L : List Int) (hc : c.fits) (hL : Ln L) (hI : IntsAt w g L) :
    Calls Try.prog 10 #[c.val, .int .i64 closed, .slice g L.length cap] w fun e w' => ∃ p q, ∃ t : Int, e = .returned (.pointer (some ⟨p, 0, none⟩)) ∧ w.heap.size ≤ p ∧ w.heap.size ≤ q ∧ (0 ≤ t ∧ t ≤ 2) ∧ MemAt 83 w' p q (laidM c closed L) t ∧ Fr [] w w' := by
  have HMEM := Lib.hid (fun W : World => cmem_fits W c hc)
  have HI := Lib.hid hI
  obtain ⟨len, hlen⟩ : ∃ len, len = L.length := ⟨_, rfl⟩
  rw [← hlen]
  have HLEN := Lib.hid hlen
  obtain ⟨M0, hM0⟩ : ∃ M0, M0 = List.replicate c.cells.toNat (0 : Int) := ⟨_, rfl⟩
  have HLM := Lib.hid (show laidM c closed L = storeL (storeL M0 0 closed) 1 (wd L : Int) by unfold laidM; rw [hM0])
  rw [← hM0] at HMEM
  clear hI hlen hM0 hc
  obtain ⟨wo, sl, st, wa, us⟩ := c
  unfold ConfV.val at HMEM ⊢
  simp only at HMEM
  have HF := Lib.hid ((Fr.refl [] w).alloc (.cells #[.int .i64 wo, .int .i64 sl, .int .i64 st, .int .i64 wa, .int .i64 us] 25))
  go_enter Try.func10, Try.ntmps10
  go_wp2_with fail
  refine (HMEM.out _).mono ?_
  rintro e w1 ⟨p, q, rfl, hp, hq, hm, f1⟩
  rw [World.size_alloc] at hp hq
  have HF1 := Lib.hid (HF.out.trans f1)
  have HS1 := Lib.hid (store_any w1 p q M0 0 0 closed hm (by omega) (by omega))
  clear hm f1
  go_wp2_with fail
  refine HS1.out.mono ?_
  rintro e w2 ⟨rfl, hm2, f2⟩
  have HF2 := Lib.hid (HF1.out.then2 f2 (by omega) (by omega))
  have HM2 := Lib.hid hm2
  have HW := Lib.hid (ref_word_any w2 g cap L hL (HI.out.fr HF2.out (by simp)))
  rw [← HLEN.out] at HW
  clear hm2 f2
  go_wp2_with fail
  refine HW.out.mono ?_
  rintro e w3 ⟨rfl, f3⟩
  have ht := tch_0 M0 0
  have HS3 := Lib.hid (store_any w3 p q (storeL M0 0 closed) (0 + tch M0 0) 1 (wd L : Int) (HM2.out.fr f3 (by simp) (by simp)) (by omega) (by omega))
  have HF3 := Lib.hid (HF2.out.trans f3)
  clear f3
  go_wp2_with fail
  refine HS3.out.mono ?_
  rintro e w4 ⟨rfl, hm4, f4⟩
  have ht2 := tch_0 (storeL M0 0 closed) 1
  have HE := Lib.hid (show ∃ p' q', ∃ t : Int, Ending.returned (.pointer (some ⟨p, 0, none⟩)) = .returned (.pointer (some ⟨p', 0, none⟩)) ∧ w.heap.size ≤ p' ∧ w.heap.size ≤ q' ∧ (0 ≤ t ∧ t ≤ 2) ∧ MemAt 83 w4 p' q' (laidM ⟨wo, sl, st, wa, us⟩ closed L) t ∧ Fr [] w w4 from
    ⟨p, q, 0 + tch M0 0 + tch (storeL M0 0 closed) 1, rfl, by omega, by omega, ⟨by omega, by omega⟩, by rw [HLM.out]; exact hm4, HF3.out.then2 f4 (by omega) (by omega)⟩)
  clear hm4 f4
  go_wp2
  go_ret
  exact HE.out

end Go.Proofs.Ytdpefnebghljoaa

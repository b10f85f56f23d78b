/- The chapter's example ('awake') for looking twice. -/
import Derived.Test.YtnjoefanafjniaaTwF
namespace Go.Proofs.Ytnjoefanafjniaa
open Go.RowKit

def conf1 : ConfV := ⟨1, 3, 0, 0, 1⟩
theorem conf1_small : conf1.small := by unfold ConfV.small conf1; simp
def M1 : List Int := List.replicate 8 0
theorem slots1 : slotsX conf1 M1 = [0, 0, 0] := by decide

set_option maxHeartbeats 2000000 in
set_option maxRecDepth 100000 in
theorem awake_any (w : World) : Calls Try.prog 8 #[] w fun e w' => e = .returned (.bool true) ∧ Fr [] w w' := by
  have HB := Lib.hid ((Fr.refl [] w).alloc (.cells #[.int .i64 1, .int .i64 3, .int .i64 0, .int .i64 0, .int .i64 1] 31))
  go_enter Try.func8, Try.ntmps8
  go_wp2_with fail
  refine (laid_any _ conf1 8 none 0 [] conf1_small rfl (by simp) (IntsAt.empty _ _)).mono ?_
  rintro e w1 ⟨pm, qm, rfl, hpm, hqm, hm, f1⟩
  rw [World.size_alloc] at hpm hqm
  have F1 := HB.out.trans f1
  have hml : ((M1.length : Nat) : Int) = conf1.cells := by decide
  have hbx := f1.at (heap_alloc_new w _) (by simp)
  have a0 := cell_of (i := 0) hbx rfl
  have a1 := cell_of (i := 1) hbx rfl
  have a2 := cell_of (i := 2) hbx rfl
  have a3 := cell_of (i := 3) hbx rfl
  have a4 := cell_of (i := 4) hbx rfl
  clear f1 hbx
  go_wp2_with fail
  refine (tnew_any _ conf1).mono ?_
  rintro e w2 ⟨p, rfl, hp, ht, f2⟩
  have hin := twin_new F1.size (show MemAt 78 w1 pm qm M1 0 from hm) (by omega) (by omega) hp ht f2
  have HIN := Lib.hid hin; have F2 := Lib.hid (F1.trans f2)
  clear hm ht f2 hin F1 hp hpm hqm a0 a1 a2 a3 a4
  go_wp2_with fail
  go_loopw [4] (fun i wr => ∃ k : Nat, k ≤ 5 ∧ i = .int .i64 (k : Int) ∧ ∃ vR vL, TwIn w.heap.size wr p pm qm conf1 (alone 3 [0, 0, 0] k) M1 k vR vL ∧ Fr [] w wr) (fun i _ => 5 - (intOf i).toNat)
  case atStart => exact ⟨0, by omega, rfl, _, _, by rw [alone_zero (by omega)]; exact HIN.out, F2.out⟩
  case round =>
    obtain ⟨k, hk, rfl, vR, vL, hin, f⟩ := hrel
    have hS := tstep_any _ wr p pm qm conf1 vR vL _ M1 k conf1_small hin (by omega) (by omega) (alone_n _ _ _).1 (by have := (alone_n 3 [0, 0, 0] k).2; omega) hml (by have := alone_r 3 [0, 0, 0] k rfl (by omega); show _ < (3 : Int); omega)
    have hd : (alone 3 [0, 0, 0] k).d = false := by rw [alone_d _ _ _ (by omega)]; exact decide_eq_false (by omega)
    have e1 : loadV M1 (conf1.slot ((alone 3 [0, 0, 0] k).r.length : Int)) = [0, 0, 0].getD (alone 3 [0, 0, 0] k).r.length 0 := by
      rw [← slotsX_at conf1 M1 (by have := alone_r 3 [0, 0, 0] k rfl (by omega); show _ < 3; omega), slots1]
    rw [hd, if_neg (by simp), e1, show conf1.sl.toNat = 3 from rfl, alone_step 3 [0, 0, 0] k rfl (by omega)] at hS
    have HS := Lib.hid hS; have HFR := Lib.hid f
    have hd2 : (alone 3 [0, 0, 0] (k + 1)).d = decide (k = 5) := by rw [alone_d _ _ _ (by omega)]; congr 1; simp only [eq_iff_iff]; omega
    clear hS hin f hd e1
    have h9 : (k : Int) < 9 := by omega
    go_wp2_with fail
    refine HS.out.mono ?_
    rintro e w3 ⟨vR', vL', rfl, h', -, fB, -⟩
    rw [hd2]
    have HF3 := Lib.hid (fB.base HFR.out (Nat.le_refl _))
    have HIN3 := Lib.hid h'
    clear h' fB
    by_cases h5 : k = 5
    · subst h5
      rw [decide_eq_true rfl]
      have HT := Lib.hid (touched_any w3 pm qm M1 6 HIN3.out.m)
      have HE := Lib.hid (show TwIn w.heap.size w3 p pm qm conf1 ⟨[], [0, 0, 0], 2, true⟩ M1 6 vR' vL' from HIN3.out)
      clear HIN3
      go_wp2_with fail
      refine HT.out.mono ?_
      rintro e w4 ⟨rfl, rfl⟩
      go_wp2_with fail
      refine (trounds_any w3 p conf1 vR' vL' [] [0, 0, 0] 2 true HE.out.tw).mono ?_
      rintro e w5 ⟨rfl, rfl⟩
      go_wp2_with fail
      refine (twords_any w5 p conf1 vR' vL' [] [0, 0, 0] 2 true HE.out.tw (fun _ => by simp) (by simp)).mono ?_
      rintro e w6 ⟨v6, rfl, hv6, hn6, f6⟩
      rw [if_pos rfl] at hv6
      obtain ⟨g6, c6, rfl, hI6, -⟩ := hv6.ints
      have HI6 := Lib.hid hI6
      have HF6 := Lib.hid (HF3.out.trans f6)
      have hlit := IntsAt.lit w6 3 [0, 0, 0] (by decide)
      have HLIT := Lib.hid hlit
      clear hv6 hn6 f6 hI6 hlit
      go_wp2_with fail
      refine (ints_any _ g6 _ c6 _ [0, 0, 0] [0, 0, 0] (HI6.out.fr ((Fr.refl [] w6).alloc _) (by simp)) HLIT.out).mono ?_
      rintro e w7 ⟨rfl, f7⟩
      rw [decide_eq_true rfl]
      have HF7 := Lib.hid ((HF6.out.alloc _).trans f7)
      go_wp2
      go_ret
      exact ⟨rfl, HF7.out⟩
    · rw [decide_eq_false h5]
      go_wp2
      go_roundw
      case rel => exact ⟨k + 1, by omega, by go_num, vR', vL', HIN3.out, HF3.out⟩
      case measure => simp [intOf]; omega

end Go.Proofs.Ytnjoefanafjniaa

/- What others store ahead of a step (the law's writes). -/
import Derived.Test.YtnjoefanafjniaaTwLate
import Derived.Deep.RegionHeld3
namespace Go.Proofs.Ytnjoefanafjniaa
open Go.RowKit

/-- Behind the stores of others. -/
def WrPost (w : World) (pm qm : Nat) (M : List Int) (t most : Int) (w' : World) : Prop := ∃ t', t ≤ t' ∧ t' ≤ most ∧ MemAt 78 w' pm qm M t' ∧ Fr [pm, qm] w w'
set_option maxHeartbeats 8000000 in
theorem writes_any (w : World) (pm qm : Nat) (M : List Int) (t : Int) (g : Option Addr) (cap : Nat) (l : List WrV) (i : Int) (hM : MemAt 78 w pm qm M t) (ht0 : 0 ≤ t) (ht1 : t ≤ 1000000) (hl : WrsAt w g l) (hl20 : l.length ≤ 20) (hm : 1 ≤ M.length ∧ M.length ≤ 100)
    (hg : ∀ a, g = some a → l.length ≠ 0 → a.block ≠ pm ∧ a.block ≠ qm) (hi : 0 ≤ i ∧ i ≤ 1000) :
    Calls Try.prog 12 #[.pointer (some ⟨pm, 0, none⟩), .slice g l.length cap, .int .i64 i] w fun e w' => e = .returned (.tuple #[]) ∧ WrPost w pm qm (wrL i l M) t (t + l.length) w' := by
  obtain ⟨len, hlen⟩ : ∃ n, n = l.length := ⟨_, rfl⟩
  rw [← hlen] at hl20 ⊢
  have HLEN := Lib.hid hlen; have HL := Lib.hid hl; have HG := Lib.hid hg
  have hM0 := Lib.hid hM
  clear hlen hl hM hg
  go_enter Try.func12, Try.ntmps12
  go_wp2_with fail
  go_loopw [6] (fun v wr => ∃ k : Nat, ∃ t' : Int, k ≤ len ∧ v = .int .i64 (k : Int) ∧ t ≤ t' ∧ t' ≤ t + k ∧ MemAt 78 wr pm qm (wrL i (l.take k) M) t' ∧ Fr [pm, qm] w wr) (fun v _ => len - (intOf v).toNat)
  case atStart => exact ⟨0, t, Nat.zero_le _, rfl, by omega, by omega, hM0.out, Fr.refl _ _⟩
  case round =>
    obtain ⟨k, t', hk, rfl, ht2, ht3, hmk, fk⟩ := hrel
    have HMK := Lib.hid hmk; have HFK := Lib.hid fk
    clear hmk fk
    by_cases hlt : k < len
    · obtain ⟨x, hx⟩ : ∃ x, l[k]? = some x := ⟨_, List.getElem?_eq_getElem (by rw [← HLEN.out]; exact hlt)⟩
      obtain ⟨hwh, hpl, b, o, rfl, c0, c1, c2⟩ := HL.out.2 k x hx
      have hgb := HG.out _ rfl (by rw [← HLEN.out]; omega)
      have hn : b ∉ [pm, qm] := by simp; exact hgb
      have d0 := HFK.out.cell c0 hn; have d1 := HFK.out.cell c1 hn; have d2 := HFK.out.cell c2 hn
      have HX := Lib.hid (wrL_take (i := i) (M := M) hx)
      clear hx c0 c1 c2
      obtain ⟨wh, pl, v⟩ := x
      simp only at hwh hpl d0 d1 d2
      by_cases he : wh = i
      · subst he
        have hlM : (wrL wh (l.take k) M).length = M.length := length_wrL _ _ _
        obtain ⟨nM, hnM⟩ : ∃ nM, nM = M.length := ⟨_, rfl⟩
        have hmany := many_any wr.drew pm qm _ t' HMK.out.drew
        rw [hlM, ← hnM] at hmany
        have HMANY := Lib.hid hmany
        have hnM0 : ¬ (nM : Int) = 0 := by omega
        have hnM2 : ¬ nM = 0 := by omega
        have hnM1 : 1 ≤ nM ∧ nM ≤ 100 := by omega
        have hpl2 : (IntKind.i64.wrap pl).tmod (nM : Int) = ((pl.toNat % nM : Nat) : Int) := by
          obtain ⟨pn, rfl⟩ : ∃ pn : Nat, pl = (pn : Int) := ⟨pl.toNat, by omega⟩
          rw [show IntKind.i64.wrap (pn : Int) = (pn : Int) by rw [IntKind.wrap_i64]; omega]
          rfl
        have hlt2 : pl.toNat % nM < nM := Nat.mod_lt _ (by omega)
        have hst := store_any wr.drew pm qm _ t' ((IntKind.i64.wrap pl).tmod (nM : Int)) v HMK.out.drew (by omega) (by omega)
        have hin : isIn (wrL wh (l.take k) M) ((IntKind.i64.wrap pl).tmod (nM : Int)) = true := isIn_yes (by omega) (by omega)
        have e1 : storeL (wrL wh (l.take k) M) ((IntKind.i64.wrap pl).tmod (nM : Int)) v = wrL wh (l.take (k + 1)) M := by
          rw [HX.out]
          unfold storeL wrOne
          rw [if_pos hin, if_pos rfl, hpl2, Int.toNat_natCast, hlM, ← hnM]
        have e2 : tch (wrL wh (l.take k) M) ((IntKind.i64.wrap pl).tmod (nM : Int)) = 1 := by unfold tch; rw [if_pos hin]
        rw [e1, e2] at hst
        have HST := Lib.hid hst
        clear hst e1 e2 hin
        have HPL := Lib.hid hpl2; have HLM := Lib.hid hlM; have HNM := Lib.hid hnM
        clear hpl2 hlM hmany hnM hm
        go_wp2_with fail
        refine wp_region_held_drew (S := fun w' => w'.cell? ⟨b, o + k * 3 + 1, none⟩ = some (.int .u8 pl) ∧ w'.cell? ⟨b, o + k * 3 + 2, none⟩ = some (.int .i64 v)) (by kernel_rfl) ⟨d1, d2⟩ (fun hHeld => ?_)
        refine wpAnyH_take (i := 0) (oi := _) (v := ?_) rfl (by kernel_rfl) (by kernel_rfl) (by kernel_rfl) (fun _ _ _ h => h) (Or.inl ⟨by rfl, ?_⟩) (by assumption) ?_
        rotate_left
        · intro w hSw
          try dsimp only at hSw
          try simp only [List.getElem_toArray, List.getElem_cons_zero]
          go_split_ands
          go_simp
          try with_reducible rfl
        try simp only [Act.put, List.getElem_toArray, List.getElem_cons_zero, List.setIfInBounds_toArray, List.set_cons_zero, List.set_cons_succ]
        refine wpAnyH_take (i := 1) (oi := _) (v := ?_) rfl (by kernel_rfl) (by kernel_rfl) (by kernel_rfl) (fun _ _ _ h => h) (Or.inl ⟨by rfl, ?_⟩) (by assumption) ?_
        rotate_left
        · intro w hSw
          try dsimp only at hSw
          try simp only [List.getElem_toArray, List.getElem_cons_succ, List.getElem_cons_zero]
          go_split_ands
          go_simp
          try with_reducible rfl
        try simp only [Act.put, List.getElem_toArray, List.getElem_cons_succ, List.getElem_cons_zero, List.setIfInBounds_toArray, List.set_cons_zero, List.set_cons_succ]
        refine wpAnyH_take (i := 2) (oi := _) (v := ?_) rfl (by kernel_rfl) (by kernel_rfl) (by kernel_rfl) (fun _ _ _ h => h) (Or.inl ⟨by rfl, ?_⟩) (by assumption) ?_
        rotate_left
        · intro w hSw
          try dsimp only at hSw
          try simp only [List.getElem_toArray, List.getElem_cons_succ, List.getElem_cons_zero]
          go_split_ands
          go_simp
          try with_reducible rfl
        try simp only [Act.put, List.getElem_toArray, List.getElem_cons_succ, List.getElem_cons_zero, List.setIfInBounds_toArray, List.set_cons_zero, List.set_cons_succ]
        refine wpAnyH_take (i := 3) (oi := _) (v := ?_) rfl (by kernel_rfl) (by kernel_rfl) (by kernel_rfl) (fun _ _ _ h => h) (Or.inl ⟨by rfl, ?_⟩) (by assumption) ?_
        rotate_left
        · intro w hSw
          try dsimp only at hSw
          try simp only [List.getElem_toArray, List.getElem_cons_succ, List.getElem_cons_zero]
          go_split_ands
          go_simp
          try with_reducible rfl
        try simp only [Act.put, List.getElem_toArray, List.getElem_cons_succ, List.getElem_cons_zero, List.setIfInBounds_toArray, List.set_cons_zero, List.set_cons_succ]
        refine wpAnyH_take (i := 4) (oi := _) (v := ?_) rfl (by kernel_rfl) (by kernel_rfl) (by kernel_rfl) (fun _ _ _ h => h) (Or.inl ⟨by rfl, ?_⟩) (by assumption) ?_
        rotate_left
        · intro w hSw
          try dsimp only at hSw
          try simp only [List.getElem_toArray, List.getElem_cons_succ, List.getElem_cons_zero]
          go_split_ands
          go_simp
          try with_reducible rfl
        try simp only [Act.put, List.getElem_toArray, List.getElem_cons_succ, List.getElem_cons_zero, List.setIfInBounds_toArray, List.set_cons_zero, List.set_cons_succ]
        refine wpAnyH_take (i := 5) (oi := _) (v := ?_) rfl (by kernel_rfl) (by kernel_rfl) (by kernel_rfl) (fun _ _ _ h => h) (Or.inl ⟨by rfl, ?_⟩) (by assumption) ?_
        rotate_left
        · intro w hSw
          try dsimp only at hSw
          try simp only [List.getElem_toArray, List.getElem_cons_succ, List.getElem_cons_zero]
          go_split_ands
          go_simp
          try with_reducible rfl
        try simp only [Act.put, List.getElem_toArray, List.getElem_cons_succ, List.getElem_cons_zero, List.setIfInBounds_toArray, List.set_cons_zero, List.set_cons_succ]
        refine wpAnyH_take (i := 6) (oi := _) (v := ?_) rfl (by kernel_rfl) (by kernel_rfl) (by kernel_rfl) (fun _ _ _ h => h) (Or.inl ⟨by rfl, ?_⟩) (by assumption) ?_
        rotate_left
        · intro w hSw
          try dsimp only at hSw
          try simp only [List.getElem_toArray, List.getElem_cons_succ, List.getElem_cons_zero]
          go_split_ands
          go_simp
          try with_reducible rfl
        try simp only [Act.put, List.getElem_toArray, List.getElem_cons_succ, List.getElem_cons_zero, List.setIfInBounds_toArray, List.set_cons_zero, List.set_cons_succ]
        refine wpAnyH_take (i := 7) (oi := _) (v := ?_) rfl (by kernel_rfl) (by kernel_rfl) (by kernel_rfl) (fun _ _ _ h => h) (Or.inl ⟨by rfl, ?_⟩) (by assumption) ?_
        rotate_left
        · intro w hSw
          try dsimp only at hSw
          try simp only [List.getElem_toArray, List.getElem_cons_succ, List.getElem_cons_zero]
          go_split_ands
          go_simp
          try with_reducible rfl
        try simp only [Act.put, List.getElem_toArray, List.getElem_cons_succ, List.getElem_cons_zero, List.setIfInBounds_toArray, List.set_cons_zero, List.set_cons_succ]
        refine wpAnyH_take (i := 10) (oi := _) (v := ?_) rfl (by kernel_rfl) (by kernel_rfl) (by kernel_rfl) (fun _ _ _ h => h) (Or.inl ⟨by rfl, ?_⟩) (by assumption) ?_
        rotate_left
        · intro w hSw
          try dsimp only at hSw
          try simp only [List.getElem_toArray, List.getElem_cons_succ, List.getElem_cons_zero]
          go_split_ands
          go_simp
          try with_reducible rfl
        try simp only [Act.put, List.getElem_toArray, List.getElem_cons_succ, List.getElem_cons_zero, List.setIfInBounds_toArray, List.set_cons_zero, List.set_cons_succ]
        refine wpAnyH_take (i := 11) (oi := _) (v := ?_) rfl (by kernel_rfl) (by kernel_rfl) (by kernel_rfl) (fun _ _ _ h => h) (Or.inl ⟨by rfl, ?_⟩) (by assumption) ?_
        rotate_left
        · intro w hSw
          try dsimp only at hSw
          try simp only [List.getElem_toArray, List.getElem_cons_succ, List.getElem_cons_zero]
          go_split_ands
          go_simp
          try with_reducible rfl
        try simp only [Act.put, List.getElem_toArray, List.getElem_cons_succ, List.getElem_cons_zero, List.setIfInBounds_toArray, List.set_cons_zero, List.set_cons_succ]
        refine wpAnyH_take (i := 12) (oi := _) (v := ?_) rfl (by kernel_rfl) (by kernel_rfl) (by kernel_rfl) (fun _ _ _ h => h) (Or.inl ⟨by rfl, ?_⟩) (by assumption) ?_
        rotate_left
        · intro w hSw
          try dsimp only at hSw
          try simp only [List.getElem_toArray, List.getElem_cons_succ, List.getElem_cons_zero]
          go_split_ands
          go_simp
          try with_reducible rfl
        try simp only [Act.put, List.getElem_toArray, List.getElem_cons_succ, List.getElem_cons_zero, List.setIfInBounds_toArray, List.set_cons_zero, List.set_cons_succ]
        refine wpAnyH_take (i := 13) (oi := _) (v := ?_) rfl (by kernel_rfl) (by kernel_rfl) (by kernel_rfl) (fun _ _ _ h => h) (Or.inl ⟨by rfl, ?_⟩) (by assumption) ?_
        rotate_left
        · intro w hSw
          try dsimp only at hSw
          try simp only [List.getElem_toArray, List.getElem_cons_succ, List.getElem_cons_zero]
          go_split_ands
          go_simp
          try with_reducible rfl
        try simp only [Act.put, List.getElem_toArray, List.getElem_cons_succ, List.getElem_cons_zero, List.setIfInBounds_toArray, List.set_cons_zero, List.set_cons_succ]
        refine wpAnyH_take (i := 14) (oi := _) (v := ?_) rfl (by kernel_rfl) (by kernel_rfl) (by kernel_rfl) (fun _ _ _ h => h) (Or.inl ⟨by rfl, ?_⟩) (by assumption) ?_
        rotate_left
        · intro w hSw
          try dsimp only at hSw
          try simp only [List.getElem_toArray, List.getElem_cons_succ, List.getElem_cons_zero]
          go_split_ands
          go_simp
          try with_reducible rfl
        try simp only [Act.put, List.getElem_toArray, List.getElem_cons_succ, List.getElem_cons_zero, List.setIfInBounds_toArray, List.set_cons_zero, List.set_cons_succ]
        refine wpAnyH_ready (rs := [8]) (by kernel_rfl) (by simp) ?_
        refine AllReadyH.cons (o := _) rfl (fun K hK => ?_) AllReadyH.nil
        simp only [List.getElem_toArray, List.getElem_cons_succ, List.getElem_cons_zero]
        go_simp
        refine (HMANY.out).mono ?_
        rintro en w5 ⟨rfl, rfl⟩
        go_wp2_with fail
        refine hK.out _ _ ⟨d1, d2⟩ (fun hHeld => ?_)
        clear hK K
        try simp only [Act.put, List.getElem_toArray, List.getElem_cons_succ, List.getElem_cons_zero, List.setIfInBounds_toArray, List.set_cons_zero, List.set_cons_succ]
        refine wpAnyH_take (i := 9) (oi := _) (v := ?_) rfl (by kernel_rfl) (by kernel_rfl) (by kernel_rfl) (fun _ _ _ h => h) (Or.inl ⟨by rfl, ?_⟩) (by assumption) ?_
        rotate_left
        · intro w hSw
          try dsimp only at hSw
          try simp only [List.getElem_toArray, List.getElem_cons_succ, List.getElem_cons_zero]
          go_split_ands
          go_simp
          try with_reducible rfl
        try simp only [Act.put, List.getElem_toArray, List.getElem_cons_succ, List.getElem_cons_zero, List.setIfInBounds_toArray, List.set_cons_zero, List.set_cons_succ]
        refine wpAnyH_ready (rs := [15]) (by kernel_rfl) (by simp) ?_
        refine AllReadyH.cons (o := _) rfl (fun K hK => ?_) AllReadyH.nil
        simp only [List.getElem_toArray, List.getElem_cons_succ, List.getElem_cons_zero]
        go_simp
        refine (HST.out).mono ?_
        rintro en w6 ⟨rfl, h6⟩
        go_wp2_with fail
        refine hK.out _ _ ⟨h6.2.cell d1 hn, h6.2.cell d2 hn⟩ (fun hHeld => ?_)
        clear hK K
        try simp only [Act.put, List.getElem_toArray, List.getElem_cons_succ, List.getElem_cons_zero, List.setIfInBounds_toArray, List.set_cons_zero, List.set_cons_succ]
        refine wpAnyH_done (by kernel_rfl) ?_ _
        have HM6 := Lib.hid h6.1; have HF6 := Lib.hid (HFK.out.drew.trans h6.2)
        clear h6
        go_wp2
        go_roundw
        case rel => exact ⟨k + 1, t' + 1, by omega, by go_num, by omega, by omega, HM6.out, HF6.out⟩
        case measure => simp [intOf]; omega
      · have e : wrOne i (wrL i (l.take k) M) ⟨wh, pl, v⟩ = wrL i (l.take k) M := by unfold wrOne; rw [if_neg he]
        have HMK2 := Lib.hid (show MemAt 78 wr pm qm (wrL i (l.take (k + 1)) M) t' by rw [HX.out, e]; exact HMK.out)
        clear e
        go_wp2
        go_roundw
        case rel => exact ⟨k + 1, t', by omega, by go_num, by omega, by omega, HMK2.out, HFK.out⟩
        case measure => simp [intOf]; omega
    · have hkl : k = l.length := by have := HLEN.out; omega
      have hP := HMK.out
      rw [hkl, List.take_length] at hP
      have HP := Lib.hid (show WrPost w pm qm (wrL i l M) t (t + len) wr from ⟨t', ht2, by omega, hP, HFK.out⟩)
      clear hkl hP
      go_wp2
      refine bodyPost_end (results_none rfl _ _ _) rfl ?_
      exact ⟨rfl, HP.out⟩

end Go.Proofs.Ytnjoefanafjniaa

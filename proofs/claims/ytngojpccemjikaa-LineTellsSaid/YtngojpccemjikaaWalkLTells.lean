/- The walk of LineTells. -/
import Derived.Test.YtngojpccemjikaaLineL
namespace Go.Proofs.Ytngojpccemjikaa
open Go.RowKit Go.Shelf

theorem length_snoc (L : List Int) (x : Int) : (L ++ [x]).length = L.length + 1 := by simp

set_option maxHeartbeats 4000000 in
set_option maxRecDepth 100000 in
theorem tells_walk (w : World) (q who : Int) (h1 : -9223372036854775808 ≤ q) (h2 : q ≤ 9223372036854775807) :
    Calls Try.prog 5 #[.int .i64 q, .int .i64 who] w fun e w' => e = .returned (.bool true) ∧ Fr [] w w' := by
  obtain ⟨i0, hi, hz0, hz1, hz2⟩ := info_parts round_info_int
  go_enter Try.func5, Try.ntmps5
  go_wp2_with fail
  refine (awake_any _).mono ?_
  rintro e w1 ⟨rfl, F1⟩
  go_wp2_with fail
  refine (ref_right_any _ q h1 h2).mono ?_
  rintro e w2 ⟨r, rfl, hr, f2⟩
  have F2 := F1.trans f2; clear F1 f2
  have HR := Lib.hid hr; clear hr
  go_wp2_with fail
  refine (right_L _ q h2).mono ?_
  rintro e w3 ⟨r2, rfl, hr2, f3⟩
  have F3 := F2.trans f3; clear F2 f3
  obtain rfl : r2 = r := by rw [Bool.eq_iff_iff]; exact hr2.trans HR.out.symm
  clear HR
  cases r2
  · clear hr2
    go_wp2
    go_ret
    exact ⟨rfl, F3⟩
  · obtain ⟨L, hL, rfl⟩ := hr2.1 rfl
    clear hr2 h1 h2
    have HL := Lib.hid hL
    have hl15 := hL.length
    clear hL
    go_wp2_with fail
    refine (ref_list_any _ ((wd L : Nat) : Int) (by have := wd_lt HL.out; omega)).mono ?_
    rw [refLi_wd HL.out]
    rintro e w4 ⟨g, c, rfl, hx, f4, hc⟩
    have F4 := F3.trans f4; clear F3 f4
    have HX := Lib.hid hx; clear hx
    obtain ⟨len, hlen⟩ : ∃ len, len = L.length := ⟨_, rfl⟩
    rw [← hlen] at hl15 hc ⊢
    have HLEN := Lib.hid hlen; clear hlen
    go_wp2_with fail
    refine (head_L _ L HL.out).mono ?_
    rintro e w5 ⟨rfl, f5⟩
    have F5 := F4.trans f5
    have HX5 := Lib.hid (HX.out.fr f5 (by simp)); clear HX F4 f5
    obtain ⟨hd, ok, hv, hok⟩ : ∃ (hd : Int) (ok : Bool), headV L = .tuple #[.int .i64 hd, .bool ok] ∧ ((L = [] ∧ ok = false ∧ hd = 0) ∨ (ok = true ∧ ∃ t, L = hd :: t)) := by
      cases L with
      | nil => exact ⟨0, false, rfl, .inl ⟨rfl, rfl, rfl⟩⟩
      | cons a t => exact ⟨a, true, by simp [headV, headI], .inr ⟨rfl, t, rfl⟩⟩
    rw [hv]
    have HOK := Lib.hid hok; clear hok hv
    go_wp2_with fail
    refine (push_L _ L who HL.out).mono ?_
    rintro e w6 ⟨rfl, f6⟩
    have F6 := F5.trans f6
    have HX6 := Lib.hid (HX5.out.fr f6 (by simp)); clear HX5 F5 f6
    go_wp2_with (first
      | (at_builtin; refine wpList_append_all rfl _ _ 22 rfl i0 Try.underlying22 hi hz0 hz1 hz2 w6.heap.size w6.heap.size rfl (heap_alloc_new w6 _) (Nat.le_refl _) g c len L HLEN.out rfl (HX6.out.fr ((Fr.refl [] w6).alloc (.cells #[] 3)) (by simp)) (by have := HLEN.out; omega) (by simp) w6 (Nat.le_refl _) ((Fr.refl [] w6).alloc (.cells #[] 3)) ?_)
      | fail)
    intro v7 w7 hv7 f7
    have HV7 := Lib.hid hv7
    clear hv7
    have hs7 := f7.size
    go_wp2_with (first
      | (at_builtin; refine wpList_append_lst rfl _ _ 22 rfl i0 Try.underlying22 hi hz0 hz1 hz2 w6.heap.size _ L rfl (HV7.out.fr ((Fr.refl [] w7).alloc (.cells #[.int .i64 who] 3))) ⟨w7.heap.size, 0, none⟩ 1 who rfl (cell_one_new _ _ _) (by have := HLEN.out; omega) (by simp; omega) w6 (Nat.le_refl _) (f7.alloc (.cells #[.int .i64 who] 3)) ?_)
      | fail)
    intro v8 w8 hv8 f8
    have HX8 := Lib.hid (HX6.out.fr f8 (by simp))
    have F8 := F6.trans f8
    obtain ⟨g8, c8, rfl, hI8, -⟩ := hv8.ints
    have HI8 := Lib.hid hI8
    clear hv8 hI8 f7 f8 F6 HX6 HV7 hs7
    obtain ⟨n8, hn8⟩ : ∃ n8, n8 = (L ++ [who]).length := ⟨_, rfl⟩
    have hn88 : n8 ≤ 16 := by rw [hn8, List.length_append, List.length_singleton]; have := HLEN.out; omega
    rw [← hn8]
    have HN8 := Lib.hid hn8; clear hn8
    go_wp2_with fail
    rw [HN8.out]
    refine (ref_of_any _ _ _ (L ++ [who]) HI8.out).mono ?_
    rintro e w9 ⟨rfl, f9⟩
    rw [← HN8.out]
    have F9 := F8.trans f9
    have HX9 := Lib.hid (HX8.out.fr f9 (by simp))
    clear F8 f9 HX8 HI8
    obtain ⟨Y, ok3, hpush, hofv⟩ : ∃ (Y : Int) (ok3 : Bool), (((wd (pushL L who) : Nat) : Int) = Y ∧ decide (Ln (L ++ [who])) = ok3) ∧ ((ok3 = true ∧ ofV (L ++ [who]) = .tuple #[.int .i64 Y, .bool true]) ∨ (ok3 = false ∧ Y = ((wd L : Nat) : Int) ∧ ofV (L ++ [who]) = .tuple #[.int .i64 0, .bool false])) := by
      by_cases hp : Ln (L ++ [who])
      · exact ⟨_, true, ⟨rfl, decide_eq_true hp⟩, .inl ⟨rfl, by rw [ofV_yes hp]; unfold pushL; rw [if_pos hp]⟩⟩
      · exact ⟨_, false, ⟨rfl, decide_eq_false hp⟩, .inr ⟨rfl, by unfold pushL; rw [if_neg hp], ofV_no hp⟩⟩
    rw [hpush.1, hpush.2]
    clear hpush
    rcases hofv with ⟨rfl, hofv⟩ | ⟨rfl, rfl, hofv⟩
    · rw [hofv]
      clear hofv
      go_wp2_with fail
      refine (drop_L _ L who HL.out).mono ?_
      rintro e w10 ⟨rfl, f10⟩
      have F10 := F9.trans f10
      have HX10 := Lib.hid (HX9.out.fr f10 (by simp)); clear F9 f10 HX9
      go_wp2_with fail
      rw [HLEN.out]
      refine (ref_has_any _ _ _ L who HX10.out).mono ?_
      rintro e w11 ⟨rfl, f11⟩
      rw [← HLEN.out]
      have F11 := F10.trans f11
      have HX11 := Lib.hid (HX10.out.fr f11 (by simp)); clear F10 f11 HX10
      obtain ⟨bb, hbb⟩ : ∃ bb, decide (who ∈ L) = bb := ⟨_, rfl⟩
      have HBB := Lib.hid hbb
      rw [hbb]
      clear hbb
      rcases HOK.out with ⟨hLe, rfl, rfl⟩ | ⟨rfl, t, hLe⟩
      · have hl0 : len = 0 := by rw [HLEN.out, hLe]; rfl
        have hTL : 0 = L.tail.length := by rw [hLe]; rfl
        have HR11 := Lib.hid (show IntsAt w11 g L.tail by rw [hLe]; exact IntsAt.empty _ _)
        have HTL := Lib.hid hTL
        subst hl0
        clear hLe hTL
        go_wp2_with fail
        refine (len_L _ L HL.out).mono ?_
        rintro e w12 ⟨rfl, f12⟩
        rw [← HLEN.out]
        have F12 := F11.trans f12
        have HX12 := Lib.hid (HX11.out.fr f12 (by simp)); have HR12 := Lib.hid (HR11.out.fr f12 (by simp)); clear F11 f12 HX11 HR11
        go_wp2_with fail
        refine (list_L _ L HL.out).mono ?_
        rintro e w13 ⟨g13, c13, rfl, hx13, f13, -⟩
        rw [← HLEN.out]
        have HY13 := Lib.hid hx13
        have F13 := F12.trans f13
        have HX13 := Lib.hid (HX12.out.fr f13 (by simp)); have HR13 := Lib.hid (HR12.out.fr f13 (by simp)); clear F12 f13 HX12 HR12 hx13
        go_wp2_with fail
        have q14 := fun c' c'' : Nat => ints_same _ _ _ c' c'' L HY13.out HX13.out
        rw [← HLEN.out] at q14
        refine (q14 _ _).mono ?_
        clear q14
        rintro e w14 ⟨rfl, n14, rfl⟩
        have F14 := F13.drewN n14
        have HX14 := Lib.hid (HX13.out.fr ((Fr.refl [] w13).drewN n14) (by simp)); have HR14 := Lib.hid (HR13.out.fr ((Fr.refl [] w13).drewN n14) (by simp)); clear F13 HX13 HR13 HY13
        go_wp2_with fail
        refine (has_L _ L who HL.out).mono ?_
        rintro e w15 ⟨rfl, f15⟩
        rw [HBB.out]
        have F15 := F14.trans f15
        have HX15 := Lib.hid (HX14.out.fr f15 (by simp)); have HR15 := Lib.hid (HR14.out.fr f15 (by simp)); clear F14 f15 HX14 HR14
        go_wp2_with fail
        refine (pop_L _ L HL.out).mono ?_
        rintro e w16 ⟨rfl, f16⟩
        have F16 := F15.trans f16
        have HX16 := Lib.hid (HX15.out.fr f16 (by simp)); have HR16 := Lib.hid (HR15.out.fr f16 (by simp)); clear F15 f16 HX15 HR15
        go_wp2_with fail
        have q17 := fun c' : Nat => ref_word_any _ _ c' L.tail HL.out.tail HR16.out
        rw [← HTL.out] at q17
        refine (q17 _).mono ?_
        clear q17
        rintro e w17 ⟨rfl, f17⟩
        have F17 := F16.trans f17
        have HX17 := Lib.hid (HX16.out.fr f17 (by simp)); clear F16 f17 HX16 HR16
        go_wp2_with fail
        have q18 := fun c' : Nat => ref_drop_any _ _ c' L who (by have := HL.out.length; omega) HX17.out
        rw [← HLEN.out] at q18
        refine (q18 _).mono ?_
        clear q18
        rintro e w18 ⟨g18, c18, rfl, hx18, f18, -⟩
        have F18 := F17.trans f18
        have HX18 := Lib.hid hx18; clear F17 f18 HX17 hx18
        go_wp2_with fail
        refine (ref_word_any _ _ _ (rm L who) (HL.out.rm who) HX18.out).mono ?_
        rintro e w19 ⟨rfl, f19⟩
        have F19 := F18.trans f19; clear F18 f19 HX18
        go_wp2
        go_ret
        exact ⟨by cases bb <;> rfl, F19⟩
      · have HLe := Lib.hid hLe
        obtain ⟨b5, o5, rfl, hc5⟩ := HX11.out.base (by rw [hLe]; simp)
        have ga : w11.cell? ⟨b5, o5, none⟩ = some (.int .i64 hd) := hc5 0 hd (by rw [hLe]; rfl)
        have hpos : (0 : Int) < (len : Int) := by rw [HLEN.out, hLe]; simp
        have HTL := Lib.hid (show len - 1 = L.tail.length by rw [HLEN.out, hLe]; rfl)
        rcases (show c = 1 ∨ 2 ≤ c by omega) with rfl | hc2
        · obtain rfl : len = 1 := by omega
          have HR11 := Lib.hid (show IntsAt w11 (some ⟨b5, o5, none⟩) L.tail by rw [List.eq_nil_of_length_eq_zero HTL.out.symm]; exact IntsAt.empty _ _)
          clear hc5 hLe
          go_wp2_with fail
          refine (len_L _ L HL.out).mono ?_
          rintro e w12 ⟨rfl, f12⟩
          rw [← HLEN.out]
          have F12 := F11.trans f12
          have HX12 := Lib.hid (HX11.out.fr f12 (by simp)); have HR12 := Lib.hid (HR11.out.fr f12 (by simp)); clear F11 f12 HX11 HR11
          go_wp2_with fail
          refine (list_L _ L HL.out).mono ?_
          rintro e w13 ⟨g13, c13, rfl, hx13, f13, -⟩
          rw [← HLEN.out]
          have HY13 := Lib.hid hx13
          have F13 := F12.trans f13
          have HX13 := Lib.hid (HX12.out.fr f13 (by simp)); have HR13 := Lib.hid (HR12.out.fr f13 (by simp)); clear F12 f13 HX12 HR12 hx13
          go_wp2_with fail
          have q14 := fun c' c'' : Nat => ints_same _ _ _ c' c'' L HY13.out HX13.out
          rw [← HLEN.out] at q14
          refine (q14 _ _).mono ?_
          clear q14
          rintro e w14 ⟨rfl, n14, rfl⟩
          have F14 := F13.drewN n14
          have HX14 := Lib.hid (HX13.out.fr ((Fr.refl [] w13).drewN n14) (by simp)); have HR14 := Lib.hid (HR13.out.fr ((Fr.refl [] w13).drewN n14) (by simp)); clear F13 HX13 HR13 HY13
          go_wp2_with fail
          refine (has_L _ L who HL.out).mono ?_
          rintro e w15 ⟨rfl, f15⟩
          rw [HBB.out]
          have F15 := F14.trans f15
          have HX15 := Lib.hid (HX14.out.fr f15 (by simp)); have HR15 := Lib.hid (HR14.out.fr f15 (by simp)); clear F14 f15 HX14 HR14
          go_wp2_with fail
          refine (pop_L _ L HL.out).mono ?_
          rintro e w16 ⟨rfl, f16⟩
          have F16 := F15.trans f16
          have HX16 := Lib.hid (HX15.out.fr f16 (by simp)); have HR16 := Lib.hid (HR15.out.fr f16 (by simp)); clear F15 f16 HX15 HR15
          go_wp2_with fail
          have q17 := fun c' : Nat => ref_word_any _ _ c' L.tail HL.out.tail HR16.out
          rw [← HTL.out] at q17
          refine (q17 _).mono ?_
          clear q17
          rintro e w17 ⟨rfl, f17⟩
          have F17 := F16.trans f17
          have HX17 := Lib.hid (HX16.out.fr f17 (by simp)); clear F16 f17 HX16 HR16
          go_wp2_with fail
          have q18 := fun c' : Nat => ref_drop_any _ _ c' L who (by have := HL.out.length; omega) HX17.out
          rw [← HLEN.out] at q18
          refine (q18 _).mono ?_
          clear q18
          rintro e w18 ⟨g18, c18, rfl, hx18, f18, -⟩
          have F18 := F17.trans f18
          have HX18 := Lib.hid hx18; clear F17 f18 HX17 hx18
          go_wp2_with fail
          refine (ref_word_any _ _ _ (rm L who) (HL.out.rm who) HX18.out).mono ?_
          rintro e w19 ⟨rfl, f19⟩
          have F19 := F18.trans f19; clear F18 f19 HX18
          go_wp2
          go_ret
          exact ⟨by cases bb <;> rfl, F19⟩
        · have hc3 : ¬ c - 1 = 0 := by omega
          have HR11 := Lib.hid (show IntsAt w11 (some ⟨b5, o5 + 1, none⟩) L.tail by
            have h := HX11.out
            rw [hLe] at h ⊢
            exact ⟨by have := h.1; simp at this ⊢; omega, fun j x hx => ⟨b5, o5 + 1, rfl, by have := hc5 (j + 1) x (by rw [hLe]; simpa using hx); rw [show o5 + 1 + j = o5 + (j + 1) by omega]; exact this⟩⟩)
          clear hc5 hLe
          go_wp2_with fail
          refine (len_L _ L HL.out).mono ?_
          rintro e w12 ⟨rfl, f12⟩
          rw [← HLEN.out]
          have F12 := F11.trans f12
          have HX12 := Lib.hid (HX11.out.fr f12 (by simp)); have HR12 := Lib.hid (HR11.out.fr f12 (by simp)); clear F11 f12 HX11 HR11
          go_wp2_with fail
          refine (list_L _ L HL.out).mono ?_
          rintro e w13 ⟨g13, c13, rfl, hx13, f13, -⟩
          rw [← HLEN.out]
          have HY13 := Lib.hid hx13
          have F13 := F12.trans f13
          have HX13 := Lib.hid (HX12.out.fr f13 (by simp)); have HR13 := Lib.hid (HR12.out.fr f13 (by simp)); clear F12 f13 HX12 HR12 hx13
          go_wp2_with fail
          have q14 := fun c' c'' : Nat => ints_same _ _ _ c' c'' L HY13.out HX13.out
          rw [← HLEN.out] at q14
          refine (q14 _ _).mono ?_
          clear q14
          rintro e w14 ⟨rfl, n14, rfl⟩
          have F14 := F13.drewN n14
          have HX14 := Lib.hid (HX13.out.fr ((Fr.refl [] w13).drewN n14) (by simp)); have HR14 := Lib.hid (HR13.out.fr ((Fr.refl [] w13).drewN n14) (by simp)); clear F13 HX13 HR13 HY13
          go_wp2_with fail
          refine (has_L _ L who HL.out).mono ?_
          rintro e w15 ⟨rfl, f15⟩
          rw [HBB.out]
          have F15 := F14.trans f15
          have HX15 := Lib.hid (HX14.out.fr f15 (by simp)); have HR15 := Lib.hid (HR14.out.fr f15 (by simp)); clear F14 f15 HX14 HR14
          go_wp2_with fail
          refine (pop_L _ L HL.out).mono ?_
          rintro e w16 ⟨rfl, f16⟩
          have F16 := F15.trans f16
          have HX16 := Lib.hid (HX15.out.fr f16 (by simp)); have HR16 := Lib.hid (HR15.out.fr f16 (by simp)); clear F15 f16 HX15 HR15
          go_wp2_with fail
          have q17 := fun c' : Nat => ref_word_any _ _ c' L.tail HL.out.tail HR16.out
          rw [← HTL.out] at q17
          refine (q17 _).mono ?_
          clear q17
          rintro e w17 ⟨rfl, f17⟩
          have F17 := F16.trans f17
          have HX17 := Lib.hid (HX16.out.fr f17 (by simp)); clear F16 f17 HX16 HR16
          go_wp2_with fail
          have q18 := fun c' : Nat => ref_drop_any _ _ c' L who (by have := HL.out.length; omega) HX17.out
          rw [← HLEN.out] at q18
          refine (q18 _).mono ?_
          clear q18
          rintro e w18 ⟨g18, c18, rfl, hx18, f18, -⟩
          have F18 := F17.trans f18
          have HX18 := Lib.hid hx18; clear F17 f18 HX17 hx18
          go_wp2_with fail
          refine (ref_word_any _ _ _ (rm L who) (HL.out.rm who) HX18.out).mono ?_
          rintro e w19 ⟨rfl, f19⟩
          have F19 := F18.trans f19; clear F18 f19 HX18
          go_wp2
          go_ret
          exact ⟨by cases bb <;> rfl, F19⟩
    · rw [hofv]
      clear hofv
      go_wp2_with fail
      refine (drop_L _ L who HL.out).mono ?_
      rintro e w10 ⟨rfl, f10⟩
      have F10 := F9.trans f10
      have HX10 := Lib.hid (HX9.out.fr f10 (by simp)); clear F9 f10 HX9
      go_wp2_with fail
      rw [HLEN.out]
      refine (ref_has_any _ _ _ L who HX10.out).mono ?_
      rintro e w11 ⟨rfl, f11⟩
      rw [← HLEN.out]
      have F11 := F10.trans f11
      have HX11 := Lib.hid (HX10.out.fr f11 (by simp)); clear F10 f11 HX10
      obtain ⟨bb, hbb⟩ : ∃ bb, decide (who ∈ L) = bb := ⟨_, rfl⟩
      have HBB := Lib.hid hbb
      rw [hbb]
      clear hbb
      rcases HOK.out with ⟨hLe, rfl, rfl⟩ | ⟨rfl, t, hLe⟩
      · have hl0 : len = 0 := by rw [HLEN.out, hLe]; rfl
        have hTL : 0 = L.tail.length := by rw [hLe]; rfl
        have HR11 := Lib.hid (show IntsAt w11 g L.tail by rw [hLe]; exact IntsAt.empty _ _)
        have HTL := Lib.hid hTL
        subst hl0
        clear hLe hTL
        go_wp2_with fail
        refine (len_L _ L HL.out).mono ?_
        rintro e w12 ⟨rfl, f12⟩
        rw [← HLEN.out]
        have F12 := F11.trans f12
        have HX12 := Lib.hid (HX11.out.fr f12 (by simp)); have HR12 := Lib.hid (HR11.out.fr f12 (by simp)); clear F11 f12 HX11 HR11
        go_wp2_with fail
        refine (list_L _ L HL.out).mono ?_
        rintro e w13 ⟨g13, c13, rfl, hx13, f13, -⟩
        rw [← HLEN.out]
        have HY13 := Lib.hid hx13
        have F13 := F12.trans f13
        have HX13 := Lib.hid (HX12.out.fr f13 (by simp)); have HR13 := Lib.hid (HR12.out.fr f13 (by simp)); clear F12 f13 HX12 HR12 hx13
        go_wp2_with fail
        have q14 := fun c' c'' : Nat => ints_same _ _ _ c' c'' L HY13.out HX13.out
        rw [← HLEN.out] at q14
        refine (q14 _ _).mono ?_
        clear q14
        rintro e w14 ⟨rfl, n14, rfl⟩
        have F14 := F13.drewN n14
        have HX14 := Lib.hid (HX13.out.fr ((Fr.refl [] w13).drewN n14) (by simp)); have HR14 := Lib.hid (HR13.out.fr ((Fr.refl [] w13).drewN n14) (by simp)); clear F13 HX13 HR13 HY13
        go_wp2_with fail
        refine (has_L _ L who HL.out).mono ?_
        rintro e w15 ⟨rfl, f15⟩
        rw [HBB.out]
        have F15 := F14.trans f15
        have HX15 := Lib.hid (HX14.out.fr f15 (by simp)); have HR15 := Lib.hid (HR14.out.fr f15 (by simp)); clear F14 f15 HX14 HR14
        go_wp2_with fail
        refine (pop_L _ L HL.out).mono ?_
        rintro e w16 ⟨rfl, f16⟩
        have F16 := F15.trans f16
        have HX16 := Lib.hid (HX15.out.fr f16 (by simp)); have HR16 := Lib.hid (HR15.out.fr f16 (by simp)); clear F15 f16 HX15 HR15
        go_wp2_with fail
        have q17 := fun c' : Nat => ref_word_any _ _ c' L.tail HL.out.tail HR16.out
        rw [← HTL.out] at q17
        refine (q17 _).mono ?_
        clear q17
        rintro e w17 ⟨rfl, f17⟩
        have F17 := F16.trans f17
        have HX17 := Lib.hid (HX16.out.fr f17 (by simp)); clear F16 f17 HX16 HR16
        go_wp2_with fail
        have q18 := fun c' : Nat => ref_drop_any _ _ c' L who (by have := HL.out.length; omega) HX17.out
        rw [← HLEN.out] at q18
        refine (q18 _).mono ?_
        clear q18
        rintro e w18 ⟨g18, c18, rfl, hx18, f18, -⟩
        have F18 := F17.trans f18
        have HX18 := Lib.hid hx18; clear F17 f18 HX17 hx18
        go_wp2_with fail
        refine (ref_word_any _ _ _ (rm L who) (HL.out.rm who) HX18.out).mono ?_
        rintro e w19 ⟨rfl, f19⟩
        have F19 := F18.trans f19; clear F18 f19 HX18
        go_wp2
        go_ret
        exact ⟨by cases bb <;> rfl, F19⟩
      · have HLe := Lib.hid hLe
        obtain ⟨b5, o5, rfl, hc5⟩ := HX11.out.base (by rw [hLe]; simp)
        have ga : w11.cell? ⟨b5, o5, none⟩ = some (.int .i64 hd) := hc5 0 hd (by rw [hLe]; rfl)
        have hpos : (0 : Int) < (len : Int) := by rw [HLEN.out, hLe]; simp
        have HTL := Lib.hid (show len - 1 = L.tail.length by rw [HLEN.out, hLe]; rfl)
        rcases (show c = 1 ∨ 2 ≤ c by omega) with rfl | hc2
        · obtain rfl : len = 1 := by omega
          have HR11 := Lib.hid (show IntsAt w11 (some ⟨b5, o5, none⟩) L.tail by rw [List.eq_nil_of_length_eq_zero HTL.out.symm]; exact IntsAt.empty _ _)
          clear hc5 hLe
          go_wp2_with fail
          refine (len_L _ L HL.out).mono ?_
          rintro e w12 ⟨rfl, f12⟩
          rw [← HLEN.out]
          have F12 := F11.trans f12
          have HX12 := Lib.hid (HX11.out.fr f12 (by simp)); have HR12 := Lib.hid (HR11.out.fr f12 (by simp)); clear F11 f12 HX11 HR11
          go_wp2_with fail
          refine (list_L _ L HL.out).mono ?_
          rintro e w13 ⟨g13, c13, rfl, hx13, f13, -⟩
          rw [← HLEN.out]
          have HY13 := Lib.hid hx13
          have F13 := F12.trans f13
          have HX13 := Lib.hid (HX12.out.fr f13 (by simp)); have HR13 := Lib.hid (HR12.out.fr f13 (by simp)); clear F12 f13 HX12 HR12 hx13
          go_wp2_with fail
          have q14 := fun c' c'' : Nat => ints_same _ _ _ c' c'' L HY13.out HX13.out
          rw [← HLEN.out] at q14
          refine (q14 _ _).mono ?_
          clear q14
          rintro e w14 ⟨rfl, n14, rfl⟩
          have F14 := F13.drewN n14
          have HX14 := Lib.hid (HX13.out.fr ((Fr.refl [] w13).drewN n14) (by simp)); have HR14 := Lib.hid (HR13.out.fr ((Fr.refl [] w13).drewN n14) (by simp)); clear F13 HX13 HR13 HY13
          go_wp2_with fail
          refine (has_L _ L who HL.out).mono ?_
          rintro e w15 ⟨rfl, f15⟩
          rw [HBB.out]
          have F15 := F14.trans f15
          have HX15 := Lib.hid (HX14.out.fr f15 (by simp)); have HR15 := Lib.hid (HR14.out.fr f15 (by simp)); clear F14 f15 HX14 HR14
          go_wp2_with fail
          refine (pop_L _ L HL.out).mono ?_
          rintro e w16 ⟨rfl, f16⟩
          have F16 := F15.trans f16
          have HX16 := Lib.hid (HX15.out.fr f16 (by simp)); have HR16 := Lib.hid (HR15.out.fr f16 (by simp)); clear F15 f16 HX15 HR15
          go_wp2_with fail
          have q17 := fun c' : Nat => ref_word_any _ _ c' L.tail HL.out.tail HR16.out
          rw [← HTL.out] at q17
          refine (q17 _).mono ?_
          clear q17
          rintro e w17 ⟨rfl, f17⟩
          have F17 := F16.trans f17
          have HX17 := Lib.hid (HX16.out.fr f17 (by simp)); clear F16 f17 HX16 HR16
          go_wp2_with fail
          have q18 := fun c' : Nat => ref_drop_any _ _ c' L who (by have := HL.out.length; omega) HX17.out
          rw [← HLEN.out] at q18
          refine (q18 _).mono ?_
          clear q18
          rintro e w18 ⟨g18, c18, rfl, hx18, f18, -⟩
          have F18 := F17.trans f18
          have HX18 := Lib.hid hx18; clear F17 f18 HX17 hx18
          go_wp2_with fail
          refine (ref_word_any _ _ _ (rm L who) (HL.out.rm who) HX18.out).mono ?_
          rintro e w19 ⟨rfl, f19⟩
          have F19 := F18.trans f19; clear F18 f19 HX18
          go_wp2
          go_ret
          exact ⟨by cases bb <;> rfl, F19⟩
        · have hc3 : ¬ c - 1 = 0 := by omega
          have HR11 := Lib.hid (show IntsAt w11 (some ⟨b5, o5 + 1, none⟩) L.tail by
            have h := HX11.out
            rw [hLe] at h ⊢
            exact ⟨by have := h.1; simp at this ⊢; omega, fun j x hx => ⟨b5, o5 + 1, rfl, by have := hc5 (j + 1) x (by rw [hLe]; simpa using hx); rw [show o5 + 1 + j = o5 + (j + 1) by omega]; exact this⟩⟩)
          clear hc5 hLe
          go_wp2_with fail
          refine (len_L _ L HL.out).mono ?_
          rintro e w12 ⟨rfl, f12⟩
          rw [← HLEN.out]
          have F12 := F11.trans f12
          have HX12 := Lib.hid (HX11.out.fr f12 (by simp)); have HR12 := Lib.hid (HR11.out.fr f12 (by simp)); clear F11 f12 HX11 HR11
          go_wp2_with fail
          refine (list_L _ L HL.out).mono ?_
          rintro e w13 ⟨g13, c13, rfl, hx13, f13, -⟩
          rw [← HLEN.out]
          have HY13 := Lib.hid hx13
          have F13 := F12.trans f13
          have HX13 := Lib.hid (HX12.out.fr f13 (by simp)); have HR13 := Lib.hid (HR12.out.fr f13 (by simp)); clear F12 f13 HX12 HR12 hx13
          go_wp2_with fail
          have q14 := fun c' c'' : Nat => ints_same _ _ _ c' c'' L HY13.out HX13.out
          rw [← HLEN.out] at q14
          refine (q14 _ _).mono ?_
          clear q14
          rintro e w14 ⟨rfl, n14, rfl⟩
          have F14 := F13.drewN n14
          have HX14 := Lib.hid (HX13.out.fr ((Fr.refl [] w13).drewN n14) (by simp)); have HR14 := Lib.hid (HR13.out.fr ((Fr.refl [] w13).drewN n14) (by simp)); clear F13 HX13 HR13 HY13
          go_wp2_with fail
          refine (has_L _ L who HL.out).mono ?_
          rintro e w15 ⟨rfl, f15⟩
          rw [HBB.out]
          have F15 := F14.trans f15
          have HX15 := Lib.hid (HX14.out.fr f15 (by simp)); have HR15 := Lib.hid (HR14.out.fr f15 (by simp)); clear F14 f15 HX14 HR14
          go_wp2_with fail
          refine (pop_L _ L HL.out).mono ?_
          rintro e w16 ⟨rfl, f16⟩
          have F16 := F15.trans f16
          have HX16 := Lib.hid (HX15.out.fr f16 (by simp)); have HR16 := Lib.hid (HR15.out.fr f16 (by simp)); clear F15 f16 HX15 HR15
          go_wp2_with fail
          have q17 := fun c' : Nat => ref_word_any _ _ c' L.tail HL.out.tail HR16.out
          rw [← HTL.out] at q17
          refine (q17 _).mono ?_
          clear q17
          rintro e w17 ⟨rfl, f17⟩
          have F17 := F16.trans f17
          have HX17 := Lib.hid (HX16.out.fr f17 (by simp)); clear F16 f17 HX16 HR16
          go_wp2_with fail
          have q18 := fun c' : Nat => ref_drop_any _ _ c' L who (by have := HL.out.length; omega) HX17.out
          rw [← HLEN.out] at q18
          refine (q18 _).mono ?_
          clear q18
          rintro e w18 ⟨g18, c18, rfl, hx18, f18, -⟩
          have F18 := F17.trans f18
          have HX18 := Lib.hid hx18; clear F17 f18 HX17 hx18
          go_wp2_with fail
          refine (ref_word_any _ _ _ (rm L who) (HL.out.rm who) HX18.out).mono ?_
          rintro e w19 ⟨rfl, f19⟩
          have F19 := F18.trans f19; clear F18 f19 HX18
          go_wp2
          go_ret
          exact ⟨by cases bb <;> rfl, F19⟩

end Go.Proofs.Ytngojpccemjikaa

/- The walk of LineOrder. -/
import Derived.Test.YtngojpccemjikaaLineL
namespace Go.Proofs.Ytngojpccemjikaa
open Go.RowKit Go.Shelf

set_option maxHeartbeats 4000000 in
set_option maxRecDepth 100000 in
theorem order_walk (w : World) (g : Option Addr) (c : Nat) (l : List Int) (ha : IntsAt w g l) (hr : ∀ n ∈ l, -9223372036854775808 ≤ n ∧ n ≤ 9223372036854775807) :
    Calls Try.prog 6 #[.slice g l.length c] w fun e w' => e = .returned (.bool true) ∧ Fr [] w w' := by
  obtain ⟨i0, hi, hz0, hz1, hz2⟩ := info_parts round_info_int
  have hl := ha.1
  have HA := Lib.hid ha; have HB := Lib.hid hr; clear ha hr
  obtain ⟨len, hlen⟩ : ∃ len, len = l.length := ⟨_, rfl⟩
  rw [← hlen] at hl ⊢
  have HLEN := Lib.hid hlen; clear hlen
  go_enter Try.func6, Try.ntmps6
  go_wp2_with fail
  refine (awake_any _).mono ?_
  rintro e w1 ⟨rfl, F1⟩
  by_cases hlen : (60 : Int) < (len : Int)
  · go_wp2
    go_ret
    exact ⟨rfl, F1⟩
  · go_wp2
    go_loopw [6, 4, 5] (fun i q v wr => ∃ (k : Nat) (L : List Int), k ≤ len ∧ i = .int .i64 (k : Int) ∧ q = .int .i64 (wd L : Int) ∧ Ln L ∧ LstAt w.heap.size wr v L ∧ Fr [] w wr) (fun i _ _ _ => len - (intOf i).toNat)
    case atStart => exact ⟨0, [], Nat.zero_le _, rfl, rfl, Ln.nil, .inl ⟨rfl, rfl⟩, F1⟩
    case round =>
      clear F1
      obtain ⟨k, L, hk, rfl, rfl, hL, hV, F⟩ := hrel
      have hl15 := hL.length
      have HL := Lib.hid hL; have HV := Lib.hid hV; clear hL hV
      by_cases hlt : k < len
      · obtain ⟨ba, oa, rfl, hca⟩ := HA.out.base (by intro e; rw [e] at HLEN; have := HLEN.out; simp at this; omega)
        have hx := getElem?_nat (L := l) (k := k) (by rw [← HLEN.out]; exact hlt)
        have ga := F.cell (hca k _ hx) (by simp)
        clear hca
        generalize l.getD k 0 = x at ga hx
        obtain ⟨hb1, hb2⟩ := HB.out x (List.mem_of_getElem? hx)
        clear hx
        have hlt' : (k : Int) < (len : Int) := by omega
        have hk0 : (0 : Int) ≤ (k : Int) := by omega
        by_cases hx0 : 0 ≤ x
        · go_wp2_with fail
          refine (push_L _ L x HL.out).mono ?_
          rintro e w2 ⟨rfl, f2⟩
          have ga2 := f2.cell ga (by simp)
          have HV2 := Lib.hid (HV.out.fr f2)
          have F2 := F.trans f2; clear F f2 HV ga
          by_cases hp : Ln (L ++ [x])
          · have hne : ¬ ((wd (L ++ [x]) : Nat) : Int) = ((wd L : Nat) : Int) := fun e => by
              have h2 := wd_inj hp HL.out (by omega)
              have := congrArg List.length h2
              simp at this
            have hbne : (((wd (L ++ [x]) : Nat) : Int) != ((wd L : Nat) : Int)) = true := by simpa using hne
            clear hne
            rw [decide_eq_true hp, show pushL L x = L ++ [x] by unfold pushL; rw [if_pos hp]]
            have HP := Lib.hid hp; clear hp
            have hs2 := F2.size
            go_wp2_with (first
              | (at_builtin; refine wpList_append_lst rfl _ _ 22 rfl i0 Try.underlying22 hi hz0 hz1 hz2 w.heap.size _ L rfl (HV2.out.fr ((Fr.refl [] w2).alloc (.cells #[.int .i64 x] 3))) ⟨w2.heap.size, 0, none⟩ 1 x rfl (cell_one_new _ _ _) (by omega) (by simp; omega) w (Nat.le_refl _) (F2.alloc (.cells #[.int .i64 x] 3)) ?_)
              | fail)
            intro v' w3 hv3 F3
            have HV3 := Lib.hid hv3; clear hv3
            go_wp2
            go_roundw
            case rel => exact ⟨k + 1, L ++ [x], by omega, by go_num, rfl, HP.out, HV3.out, F3⟩
            case measure => simp [intOf]; omega
          · rw [decide_eq_false hp, show pushL L x = L by unfold pushL; rw [if_neg hp]]
            clear hp
            go_wp2
            go_roundw
            case rel => exact ⟨k + 1, L, by omega, by go_num, rfl, HL.out, HV2.out, F2⟩
            case measure => simp [intOf]; omega
        · by_cases hx1 : x = -1
          · subst hx1
            cases L with
            | nil =>
              obtain ⟨g', c', rfl, -, -⟩ := HV.out.ints
              rw [List.length_nil] at HV ⊢
              go_wp2_with fail
              refine (pop_L _ [] Ln.nil).mono ?_
              rintro e w2 ⟨rfl, f2⟩
              have HV2 := Lib.hid (HV.out.fr f2)
              have F2 := F.trans f2; clear F f2 HV
              go_wp2
              go_roundw
              case rel => exact ⟨k + 1, [], by omega, by go_num, rfl, Ln.nil, HV2.out, F2⟩
              case measure => simp [intOf]; omega
            | cons a t =>
              have hV := HV.out
              rcases hV with ⟨_, hV⟩ | ⟨g', off, cap, cur, rfl, hV⟩
              · cases hV
              · have hcap : t.length + 1 ≤ cap := hV.2.2.1
                have hcm : cap ≤ maxLen := hV.2.2.2.1
                unfold maxLen at hcm
                clear hV
                rw [List.length_cons] at hl15
                rcases (show cap = 1 ∨ 2 ≤ cap by omega) with rfl | hc2
                · obtain rfl : t = [] := List.eq_nil_of_length_eq_zero (by omega)
                  have HT := Lib.hid HV.out.tail0
                  simp only [List.length_cons, List.length_nil, Nat.zero_add] at hl15 hcap HV ⊢
                  go_wp2_with fail
                  refine (pop_L _ [a] HL.out).mono ?_
                  rintro e w2 ⟨rfl, f2⟩
                  rw [List.tail_cons]
                  have HT2 := Lib.hid (HT.out.fr f2)
                  have F2 := F.trans f2; clear F f2 HT
                  go_wp2
                  go_roundw
                  case rel => exact ⟨k + 1, [], by omega, by go_num, rfl, HL.out.tail, HT2.out, F2⟩
                  case measure => simp [intOf]; omega
                · have HT := Lib.hid HV.out.tail
                  rw [List.length_cons]
                  generalize t.length = m at hl15 hcap HT ⊢
                  have hpos : (0 : Int) < ((m + 1 : Nat) : Int) := by omega
                  have hc3 : ¬ cap - 1 = 0 := by omega
                  go_wp2_with fail
                  refine (pop_L _ (a :: t) HL.out).mono ?_
                  rintro e w2 ⟨rfl, f2⟩
                  rw [List.tail_cons]
                  have HT2 := Lib.hid (HT.out.fr f2)
                  have F2 := F.trans f2; clear F f2 HT
                  go_wp2
                  go_roundw
                  case rel => exact ⟨k + 1, t, by omega, by go_num, rfl, HL.out.tail, HT2.out, F2⟩
                  case measure => simp [intOf]; omega
          · obtain ⟨g', c', rfl, hI, -⟩ := HV.out.ints
            have HI := Lib.hid hI; clear hI HV
            go_wp2_with fail
            refine (drop_L _ L (-2 - x) HL.out).mono ?_
            rintro e w2 ⟨rfl, f2⟩
            have HI2 := Lib.hid (HI.out.fr f2 (by simp))
            have F2 := F.trans f2; clear F f2 HI ga
            go_wp2_with fail
            refine (ref_has_any _ _ _ L (-2 - x) HI2.out).mono ?_
            rintro e w3 ⟨rfl, f3⟩
            have HI3 := Lib.hid (HI2.out.fr f3 (by simp))
            have F3 := F2.trans f3; clear F2 f3 HI2
            generalize decide ((-2 - x) ∈ L) = bb
            go_wp2_with fail
            refine (ref_drop_lst _ _ _ L (-2 - x) (by omega) HI3.out).mono ?_
            rintro e w4 ⟨v4, rfl, hv4, f4⟩
            have F4 := F3.trans f4
            have HV4 := Lib.hid (hv4.mono F3.size)
            clear F3 f4 HI3 hv4
            go_wp2
            go_roundw
            case rel => exact ⟨k + 1, rm L (-2 - x), by omega, by go_num, rfl, HL.out.rm _, HV4.out, F4⟩
            case measure => simp [intOf]; omega
      · obtain ⟨g', c', rfl, hI, hc'⟩ := HV.out.ints
        have HI := Lib.hid hI; clear hI HV
        cases L with
        | nil =>
          rw [List.length_nil]
          go_wp2_with fail
          refine (head_L _ [] Ln.nil).mono ?_
          rw [show headV [] = .tuple #[.int .i64 0, .bool false] from rfl]
          rintro e w2 ⟨rfl, f2⟩
          have HI2 := Lib.hid (HI.out.fr f2 (by simp))
          have F2 := F.trans f2; clear F f2 HI
          go_wp2_with fail
          refine (right_yes _ [] Ln.nil).mono ?_
          rintro e w3 ⟨rfl, f3⟩
          have HI3 := Lib.hid (HI2.out.fr f3 (by simp))
          have F3 := F2.trans f3; clear F2 f3 HI2
          go_wp2_with fail
          refine (list_L _ [] Ln.nil).mono ?_
          rintro e w4 ⟨g4, c4, rfl, hx4, f4, -⟩
          have HX4 := Lib.hid hx4; clear hx4
          have HI4 := Lib.hid (HI3.out.fr f4 (by simp))
          have F4 := F3.trans f4; clear F3 f4 HI3
          go_wp2_with fail
          refine (ints_same _ _ _ _ _ [] HX4.out HI4.out).mono ?_
          rintro e w5 ⟨rfl, n, rfl⟩
          have F5 := F4.drewN n; clear F4
          go_wp2
          go_ret
          exact ⟨rfl, F5⟩
        | cons a t =>
          obtain ⟨b5, o5, rfl, hc5⟩ := HI.out.base (by simp)
          have ga : wr.cell? ⟨b5, o5, none⟩ = some (.int .i64 a) := hc5 0 a rfl
          clear hc5
          obtain ⟨m, hm⟩ : ∃ m, m = (a :: t).length := ⟨_, rfl⟩
          have hpos : (0 : Int) < (m : Int) := by rw [hm]; simp
          have hm15 : m ≤ 15 := by omega
          rw [← hm]
          have HM := Lib.hid hm; clear hm hl15
          go_wp2_with fail
          refine (head_L _ (a :: t) HL.out).mono ?_
          rw [show headV (a :: t) = .tuple #[.int .i64 a, .bool true] by simp [headV, headI]]
          rintro e w2 ⟨rfl, f2⟩
          have HI2 := Lib.hid (HI.out.fr f2 (by simp))
          have ga2 := f2.cell ga (by simp)
          have F2 := F.trans f2; clear F f2 HI ga
          go_wp2_with fail
          refine (right_yes _ (a :: t) HL.out).mono ?_
          rintro e w3 ⟨rfl, f3⟩
          have HI3 := Lib.hid (HI2.out.fr f3 (by simp))
          have ga3 := f3.cell ga2 (by simp)
          have F3 := F2.trans f3; clear F2 f3 HI2 ga2
          go_wp2_with fail
          refine (list_L _ (a :: t) HL.out).mono ?_
          rintro e w4 ⟨g4, c4, rfl, hx4, f4, -⟩
          have HX4 := Lib.hid hx4; clear hx4
          have HI4 := Lib.hid (HI3.out.fr f4 (by simp))
          have ga4 := f4.cell ga3 (by simp)
          have F4 := F3.trans f4; clear F3 f4 HI3 ga3
          go_wp2_with fail
          rw [HM.out]
          refine (ints_same _ _ _ _ _ (a :: t) HX4.out HI4.out).mono ?_
          rintro e w5 ⟨rfl, n, rfl⟩
          rw [← HM.out]
          have F5 := F4.drewN n
          have ga5 : (w4.drewN n).cell? ⟨b5, o5, none⟩ = some (.int .i64 a) := ga4
          clear F4 ga4
          go_wp2
          go_ret
          exact ⟨rfl, F5⟩

end Go.Proofs.Ytngojpccemjikaa

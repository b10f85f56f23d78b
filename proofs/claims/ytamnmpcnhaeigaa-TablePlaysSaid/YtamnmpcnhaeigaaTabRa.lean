/- coachhouseref05.Table: All. Printed by gen_rall.py. -/
import Derived.Test.YtamnmpcnhaeigaaTabRf
namespace Go.Proofs.Ytamnmpcnhaeigaa.TabI
open Go.RowKit
set_option linter.unusedVariables false

theorem take_get {L : List (Int × Int)} {n : Nat} {x : Int × Int} (h : L[n]? = some x) : L.take (n + 1) = L.take n ++ [x] := by
  rw [List.take_add_one, h]; rfl
def lenV : Value → Nat
  | .slice _ n _ => n
  | _ => 0

set_option maxHeartbeats 8000000 in
set_option maxRecDepth 100000 in
theorem rall_any (B : Nat) (w : World) (r : Nat) (v : Value) (R L : List (Int × Int)) (hn : R.length ≤ 1000) (h : RefAt B w r v R) (hR : Rel R L) :
    Calls Try.prog 27 #[.pointer (some ⟨r, 0, none⟩)] w (AllIs w L) := by
  have c1 : w.cell? ⟨r, 0, none⟩ = some v := cell_of (i := 0) h.tab rfl
  obtain ⟨i0, hi0, hz0, hz1, hz2⟩ := info_parts pair_info
  rcases own_some h.own with ⟨rfl, rfl⟩ | ⟨q, c, rfl, hc, hbq, hq, hcell⟩
  · have hL : L = [] := List.eq_nil_of_length_eq_zero hR.len.symm
    subst hL
    have FIN := Lib.hid (show AllIs w [] (.returned (.slice none 0 0)) w from ⟨none, 0, rfl, ⟨fun j x hx => by simp at hx, fun a ha => by cases ha⟩, Fr.refl _ _⟩)
    clear h hR
    go_enter Try.func27, Try.ntmps27
    go_wp2
    go_loopw [3] (fun s3 wr => s3 = .slice none 0 0 ∧ wr = w) (fun _ _ => 0)
    case atStart => exact ⟨rfl, rfl⟩
    case round =>
      obtain ⟨rfl, rfl⟩ := hrel
      go_wp2
      go_ret
      exact FIN.out
  have HC := Lib.hid hcell
  have HR := Lib.hid hR
  obtain ⟨N, hN⟩ : ∃ N, R.length = N := ⟨_, rfl⟩
  have HN := Lib.hid hN
  have HNL := Lib.hid (show L.length = N by rw [← hN]; exact hR.len.symm)
  rw [hN] at hn hc c1
  clear hN hcell hR h hbq hq
  go_enter Try.func27, Try.ntmps27
  go_wp2
  go_loopw [3] (fun s3 wr => ∃ (n : Nat) (g : Option Addr) (c' : Nat), n ≤ N ∧ s3 = .slice g n c' ∧ wr.ownsRow w.heap.size 25 2 (.slice g n c') n (flat (L.take n)) ∧ Fr [] w wr) (fun s3 _ => N - lenV s3)
  case atStart => exact ⟨0, none, 0, Nat.zero_le _, rfl, World.ownsRow_nil _ _ _ _, Fr.refl _ _⟩
  case round =>
    obtain ⟨n, g, c', hnN, rfl, hown, fr⟩ := hrel
    obtain ⟨w3, rfl⟩ : ∃ x, x = wr := ⟨_, rfl⟩
    have e1 := fr.cell c1 (by simp)
    have hlt2 : (L.take n).length = n := by rw [List.length_take, HNL.out]; omega
    by_cases hlt : n < N
    · have hlt' : (n : Int) < (N : Int) := by omega
      have HC3 := Lib.hid fun (j : Nat) (x : Int × Int) (hx : R[j]? = some x) => And.intro (fr.cell (HC.out j x hx).1 (by simp)) (fr.cell (HC.out j x hx).2 (by simp))
      have HOS := Lib.hid (own_some (L := L.take n) (by rw [hlt2]; exact hown))
      rw [hlt2] at HOS
      have HOW := Lib.hid hown
      have FR := Lib.hid fr
      have hsz := fr.size
      clear hown fr hlt2
      go_wp2
      go_loopw [4, 5] (fun s4 s5 wq => ∃ (i d : Nat) (b : Int), i ≤ N ∧ s5 = .int .i64 i ∧ s4 = .int .i64 b ∧ wq = w3.drewN d ∧ Best R L n i b) (fun _ s5 _ => N - (intOf s5).toNat)
      case atStart => exact ⟨0, 0, -1, Nat.zero_le _, rfl, rfl, rfl, .inl ⟨rfl, fun j x hj => absurd hj (Nat.not_lt_zero _)⟩⟩
      case round =>
        obtain ⟨i, d, b, hiN, rfl, rfl, rfl, hb⟩ := hrel
        have e1' : (w3.drewN d).cell? ⟨r, 0, none⟩ = some (.slice (some ⟨q, 0, none⟩) N c) := e1
        by_cases hil : i < N
        · obtain ⟨⟨a, u⟩, hx⟩ : ∃ x, R[i]? = some x := ⟨_, List.getElem?_eq_getElem (by rw [HN.out]; exact hil)⟩
          obtain ⟨d0, d1⟩ := HC3.out i _ hx
          dsimp only at d0 d1
          have hil' : (i : Int) < (N : Int) := by omega
          have hi00 : (0 : Int) ≤ (i : Int) := by omega
          have HX := Lib.hid hx; have HB := Lib.hid hb
          clear hx hb
          have hbs : b = -1 ∨ ∃ (m : Nat) (y : Int × Int), b = (m : Int) ∧ m < i ∧ R[m]? = some y := by
            rcases HB.out with ⟨e, _⟩ | ⟨m, y, e, h1, h2, _⟩
            · exact .inl e
            · exact .inr ⟨m, y, e, h1, h2⟩
          by_cases hn0 : n = 0
          · have HE := Lib.hid (show Elig L n (a, u) from .inl hn0)
            have hnb : ((n : Int) == 0) = true := by rw [hn0]; rfl
            clear hn0
            rcases hbs with rfl | ⟨m, ⟨a2, u2'⟩, rfl, hmi, hm⟩
            · have HZ := Lib.hid (best_new HB.out HX.out HE.out (.inl rfl))
              clear HB HX HE
              go_wp2
              go_quiet (fail)
              go_wp2
              go_quiet (fail)
              go_wp2
              go_roundw
              case rel => exact ⟨i + 1, _, _, by omega, by go_num, rfl, rfl, HZ.out⟩
              case measure => simp [intOf]; omega
            · obtain ⟨g0, -⟩ := HC3.out m _ hm
              dsimp only at g0
              have hm0 : (0 : Int) ≤ (m : Int) := by omega
              have hmn : ¬ ((m : Int) < 0) := by omega
              have hmN : m < N := by omega
              by_cases hal : a < a2
              · have HZ := Lib.hid (best_new HB.out HX.out HE.out (.inr ⟨m, _, rfl, hm, hal⟩))
                clear HB HX HE hm hmi
                go_wp2
                go_quiet (fail)
                go_wp2
                go_quiet (fail)
                go_wp2
                go_roundw
                case rel => exact ⟨i + 1, _, _, by omega, by go_num, rfl, rfl, HZ.out⟩
                case measure => simp [intOf]; omega
              · have HZ := Lib.hid (best_keep HB.out hm HX.out (by show a2 ≤ a; omega))
                clear HB HX HE hm hmi
                go_wp2
                go_quiet (fail)
                go_wp2
                go_quiet (fail)
                go_wp2
                go_roundw
                case rel => exact ⟨i + 1, _, _, by omega, by go_num, rfl, rfl, HZ.out⟩
                case measure => simp [intOf]; omega
          · have hnb : ((n : Int) == 0) = false := by simp; omega
            obtain ⟨n', hn'⟩ : ∃ n', n = n' + 1 := ⟨n - 1, by omega⟩
            have hidx : (n : Int) - 1 = (n' : Int) := by omega
            have hnn' : n' < n := by omega
            have hn5 : n - 1 = n' := by omega
            have HN' := Lib.hid hn5
            have hn6 : n ≠ 0 := by omega
            have HN6 := Lib.hid hn6
            clear hn' hn5 hn6
            rcases HOS.out with ⟨_, h0⟩ | ⟨q2, c2, hg, hc2, hb2, hq2, hcell2⟩
            · have := congrArg List.length h0
              rw [List.length_take, HNL.out, List.length_nil] at this
              have := HN6.out
              omega
            · cases hg
              obtain ⟨⟨a1, u1⟩, hy⟩ : ∃ y, L[n']? = some y := ⟨_, List.getElem?_eq_getElem (by rw [HNL.out]; omega)⟩
              obtain ⟨f0, -⟩ := hcell2 n' (a1, u1) (by rw [List.getElem?_take, if_pos (by omega)]; exact hy)
              dsimp only at f0
              have hn00 : (0 : Int) ≤ (n' : Int) := by omega
              have HY := Lib.hid hy
              clear hcell2 hy hn0
              by_cases hel : a1 < a
              · have HE := Lib.hid (show Elig L n (a, u) from .inr ⟨_, by rw [HN'.out]; exact HY.out, hel⟩)
                rcases hbs with rfl | ⟨m, ⟨a2, u2'⟩, rfl, hmi, hm⟩
                · have HZ := Lib.hid (best_new HB.out HX.out HE.out (.inl rfl))
                  clear HB HX HE
                  go_wp2
                  go_quiet (fail)
                  go_wp2
                  go_quiet (fail)
                  go_wp2
                  go_roundw
                  case rel => exact ⟨i + 1, _, _, by omega, by go_num, rfl, rfl, HZ.out⟩
                  case measure => simp [intOf]; omega
                · obtain ⟨g0, -⟩ := HC3.out m _ hm
                  dsimp only at g0
                  have hm0 : (0 : Int) ≤ (m : Int) := by omega
                  have hmn : ¬ ((m : Int) < 0) := by omega
                  have hmN : m < N := by omega
                  by_cases hal : a < a2
                  · have HZ := Lib.hid (best_new HB.out HX.out HE.out (.inr ⟨m, _, rfl, hm, hal⟩))
                    clear HB HX HE hm hmi
                    go_wp2
                    go_quiet (fail)
                    go_wp2
                    go_quiet (fail)
                    go_wp2
                    go_roundw
                    case rel => exact ⟨i + 1, _, _, by omega, by go_num, rfl, rfl, HZ.out⟩
                    case measure => simp [intOf]; omega
                  · have HZ := Lib.hid (best_keep HB.out hm HX.out (by show a2 ≤ a; omega))
                    clear HB HX HE hm hmi
                    go_wp2
                    go_quiet (fail)
                    go_wp2
                    go_quiet (fail)
                    go_wp2
                    go_roundw
                    case rel => exact ⟨i + 1, _, _, by omega, by go_num, rfl, rfl, HZ.out⟩
                    case measure => simp [intOf]; omega
              · have HE := Lib.hid (show ¬ Elig L n (a, u) from fun h => by
                  rcases h with h | ⟨y, hy, hlt⟩
                  · exact HN6.out h
                  · rw [HN'.out, HY.out] at hy
                    rw [← Option.some.inj hy] at hlt
                    exact hel hlt)
                have HZ := Lib.hid (best_none HB.out HX.out HE.out)
                clear HB HX HE hbs
                go_wp2
                go_quiet (fail)
                rw [decide_eq_false (Int.not_lt.mpr hel)]
                go_wp2
                go_quiet (fail)
                go_wp2
                go_roundw
                case rel => exact ⟨i + 1, _, _, by omega, by go_num, rfl, rfl, HZ.out⟩
                case measure => simp [intOf]; omega
        · obtain rfl : i = N := by omega
          have hb' : Best R L n R.length b := by rw [HN.out]; exact hb
          obtain ⟨m, rfl, hm⟩ := best_end HR.out (by rw [HNL.out]; exact hlt) hb'
          obtain ⟨⟨a, u⟩, hx⟩ : ∃ x, L[n]? = some x := ⟨_, List.getElem?_eq_getElem (by rw [HNL.out]; exact hlt)⟩
          rw [hx] at hm
          obtain ⟨d0, d1⟩ := HC3.out m _ hm
          dsimp only at d0 d1
          have hml : m < i := by have := (List.getElem?_eq_some_iff.1 hm).1; have := HN.out; omega
          have hm0 : (0 : Int) ≤ (m : Int) := by omega
          have HT := Lib.hid (take_get hx)
          have HOD := Lib.hid (show (w3.drewN d).ownsRow w.heap.size 25 2 (.slice g n c') n (flat (L.take n)) from HOW.out)
          have FD := Lib.hid (FR.out.drewN d)
          have hsz' : w.heap.size ≤ (w3.drewN d).heap.size := hsz
          have e0' : (w3.drewN d).cell? ⟨q, m * 2, none⟩ = some (.int .i64 a) := d0
          have e2' : (w3.drewN d).cell? ⟨q, m * 2 + 1, none⟩ = some (.int .i64 u) := d1
          clear hb hb' hm hx d0 d1 e1 hsz
          obtain ⟨w4, hw4⟩ : ∃ x, x = w3.drewN d := ⟨_, rfl⟩
          rw [← hw4] at HOD FD hsz' e0' e2' e1' ⊢
          clear hw4
          go_wp2_with (first
            | (at_builtin; refine wpList_append_own _ rfl _ _ 22 rfl w.heap.size 25 i0 (.agg #[.int .i64 0, .int .i64 0]) 2 16 Try.underlying22 hi0 hz0 hz1 hz2 rfl (by decide) _ n _ rfl (HOD.out.alloc _) ⟨w4.heap.size, 0, none⟩ 1 1 [.int .i64 a, .int .i64 u] rfl rfl (World.news_of_block (heap_alloc_new w4 _)) (by intro u hu; simp at hu; rcases hu with rfl | rfl <;> rfl) (by unfold maxLen; omega) (by omega) (by rw [World.size_alloc]; omega) ?_)
            | fail)
          intro v7 w5 hown5 hgrow5 _
          have F5 := Lib.hid (show Fr [] w w5 from (FD.out.alloc _).grown hgrow5 (fun b hb => .inr ((HOD.out.lt b hb).1)))
          have hown6 : w5.ownsRow w.heap.size 25 2 v7 (n + 1) (flat (L.take (n + 1))) := by rw [HT.out, flat_append]; exact hown5
          obtain ⟨g7, c7, hv7⟩ : ∃ g c, v7 = .slice g (n + 1) c := by
            rcases hown6.2 with ⟨_, h0⟩ | ⟨g, cap, cur, e, _⟩
            · omega
            · exact ⟨_, _, e⟩
          subst hv7
          have HO6 := Lib.hid hown6
          clear hown5 hgrow5 hown6
          go_wp2
          go_roundw
          case rel => exact ⟨n + 1, g7, c7, by omega, rfl, HO6.out, F5.out⟩
          case measure => simp [lenV]; omega
    · obtain rfl : n = N := by omega
      have hT : L.take n = L := List.take_of_length_le (by rw [HNL.out]; exact Nat.le_refl _)
      rw [hT] at hown
      have hown' : w3.ownsRow w.heap.size 25 2 (.slice g n c') L.length (flat L) := by rw [HNL.out]; exact hown
      obtain ⟨g2, c2, e, hla⟩ := own_pairs hown'
      have FIN := Lib.hid (show AllIs w L (.returned (.slice g n c')) w3 from ⟨g2, c2, by rw [e], hla, fr⟩)
      clear hown hT hown' e hla fr
      go_wp2
      go_ret
      exact FIN.out

end Go.Proofs.Ytamnmpcnhaeigaa.TabI

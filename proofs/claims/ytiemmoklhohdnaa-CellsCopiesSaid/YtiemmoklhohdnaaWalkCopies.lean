/- The walk of 'CellsCopies'. -/
import Derived.Test.YtiemmoklhohdnaaWalkAlone
namespace Go.Proofs.Ytiemmoklhohdnaa
open Go.RowKit

/-- Between two rounds of the first loop: both copies have one content; the memory that was copied has its own. -/
structure CopyInv (w : World) (p q px qx py qy g1 n : Nat) (L : List Int) (t : Int) (k : Nat) (wr : World) : Prop where
  mx : ∃ (M : List Int) (T : Int), 0 ≤ T ∧ T ≤ 60 + k ∧ M.length = n ∧ MemAt 53 wr px qx M T ∧ MemAt 53 wr py qy M T
  mm : MemAt 53 wr p q L t
  mi : IntsAt wr (some ⟨g1, 0, none⟩) L
  fr : Fr [] w wr

theorem IntsAt.keep {S : List Nat} {w w' : World} {b : Nat} {L : List Int} (h : IntsAt w (some ⟨b, 0, none⟩) L) (f : Fr S w w') (hs : b ∉ S) : IntsAt w' (some ⟨b, 0, none⟩) L :=
  h.fr f (fun a ha => by cases ha; exact hs)

theorem owns_set {w : World} {base e n c g : Nat} {L : List Int} (h : w.ownsRow base e 1 (.slice (some ⟨g, 0, none⟩) n c) n (L.map (Value.int .i64))) (j : Nat) (x : Int) :
    (w.setCell ⟨g, j, none⟩ (.int .i64 x)).ownsRow base e 1 (.slice (some ⟨g, 0, none⟩) n c) n ((L.set j x).map (Value.int .i64)) := by
  have := h.stored j (.int .i64 x)
  rw [← List.map_set] at this
  exact this.1

set_option maxHeartbeats 2000000 in
theorem copies_walk (w : World) (many : Int) (g gk : Option Addr) (c ck : Nat) (l m : List OpV) (h0 : 0 ≤ many) (h1 : many ≤ 255) (hA : OpsAt w.heap.size w g l) (hl : l.length ≤ 9223372036854775807)
    (hK : OpsAt w.heap.size w gk m) (hlm : m.length ≤ 9223372036854775807) :
    Calls Try.prog 9 #[.int .u8 many, .slice g l.length c, .slice gk m.length ck] w fun e w' => e = .returned (.bool true) ∧ Fr [] w w' := by
  have A := Lib.hid hA; clear hA
  have AK := Lib.hid hK; clear hK
  obtain ⟨len, hlen⟩ : ∃ n, n = m.length := ⟨_, rfl⟩
  rw [← hlen] at hlm ⊢
  have HL := Lib.hid hlen; clear hlen
  go_enter Try.func9, Try.ntmps9
  go_wp2_with fail
  refine (awake_any w).mono ?_
  rintro e w1 ⟨rfl, f1⟩
  by_cases hl60 : l.length ≤ 60
  · have hg : decide ((60 : Int) < (l.length : Int)) = false := by simp; omega
    by_cases hm60 : len ≤ 60
    · have hg2 : decide ((60 : Int) < (len : Int)) = false := by simp; omega
      go_wp2_with fail
      refine (some_any w1 many g c l h0 h1 hl60 (fun j o hj => ?_)).mono ?_
      · obtain ⟨x0, x1, b', f', hgg, hb', hc⟩ := (A.out.fr f1 (Nat.le_refl _) (by simp)) j o hj
        exact ⟨x0, x1, b', f', hgg, Nat.lt_of_lt_of_le hb' f1.size, hc⟩
      rintro e w2 ⟨p, q, rfl, hp, hq, hm, f2⟩
      have hL := length_runs l (List.replicate (1 + many % 100).toNat 0, 0)
      have ht := touched_runs l (List.replicate (1 + many % 100).toNat 0, 0)
      generalize runs l (List.replicate (1 + many % 100).toNat 0, 0) = s at hm hL ht
      obtain ⟨L, t⟩ := s
      simp only [List.length_replicate] at hL hm ht
      have hL100 : L.length ≤ 100 := by omega
      have hLp : 0 < L.length := by omega
      have ht0 : 0 ≤ t := ht.1
      have ht1 : t ≤ 60 := by omega
      clear hL ht
      have F2 := f1.trans f2
      have hp0 : w.heap.size ≤ p := Nat.le_trans f1.size hp
      have hq0 : w.heap.size ≤ q := Nat.le_trans f1.size hq
      have lp := hm.plt; have lq := hm.qlt
      obtain ⟨n, hn⟩ : ∃ n, n = L.length := ⟨_, rfl⟩
      have hn100 : n ≤ 100 := by omega
      have HN := Lib.hid hn; clear hn
      go_wp2_with fail
      refine (copy_any w2 p q L t hm (by omega)).mono ?_
      rintro e w3 ⟨px, qx, rfl, hpx, hqx, hx, f3⟩
      have lpx := hx.plt; have lqx := hx.qlt
      have hm3 := hm.fr f3 (by simp) (by simp)
      have F3 := F2.trans f3
      go_wp2_with fail
      refine (copy_any w3 p q L t hm3 (by omega)).mono ?_
      rintro e w4 ⟨py, qy, rfl, hpy, hqy, hy, f4⟩
      have lpy := hy.plt; have lqy := hy.qlt
      have hm4 := hm3.fr f4 (by simp) (by simp)
      have hx4 := hx.fr f4 (by simp) (by simp)
      have F4 := F3.trans f4
      go_wp2_with fail
      refine (words_any w4 p q L t hm4 (by omega)).mono ?_
      rintro e w5 ⟨g1, k1, rfl, own1, f5⟩
      have hg1 := own1.lt g1 rfl
      have hm5 := hm4.fr f5 (by simp) (by simp)
      have hx5 := hx4.fr f5 (by simp) (by simp)
      have hy5 := hy.fr f5 (by simp) (by simp)
      have F5 := F4.trans f5
      have s2 := f3.size; have s3 := f4.size; have s4 := f5.size
      have nx : p ∉ [px, qx] ∧ q ∉ [px, qx] ∧ py ∉ [px, qx] ∧ qy ∉ [px, qx] ∧ g1 ∉ [px, qx] := by simp; omega
      have ny : p ∉ [py, qy] ∧ q ∉ [py, qy] ∧ px ∉ [py, qy] ∧ qx ∉ [py, qy] ∧ g1 ∉ [py, qy] := by simp; omega
      have hpx0 : w.heap.size ≤ px := Nat.le_trans F2.size hpx
      have hqx0 : w.heap.size ≤ qx := Nat.le_trans F2.size hqx
      have hpy0 : w.heap.size ≤ py := Nat.le_trans F3.size hpy
      have hqy0 : w.heap.size ≤ qy := Nat.le_trans F3.size hqy
      have hI : CopyInv w p q px qx py qy g1 n L t 0 w5 := ⟨⟨L, t, ht0, by omega, HN.out.symm, hx5, hy5⟩, hm5, IntsAt.of_owns own1, F5⟩
      have S5 : w.heap.size ≤ w5.heap.size := F5.size
      clear hx hx4 hy hm hm3 hm4 hx5 hy5 own1 f3 f4 f5 F2 F3 F4 s2 s3 s4
      go_wp2_with fail
      refine (touched_any w5 p q L t hm5).mono ?_
      rintro e w' ⟨rfl, rfl⟩
      clear hm5 F5
      go_wp2_with fail
      go_loopw [13] (fun j wr => ∃ k : Nat, k ≤ len ∧ j = .int .i64 k ∧ CopyInv w p q px qx py qy g1 n L t k wr) (fun j _ => len - (intOf j).toNat)
      case atStart => exact ⟨0, Nat.zero_le _, rfl, hI⟩
      case round =>
        obtain ⟨k, hk, rfl, hinv⟩ := hrel
        by_cases hlt : k < len
        · obtain ⟨o, hget⟩ : ∃ o, m[k]? = some o := ⟨_, List.getElem?_eq_getElem (by have := HL.out; omega)⟩
          obtain ⟨⟨M, T, hT0, hT1, hML, hmx, hmy⟩, hmm, hmi, fr⟩ := hinv
          obtain ⟨o0, o1, b, f, rfl, hb, c0, c1, c2, c3⟩ := (AK.out.fr fr (Nat.le_refl _) (by simp)) k o hget
          have HG := Lib.hid hget; clear hget
          have HM := Lib.hid hML; clear hML
          have hlt' : (k : Int) < (len : Int) := by omega
          have hk0 : (0 : Int) ≤ (k : Int) := by omega
          have hbx : b ∉ [px, qx] := by simp; omega
          have hby : b ∉ [py, qy] := by simp; omega
          obtain ⟨ok, oi, ov, ou⟩ := o
          simp only at o0 o1 c0 c1 c2 c3
          have DX : ∀ wx, MemAt 53 wx px qx M T → Calls Try.prog 14 #[.pointer (some ⟨px, 0, none⟩), .agg #[.int .u8 ok, .int .i64 oi, .int .i64 ov, .int .i64 ou]] wx fun e w' => e = .returned (.int .i64 (opTold ⟨ok, oi, ov, ou⟩ M)) ∧ Left 53 px qx (opNext ⟨ok, oi, ov, ou⟩ M) (T + opTch ⟨ok, oi, ov, ou⟩ M) wx w' :=
            fun wx hwx => do_any wx px qx M T ⟨ok, oi, ov, ou⟩ hwx hT0 (by omega) o0
          have DY : ∀ wx, MemAt 53 wx py qy M T → Calls Try.prog 14 #[.pointer (some ⟨py, 0, none⟩), .agg #[.int .u8 ok, .int .i64 oi, .int .i64 ov, .int .i64 ou]] wx fun e w' => e = .returned (.int .i64 (opTold ⟨ok, oi, ov, ou⟩ M)) ∧ Left 53 py qy (opNext ⟨ok, oi, ov, ou⟩ M) (T + opTch ⟨ok, oi, ov, ou⟩ M) wx w' :=
            fun wx hwx => do_any wx py qy M T ⟨ok, oi, ov, ou⟩ hwx hT0 (by omega) o0
          have hDX := Lib.hid DX; have hDY := Lib.hid DY; clear DX DY
          go_wp2_with fail
          go_region_held3 (fun w' => w'.cell? ⟨b, f + k * 4, none⟩ = some (.int .u8 ok) ∧ w'.cell? ⟨b, f + k * 4 + 1, none⟩ = some (.int .i64 oi) ∧ w'.cell? ⟨b, f + k * 4 + 2, none⟩ = some (.int .i64 ov) ∧ w'.cell? ⟨b, f + k * 4 + 3, none⟩ = some (.int .i64 ou))
            (first | go_keep | exact ⟨fx.cell c0 hbx, fx.cell c1 hbx, fx.cell c2 hbx, fx.cell c3 hbx⟩ | exact ⟨fy.cell (fx.cell c0 hbx) hby, fy.cell (fx.cell c1 hbx) hby, fy.cell (fx.cell c2 hbx) hby, fy.cell (fx.cell c3 hbx) hby⟩)
            (first
              | (go_at_call_of 14 px; refine (hDX.out _ ?_).mono ?_; exact hmx.drew; rintro e wx ⟨rfl, hx6, fx⟩)
              | (go_at_call_of 14 py; refine (hDY.out _ ?_).mono ?_; exact hmy.drew.fr fx nx.2.2.1 nx.2.2.2.1; rintro e wy ⟨rfl, hy6, fy⟩))
          have hI' : CopyInv w p q px qx py qy g1 n L t (k + 1) wy := by
            have hu := opTch_0 ⟨ok, oi, ov, ou⟩ M
            refine ⟨⟨_, _, ?_, ?_, ?_, hx6.fr fy ny.2.2.1 ny.2.2.2.1, hy6⟩, ?_, ?_, ?_⟩
            · omega
            · omega
            · rw [length_opNext]; exact HM.out
            · exact (hmm.drew.fr fx nx.1 nx.2.1).fr fy ny.1 ny.2.1
            · exact (IntsAt.keep (IntsAt.keep (hmi.fr (Fr.refl [] wr).drew (by simp)) fx nx.2.2.2.2) fy ny.2.2.2.2)
            · exact (fr.drew.then2 fx hpx0 hqx0).then2 fy hpy0 hqy0
          go_wp2_with fail
          go_roundw
          case rel => exact ⟨k + 1, by omega, by go_num, hI'⟩
          case measure => simp [intOf]; omega
        · have hge : ¬ (k : Int) < (len : Int) := by omega
          obtain ⟨⟨M, T, hT0, hT1, hML, hmx, hmy⟩, hmm, hmi, fr⟩ := hinv
          have HM := Lib.hid hML; clear hML
          have nL : L.length ≤ 10000 := by omega
          go_wp2_with fail
          refine (words_any wr p q L t hmm nL).mono ?_
          rintro e w6 ⟨g3, k3, rfl, own3, f6⟩
          have hg3 := own3.lt g3 rfl
          have hmx6 := hmx.fr f6 (by simp) (by simp); have hmy6 := hmy.fr f6 (by simp) (by simp); have hmm6 := hmm.fr f6 (by simp) (by simp)
          have hmi6 := IntsAt.keep hmi f6 (by simp)
          have F6 := fr.trans f6
          have n3 : p ∉ [g3] ∧ q ∉ [g3] ∧ px ∉ [g3] ∧ qx ∉ [g3] ∧ py ∉ [g3] ∧ qy ∉ [g3] ∧ g1 ∉ [g3] := by
            have e1 := hmx.plt; have e2 := hmx.qlt; have e3 := hmy.plt; have e4 := hmy.qlt; have e5 := hmm.plt; have e6 := hmm.qlt
            have e7 : g1 < wr.heap.size := by
              obtain ⟨b, o, hb, hc⟩ := hmi.2 0 _ (getElem?_nat hLp)
              cases hb
              exact World.block_lt_of_cell? wr _ hc
            simp; omega
          have hw3 : w.heap.size ≤ g3 := Nat.le_trans fr.size hg3.1
          obtain ⟨wo, rfl⟩ : ∃ wo : World, wo = wr := ⟨_, rfl⟩
          rw [← HN.out]
          rw [← HN.out] at own3
          have hI3 : ∃ V : List Int, V.length = n ∧ w6.ownsRow wo.heap.size 3 1 (.slice (some ⟨g3, 0, none⟩) n k3) n (V.map (Value.int .i64)) := ⟨L, HN.out.symm, own3⟩
          have KI := Lib.hid hI3; clear hI3 own3
          clear hmx hmy hmm hmi fr
          go_wp2
          go_loopw [15] (fun j wr => ∃ (i : Nat) (V : List Int), i ≤ n ∧ j = .int .i64 i ∧ V.length = n ∧ wr.ownsRow wo.heap.size 3 1 (.slice (some ⟨g3, 0, none⟩) n k3) n (V.map (Value.int .i64)) ∧ Fr [g3] w6 wr) (fun j _ => n - (intOf j).toNat)
          case atStart =>
            obtain ⟨V, hV, hown⟩ := KI.out
            exact ⟨0, V, Nat.zero_le _, rfl, hV, hown, Fr.refl _ _⟩
          case round =>
            obtain ⟨i, V, hi, rfl, hV, hown, fz⟩ := hrel
            by_cases hlt : i < n
            · obtain ⟨x, hx⟩ : ∃ x, V[i]? = some x := ⟨_, List.getElem?_eq_getElem (by omega)⟩
              have hc := owns_cell hown hx
              have hz := hown.frozenAt i
              have hI' : ∃ V' : List Int, V'.length = n ∧ (wr.setCell ⟨g3, i, none⟩ (.int .i64 (wrap64 (x + 1)))).ownsRow wo.heap.size 3 1 (.slice (some ⟨g3, 0, none⟩) n k3) n (V'.map (Value.int .i64)) :=
                ⟨V.set i (wrap64 (x + 1)), by simp [hV], owns_set hown i _⟩
              have HI' := Lib.hid hI'; clear hI'
              have F' : Fr [g3] w6 (wr.setCell ⟨g3, i, none⟩ (.int .i64 (wrap64 (x + 1)))) := fz.setCell (.inl (by simp)) _
              have hlt' : (i : Int) < (n : Int) := by omega
              have hi0 : (0 : Int) ≤ (i : Int) := by omega
              have HV := Lib.hid hV; have HX := Lib.hid hx; clear hV hx hown
              go_wp2
              go_roundw
              case rel =>
                obtain ⟨V', hV', hown'⟩ := HI'.out
                exact ⟨i + 1, V', by omega, by go_num, hV', hown', F'⟩
              case measure => simp [intOf]; omega
            · have hge : ¬ (i : Int) < (n : Int) := by omega
              have hmx7 := hmx6.fr fz n3.2.2.1 n3.2.2.2.1
              have hmy7 := hmy6.fr fz n3.2.2.2.2.1 n3.2.2.2.2.2.1
              have hmm7 := hmm6.fr fz n3.1 n3.2.1
              have hmi7 := IntsAt.keep hmi6 fz n3.2.2.2.2.2.2
              have F7 : Fr [] w wr := F6.then fz (fun x hx => by simp at hx; right; omega)
              clear hown hV
              go_wp2_with fail
              refine (words_any wr p q L t hmm7 nL).mono ?_
              rintro e w8 ⟨g4, k4, rfl, own4, f8⟩
              have hmx8 := hmx7.fr f8 (by simp) (by simp); have hmy8 := hmy7.fr f8 (by simp) (by simp); have hmm8 := hmm7.fr f8 (by simp) (by simp)
              have hmi8 := IntsAt.keep hmi7 f8 (by simp)
              have hmi8' := IntsAt.of_owns own4
              have F8 := F7.trans f8
              go_wp2_with fail
              rw [HN.out]
              refine (ints_same w8 _ _ _ _ L hmi8' hmi8).mono ?_
              rintro e w9 ⟨rfl, d, rfl⟩
              go_wp2_with fail
              refine (touched_any _ p q L t (hmm8.drewN d)).mono ?_
              rintro e w' ⟨rfl, rfl⟩
              go_wp2_with fail
              refine (words_any _ px qx M T (hmx8.drewN d) (by rw [HM.out]; omega)).mono ?_
              rintro e w10 ⟨g5, k5, rfl, own5, f10⟩
              have hx10 := (hmx8.drewN d).fr f10 (by simp) (by simp)
              have hy10 := (hmy8.drewN d).fr f10 (by simp) (by simp)
              have hi10 := IntsAt.of_owns own5
              have F10 := (F8.drewN d).trans f10
              have hg5 := own5.lt g5 rfl
              go_wp2_with fail
              refine (words_any w10 py qy M T hy10 (by rw [HM.out]; omega)).mono ?_
              rintro e w11 ⟨g6, k6, rfl, own6, f11⟩
              have hx11 := hx10.fr f11 (by simp) (by simp)
              have hy11 := hy10.fr f11 (by simp) (by simp)
              have hi11 := IntsAt.keep hi10 f11 (by simp)
              have hi11' := IntsAt.of_owns own6
              have F11 := F10.trans f11
              go_wp2_with fail
              refine (ints_same w11 _ _ _ _ M hi11 hi11').mono ?_
              rintro e w12 ⟨rfl, d2, rfl⟩
              go_wp2_with fail
              refine (touched_any _ px qx M T (hx11.drewN d2)).mono ?_
              rintro e w' ⟨rfl, rfl⟩
              go_wp2_with fail
              refine (touched_any _ py qy M T (hy11.drewN d2)).mono ?_
              rintro e w' ⟨rfl, rfl⟩
              go_wp2
              go_ret
              exact ⟨rfl, F11.drewN d2⟩
    · have hg2 : decide ((60 : Int) < (len : Int)) = true := by simp; omega
      go_wp2
      go_ret
      exact ⟨rfl, f1⟩
  · have hg : decide ((60 : Int) < (l.length : Int)) = true := by simp; omega
    go_wp2
    go_ret
    exact ⟨rfl, f1⟩

end Go.Proofs.Ytiemmoklhohdnaa

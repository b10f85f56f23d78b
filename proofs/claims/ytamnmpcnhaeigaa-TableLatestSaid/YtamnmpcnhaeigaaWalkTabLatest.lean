/- TableLatest: the walk. -/
import Derived.Test.YtamnmpcnhaeigaaTabY
import Derived.Test.YtamnmpcnhaeigaaTabZL
namespace Go.Proofs.Ytamnmpcnhaeigaa.TabI
open Go.RowKit
set_option linter.unusedVariables false

theorem seg_snoc {l : List (Int × Int)} {i j : Nat} {y : Int × Int} (hij : i + 1 ≤ j) (hy : l[j]? = some y) : (l.drop (i + 1)).take (j + 1 - (i + 1)) = (l.drop (i + 1)).take (j - (i + 1)) ++ [y] := by
  rw [show j + 1 - (i + 1) = (j - (i + 1)) + 1 by omega, List.take_add_one, List.getElem?_drop, show i + 1 + (j - (i + 1)) = j by omega, hy]; rfl

set_option maxHeartbeats 4000000 in
set_option maxRecDepth 100000 in
theorem latest_walk (W : World) (g : Option Addr) (c : Nat) (l : List (Int × Int)) (hA : PairsAt W.heap.size W g l) :
    Calls Try.prog 7 #[.slice g l.length c] W fun e w' => e = .returned (.bool true) ∧ Fr [] W w' := by
  have HA := Lib.hid hA
  by_cases hbig : 60 < l.length
  · have hbig' : (60 : Int) < (l.length : Int) := by omega
    clear hA
    go_enter Try.func7, Try.ntmps7
    go_wp2_with fail
    refine (TabW.awake_any W).mono ?_
    rintro e w1 ⟨rfl, f1⟩
    go_wp2_with fail
    go_ret
    exact ⟨rfl, f1⟩
  have hsm : l.length ≤ 60 := by omega
  have hbig' : ¬ (60 : Int) < (l.length : Int) := by omega
  clear hA
  go_enter Try.func7, Try.ntmps7
  go_wp2_with fail
  refine (TabW.awake_any W).mono ?_
  rintro e w1 ⟨rfl, f1⟩
  have HA1 := Lib.hid ((HA.out.fr f1).up f1.size)
  go_wp2_with fail
  refine (filled_any w1 g c l hsm HA1.out).mono ?_
  rintro e w2 ⟨p, rfl, ht2, f2⟩
  have F2 := f1.trans f2
  have hup : Rising lt (fillL l) := ht2.up
  have hlen : (fillL l).length ≤ 60 := Nat.le_trans (len_fill l) hsm
  have hmem : ∀ x, x ∈ fillL l ↔ x ∈ lastL l := fun x => mem_fill ord l x
  have hln : (fillL l).length = (lastL l).length := len_fillG ord l
  have hhas : ∀ x ∈ l, has lt (fillL l) x.1 = true := fun x hx => (has_fill ord l x.1).2 ⟨x, hx, rfl⟩
  have hkeys : ∀ x ∈ fillL l, ∃ y ∈ l, y.1 = x.1 := fun x hx => (has_fill ord l x.1).1 (has_of ord hup hx)
  obtain ⟨L, hL⟩ : ∃ L, fillL l = L := ⟨_, rfl⟩
  rw [hL] at ht2 hup hlen hmem hln hhas hkeys
  obtain ⟨len, hlq⟩ : ∃ n, l.length = n := ⟨_, rfl⟩
  have HL := Lib.hid hlq
  rw [hlq] at hsm hbig' ⊢
  have HA2 := Lib.hid fun (w : World) (f : Lo w1.heap.size w2 w) => (HA1.out.fr f2).lo f
  have hB1 := f2.size
  obtain ⟨B, hB⟩ : ∃ B, w1.heap.size = B := ⟨_, rfl⟩
  have hBW : W.heap.size ≤ B := by rw [← hB]; exact f1.size
  rw [hB] at ht2 hB1 HA2
  have FF := Lib.hid F2; have HUP := Lib.hid hup; have HMEM := Lib.hid hmem; have HHAS := Lib.hid hhas; have HKEYS := Lib.hid hkeys; have HLN := Lib.hid hln; have HLEN := Lib.hid hlen
  have T2 := Lib.hid ht2
  clear f1 f2 F2 HA HA1 hB hL hup hmem hhas hkeys hlq hln hlen ht2
  go_wp2_with fail
  go_loopw [5, 6] (fun m i wr => ∃ (k n : Nat), k ≤ len ∧ i = .int .i64 k ∧ m = .int .i64 n ∧ n + (lastL (l.drop k)).length = L.length ∧ Fr [] w2 wr) (fun _ i _ => len - (intOf i).toNat)
  case atStart => exact ⟨0, 0, Nat.zero_le _, rfl, rfl, by rw [List.drop_zero, HLN.out]; omega, Fr.refl _ _⟩
  case round =>
    obtain ⟨i, n, hi, rfl, rfl, hn, fr⟩ := hrel
    by_cases hlt : i < len
    · obtain ⟨⟨a, v⟩, hget⟩ : ∃ o, l[i]? = some o := ⟨_, List.getElem?_eq_getElem (by have := HL.out; omega)⟩
      obtain ⟨b, f, rfl, hb, c0, c1⟩ := HA2.out wr (Lo.of_fr fr) i _ hget
      dsimp only at c0 c1
      have hlt' : (i : Int) < (len : Int) := by omega
      have hbl := World.block_lt_of_cell? wr _ c0
      have HG := Lib.hid hget; have HN := Lib.hid hn; have FR := Lib.hid fr
      clear hget hn fr hb
      obtain ⟨w3, rfl⟩ : ∃ x, x = wr := ⟨_, rfl⟩
      go_wp2_with fail
      go_loopw [7, 8, 9] (fun s7 s8 s9 wq => ∃ (j d : Nat), i + 1 ≤ j ∧ j ≤ len ∧ s9 = .int .i64 j ∧ s7 = .int .i64 (lastF a v ((l.drop (i + 1)).take (j - (i + 1)))) ∧ s8 = .bool (anyK a ((l.drop (i + 1)).take (j - (i + 1)))) ∧ wq = w3.drewN d) (fun _ _ s9 _ => len - (intOf s9).toNat)
      case atStart => exact ⟨i + 1, 0, Nat.le_refl _, by omega, by go_num, by simp [lastF], by simp [anyK], rfl⟩
      case round =>
        obtain ⟨j, d, hij, hj, rfl, rfl, rfl, rfl⟩ := hrel
        obtain ⟨sg, hsg⟩ : ∃ s, (l.drop (i + 1)).take (j - (i + 1)) = s := ⟨_, rfl⟩
        rw [hsg]
        by_cases hjl : j < len
        · obtain ⟨⟨a', v'⟩, hget'⟩ : ∃ o, l[j]? = some o := ⟨_, List.getElem?_eq_getElem (by have := HL.out; omega)⟩
          obtain ⟨b', f', hbf, hb', d0, d1⟩ := HA2.out w3 (Lo.of_fr FR.out) j _ hget'
          simp only [Option.some.injEq, Addr.mk.injEq, and_true] at hbf
          obtain ⟨rfl, rfl⟩ := hbf
          dsimp only at d0 d1
          have hj0 : (0 : Int) ≤ (j : Int) := by omega
          have hi0 : (0 : Int) ≤ (i : Int) := by omega
          have hjl' : (j : Int) < (len : Int) := by omega
          have hsn := seg_snoc hij hget'
          have HSN := Lib.hid (lastF_snoc a v sg (a', v'))
          have HAN := Lib.hid (anyK_snoc a sg (a', v'))
          rw [hsg] at hsn
          have HSG := Lib.hid hsn
          clear hget' hsg hsn
          generalize lastF a v sg = la at HSN ⊢
          generalize anyK a sg = ak at HAN ⊢
          by_cases he : a' = a
          · rw [if_pos he] at HSN
            rw [decide_eq_true he, Bool.or_true] at HAN
            have HE := Lib.hid he
            subst he
            go_wp2
            go_quiet (fail)
            go_wp2
            go_roundw
            case rel => exact ⟨j + 1, _, by omega, by omega, by go_num, by rw [HSG.out, HSN.out], by rw [HSG.out, HAN.out], rfl⟩
            case measure => simp [intOf]; omega
          · rw [if_neg he] at HSN
            rw [decide_eq_false he, Bool.or_false] at HAN
            go_wp2
            go_quiet (fail)
            go_wp2
            go_roundw
            case rel => exact ⟨j + 1, _, by omega, by omega, by go_num, by rw [HSG.out, HSN.out], by rw [HSG.out, HAN.out], rfl⟩
            case measure => simp [intOf]; omega
        · obtain rfl : j = len := by omega
          have hsg' : sg = l.drop (i + 1) := by rw [← hsg, List.take_of_length_le]; rw [List.length_drop, HL.out]; exact Nat.le_refl _
          subst hsg'
          clear hsg
          obtain ⟨r1, r2⟩ := last_round HG.out
          dsimp only at r1 r2
          have hgot : got L a = lastF a v (l.drop (i + 1)) := got_of HUP.out ((HMEM.out _).2 r1)
          have hh : has lt L a = true := HHAS.out (a, v) (List.mem_of_getElem? HG.out)
          have F3 := FR.out.drewN d
          have t3 := T2.out.fr F3
          have HGET := Lib.hid (get_any B (w3.drewN d) p L a (by have := HLEN.out; omega) t3)
          rw [hgot, hh] at HGET
          have HQ := Lib.hid r2
          generalize lastF a v (l.drop (i + 1)) = la at HGET ⊢
          obtain ⟨ak, hak⟩ : ∃ x, anyK a (l.drop (i + 1)) = x := ⟨_, rfl⟩
          rw [hak] at HQ ⊢
          have HF3 := Lib.hid F3
          have e0 : (w3.drewN d).cell? ⟨b, f + i * 2, none⟩ = some (.int .i64 a) := c0
          simp only [kv, vv] at HGET
          have hni : (n : Int) + 1 < 9223372036854775807 := by have := HN.out; have := HLEN.out; omega
          clear r1 r2 hgot hh F3 t3 hak
          cases ak with
          | true =>
            go_wp2_with fail
            refine HGET.out.mono ?_
            rintro en w4 ⟨rfl, f4⟩
            go_wp2_with fail
            go_roundw
            case rel => exact ⟨i + 1, n, by omega, by go_num, rfl, by have := HN.out; have := HQ.out; simp only [if_true] at this; omega, HF3.out.trans f4⟩
            case measure => simp [intOf]; omega
          | false =>
            go_wp2_with fail
            refine HGET.out.mono ?_
            rintro en w4 ⟨rfl, f4⟩
            go_wp2_with fail
            go_roundw
            case rel => exact ⟨i + 1, n + 1, by omega, by go_num, by go_num, by have := HN.out; have := HQ.out; simp only [Bool.false_eq_true, if_false] at this; omega, HF3.out.trans f4⟩
            case measure => simp [intOf]; omega
    · obtain rfl : i = len := by omega
      have hn0 : n = L.length := by
        have hd : l.drop i = [] := List.drop_eq_nil_of_le (by rw [HL.out]; exact Nat.le_refl _)
        rw [hd] at hn
        simpa [lastL] using hn
      subst hn0
      have HLEN2 := Lib.hid (len_any B wr p L (T2.out.fr fr))
      have FR := Lib.hid fr
      clear hn fr
      obtain ⟨w3, rfl⟩ : ∃ x, x = wr := ⟨_, rfl⟩
      obtain ⟨n, hnn⟩ : ∃ n, L.length = n := ⟨_, rfl⟩
      rw [hnn] at HLEN2 ⊢
      clear hnn
      go_wp2_with fail
      refine HLEN2.out.mono ?_
      rintro en w4 ⟨rfl, rfl⟩
      go_wp2_with fail
      go_loopw [12] (fun s12 wq => ∃ (j : Nat) (M : List (Int × Int)), j ≤ i ∧ s12 = .int .i64 j ∧ TabAt B wq p M ∧ Lo B w2 wq ∧ M.length ≤ 60 ∧ ∀ x ∈ M, x ∈ L ∧ ∀ y ∈ l.take j, y.1 ≠ x.1) (fun s12 _ => i - (intOf s12).toNat)
      case atStart => exact ⟨0, L, Nat.zero_le _, rfl, T2.out.fr FR.out, Lo.of_fr FR.out, HLEN.out, fun x hx => ⟨hx, by simp⟩⟩
      case round =>
        obtain ⟨j, M, hj, rfl, ht, hlo, hml, hm⟩ := hrel
        by_cases hjl : j < i
        · obtain ⟨⟨a, v⟩, hget⟩ : ∃ o, l[j]? = some o := ⟨_, List.getElem?_eq_getElem (by have := HL.out; omega)⟩
          obtain ⟨b, f, rfl, hb, d0, -⟩ := HA2.out wr hlo j _ hget
          dsimp only at d0
          have hjl' : (j : Int) < (i : Int) := by omega
          have hst : ∀ x ∈ drp M a, x ∈ L ∧ ∀ y ∈ l.take (j + 1), y.1 ≠ x.1 := fun x hx => by
            obtain ⟨h1, h2⟩ := (mem_drp ord ht.up a x).1 hx
            refine ⟨(hm x h1).1, fun y hy => ?_⟩
            rw [List.take_add_one, hget] at hy
            rcases List.mem_append.1 hy with h | h
            · exact (hm x h1).2 y h
            · simp at h; subst h; exact fun e => h2 e.symm
          have hhd : has lt (drp M a) a = false := has_drp ord ht.up a
          have hdl : (drp M a).length ≤ 60 := by
            have := len_drpG (lt := lt) M a
            rw [drp_eq, this]; split <;> omega
          have HD := Lib.hid (drop_any B wr p M a (by omega) ht)
          have HG := Lib.hid fun (w : World) (t : TabAt B w p (drp M a)) => get_any B w p (drp M a) a (by omega) t
          rw [hhd] at HG
          have HST := Lib.hid hst
          have HLO := Lib.hid hlo
          have HDL := Lib.hid hdl
          obtain ⟨hb1, hhb⟩ : ∃ x, has lt M a = x := ⟨_, rfl⟩
          rw [hhb] at HD
          generalize vv (got (drp M a) a) = gv at HG
          simp only [kv] at HD HG
          clear hst hhd hm ht hlo hget hml hdl hhb
          generalize drp M a = M' at HD HG HST HDL
          go_wp2_with fail
          refine HD.out.mono ?_
          rintro en w5 ⟨rfl, t5, l5⟩
          have d1 := l5.cell d0 hb
          have HT5 := Lib.hid t5
          have HL5 := Lib.hid (HLO.out.trans l5)
          have HG5 := Lib.hid (HG.out w5 t5)
          clear t5 l5
          go_wp2_with fail
          refine HG5.out.mono ?_
          rintro en w6 ⟨rfl, f6⟩
          go_wp2_with fail
          go_roundw
          case rel => exact ⟨j + 1, M', by omega, by go_num, HT5.out.fr f6, HL5.out.trans (Lo.of_fr f6), HDL.out, HST.out⟩
          case measure => simp [intOf]; omega
        · obtain rfl : j = i := by omega
          have hM : M = [] := by
            cases M with
            | nil => rfl
            | cons x M =>
              obtain ⟨h1, h2⟩ := hm x (List.mem_cons_self ..)
              obtain ⟨y, hy, e⟩ := HKEYS.out x h1
              exact absurd e (h2 y (by rw [List.take_of_length_le (by rw [HL.out]; exact Nat.le_refl _)]; exact hy))
          subst hM
          have HQ := Lib.hid (len_any B wr p [] ht)
          have FIN := Lib.hid (((Lo.of_fr (B := B) FF.out).trans hlo).fr hBW)
          clear hm ht hlo hml
          simp only [List.length_nil] at HQ
          go_wp2_with fail
          refine HQ.out.mono ?_
          rintro en w5 ⟨rfl, rfl⟩
          go_wp2_with fail
          go_ret
          exact ⟨rfl, FIN.out⟩

end Go.Proofs.Ytamnmpcnhaeigaa.TabI

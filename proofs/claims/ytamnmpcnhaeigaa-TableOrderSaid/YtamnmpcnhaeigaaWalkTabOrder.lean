/- TableOrder: the walk. -/
import Derived.Test.YtamnmpcnhaeigaaTabSm
import Derived.Test.YtamnmpcnhaeigaaTabZO
namespace Go.Proofs.Ytamnmpcnhaeigaa.TabI
open Go.RowKit
set_option linter.unusedVariables false

/-- What has come: the last ones first; no key twice among the first i. -/
def OrdInv (W : World) (l : List (Int × Int)) (i : Nat) (v : Value) (w : World) : Prop :=
  w.ownsRow W.heap.size 25 2 v i (flat (l.reverse.take i)) ∧ Fr [] W w ∧ ∀ (j k : Nat) (x y : Int × Int), j < k → k < i → l[j]? = some x → l[k]? = some y → x.1 ≠ y.1

set_option maxHeartbeats 4000000 in
set_option maxRecDepth 100000 in
theorem order_walk (W : World) (g : Option Addr) (c : Nat) (l : List (Int × Int)) (hA : PairsAt W.heap.size W g l) :
    Calls Try.prog 3 #[.slice g l.length c] W fun e w' => e = .returned (.bool true) ∧ Fr [] W w' := by
  have HA := Lib.hid fun (w : World) (f : Fr [] W w) => hA.fr f
  by_cases hbig : 60 < l.length
  · have hbig' : (60 : Int) < (l.length : Int) := by omega
    clear hA
    go_enter Try.func3, Try.ntmps3
    go_wp2_with fail
    refine (TabW.awake_any W).mono ?_
    rintro e w1 ⟨rfl, f1⟩
    go_wp2_with fail
    go_ret
    exact ⟨rfl, f1⟩
  have hsm : l.length ≤ 60 := by omega
  have hbig' : ¬ (60 : Int) < (l.length : Int) := by omega
  obtain ⟨i0, hi0, hz0, hz1, hz2⟩ := info_parts pair_info
  clear hA
  obtain ⟨len, hlq⟩ : ∃ n, l.length = n := ⟨_, rfl⟩
  have HL := Lib.hid hlq
  rw [hlq] at hsm hbig' ⊢
  clear hlq
  go_enter Try.func3, Try.ntmps3
  go_wp2_with fail
  refine (TabW.awake_any W).mono ?_
  rintro e w1 ⟨rfl, f1⟩
  go_wp2_with fail
  go_loopw [4, 5] (fun s4 s5 wr => ∃ (i : Nat), i ≤ len ∧ s5 = .int .i64 i ∧ OrdInv W l i s4 wr) (fun _ s5 _ => len - (intOf s5).toNat)
  case atStart => exact ⟨0, Nat.zero_le _, rfl, World.ownsRow_nil _ _ _ _, f1, fun j k x y _ h => absurd h (Nat.not_lt_zero _)⟩
  case round =>
    obtain ⟨i, hi, rfl, hown, fr, hun⟩ := hrel
    by_cases hlt : i < len
    · obtain ⟨m, hm⟩ : ∃ m, len = i + 1 + m := ⟨len - 1 - i, by omega⟩
      obtain ⟨⟨a, v⟩, hget⟩ : ∃ o, l[m]? = some o := ⟨_, List.getElem?_eq_getElem (by have := HL.out; omega)⟩
      obtain ⟨b, f, rfl, hb, c0, c1⟩ := HA.out wr fr m _ hget
      dsimp only at c0 c1
      have hlt' : (i : Int) < (len : Int) := by omega
      have hix : (len : Int) - 1 - (i : Int) = (m : Int) := by omega
      have hrev : l.reverse.take (i + 1) = l.reverse.take i ++ [(a, v)] := by
        rw [List.take_add_one, List.getElem?_reverse (by have := HL.out; omega), show l.length - 1 - i = m by have := HL.out; omega, hget]; rfl
      have HR := Lib.hid hrev
      obtain ⟨w3, rfl⟩ : ∃ x, x = wr := ⟨_, rfl⟩
      have HO := Lib.hid hown
      have FR := Lib.hid fr
      have HUN := Lib.hid hun
      clear hget hrev fr hown hun hb
      have hml : m < len := by omega
      have hsz := FR.out.size
      have HM := Lib.hid hm
      clear hm
      go_wp2_with (first
        | (at_builtin; refine wpList_append_own _ rfl _ _ 22 rfl W.heap.size 25 i0 (.agg #[.int .i64 0, .int .i64 0]) 2 16 Try.underlying22 hi0 hz0 hz1 hz2 rfl (by decide) _ i _ rfl (HO.out.alloc _) ⟨w3.heap.size, 0, none⟩ 1 1 [.int .i64 a, .int .i64 v] rfl rfl (World.news_of_block (heap_alloc_new w3 _)) (by intro u hu; simp at hu; rcases hu with rfl | rfl <;> rfl) (by unfold maxLen; omega) (by omega) (by rw [World.size_alloc]; omega) ?_)
        | fail)
      intro v7 w4 hown4 hgrow4 _
      have F4 : Fr [] W w4 := (FR.out.alloc _).grown hgrow4 (fun k hk => .inr ((HO.out.lt k hk).1))
      have HO4 := Lib.hid (show w4.ownsRow W.heap.size 25 2 v7 (i + 1) (flat (l.reverse.take (i + 1))) from by rw [HR.out, flat_append]; exact hown4)
      have HF4 := Lib.hid F4
      clear hown4 hgrow4 F4 HO HR FR c0 c1 hsz
      go_wp2_with fail
      go_loopw [6] (fun s6 wq => ∃ (k d : Nat), k ≤ i ∧ s6 = .int .i64 k ∧ wq = w4.drewN d ∧ ∀ (j : Nat) (x y : Int × Int), j < k → l[j]? = some x → l[i]? = some y → x.1 ≠ y.1) (fun s6 _ => i - (intOf s6).toNat)
      case atStart => exact ⟨0, 0, Nat.zero_le _, rfl, rfl, fun j x y h => absurd h (Nat.not_lt_zero _)⟩
      case round =>
        obtain ⟨k, d, hk, rfl, rfl, hno⟩ := hrel
        by_cases hki : k < i
        · obtain ⟨⟨a1, v1⟩, hg1⟩ : ∃ o, l[k]? = some o := ⟨_, List.getElem?_eq_getElem (by have := HL.out; omega)⟩
          obtain ⟨⟨a2, v2⟩, hg2⟩ : ∃ o, l[i]? = some o := ⟨_, List.getElem?_eq_getElem (by have := HL.out; omega)⟩
          obtain ⟨b1, f1', hbf1, _, d0, _⟩ := HA.out w4 HF4.out k _ hg1
          obtain ⟨b2, f2', hbf2, _, e0, _⟩ := HA.out w4 HF4.out i _ hg2
          simp only [Option.some.injEq, Addr.mk.injEq, and_true] at hbf1 hbf2
          obtain ⟨rfl, rfl⟩ := hbf1
          obtain ⟨rfl, rfl⟩ := hbf2
          dsimp only at d0 e0
          have hki' : (k : Int) < (i : Int) := by omega
          have hk0 : (0 : Int) ≤ (k : Int) := by omega
          have hi0' : (0 : Int) ≤ (i : Int) := by omega
          have hkl : k < len := by omega
          have HG1 := Lib.hid hg1; have HG2 := Lib.hid hg2; have HNO := Lib.hid hno
          clear hg1 hg2 hno
          by_cases he : a1 = a2
          · subst he
            go_wp2
            go_quiet (fail)
            go_wp2
            go_ret
            exact ⟨rfl, (HF4.out.drewN d).drewN _⟩
          · have HE := Lib.hid he
            go_wp2
            go_quiet (fail)
            go_wp2
            go_roundw
            case rel => exact ⟨k + 1, _, by omega, by go_num, rfl, fun j x y hj hx hy => by
              rcases Nat.lt_or_ge j k with h | h
              · exact HNO.out j x y h hx hy
              · obtain rfl : j = k := by omega
                have h1 := HG1.out; have h2 := HG2.out
                rw [hx] at h1; rw [hy] at h2
                cases h1; cases h2
                exact HE.out⟩
            case measure => simp [intOf]; omega
        · obtain rfl : k = i := by omega
          have hun : ∀ (j j' : Nat) (x y : Int × Int), j < j' → j' < k + 1 → l[j]? = some x → l[j']? = some y → x.1 ≠ y.1 := fun j j' x y h1 h2 hx hy => by
            rcases Nat.lt_or_ge j' k with h | h
            · exact HUN.out j j' x y h1 h hx hy
            · obtain rfl : j' = k := by omega
              exact hno j x y h1 hx hy
          have HUN2 := Lib.hid hun
          have HO5 := Lib.hid (show (w4.drewN d).ownsRow W.heap.size 25 2 v7 (k + 1) (flat (l.reverse.take (k + 1))) from HO4.out)
          have HF5 := Lib.hid (HF4.out.drewN d)
          clear hun hno
          go_wp2
          go_roundw
          case rel => exact ⟨k + 1, by omega, by go_num, HO5.out, HF5.out, HUN2.out⟩
          case measure => simp [intOf]; omega
    · obtain rfl : i = len := by omega
      have hunl : Unlike l := Unlike.of fun j k x y h hx hy => hun j k x y h (by have := (List.getElem?_eq_some_iff.1 hy).1; have := HL.out; omega) hx hy
      have hown' : wr.ownsRow W.heap.size 25 2 u4 l.reverse.length (flat l.reverse) := by
        have e : l.reverse.take i = l.reverse := List.take_of_length_le (by rw [List.length_reverse, HL.out]; exact Nat.le_refl _)
        rw [e] at hown
        rw [List.length_reverse, HL.out]; exact hown
      obtain ⟨gb, cb, rfl, hbk, _⟩ := own_pairs hown'
      rw [List.length_reverse, HL.out]
      have HBK := Lib.hid hbk
      have HUL := Lib.hid hunl
      have FR := Lib.hid fr
      clear hown hown' hun hunl hbk fr
      obtain ⟨w3, rfl⟩ : ∃ x, x = wr := ⟨_, rfl⟩
      have hsm' : l.length ≤ 60 := by rw [HL.out]; exact hsm
      have HFL := Lib.hid (filled_any w3 g c l hsm' ((HA.out w3 FR.out).up FR.out.size))
      rw [HL.out] at HFL
      clear hsm'
      go_wp2_with fail
      refine HFL.out.mono ?_
      rintro en w4 ⟨p, rfl, t4, f4⟩
      have HFB := Lib.hid (filled_any w4 gb cb l.reverse (by rw [List.length_reverse, HL.out]; exact hsm) ((HBK.out.fr f4).up f4.size))
      rw [List.length_reverse, HL.out] at HFB
      have HT4 := Lib.hid t4
      have HF4 := Lib.hid (FR.out.trans f4)
      clear t4 f4 HFL
      go_wp2_with fail
      refine HFB.out.mono ?_
      rintro en w5 ⟨q, rfl, t5, f5⟩
      have hfe : fillL l.reverse = fillL l := fill_rev ord HUL.out
      rw [hfe] at t5
      have HT5 := Lib.hid (HT4.out.fr f5)
      have HU5 := Lib.hid t5
      have HF5 := Lib.hid (HF4.out.trans f5)
      have hmem : ∀ x, x ∈ fillL l ↔ x ∈ l := fun x => fill_mem ord HUL.out x
      have hlen : (fillL l).length = i := by rw [fill_eq, fill_len ord HUL.out, HL.out]
      have hup : Rising lt (fillL l) := HT4.out.up
      have HMEM := Lib.hid hmem; have HLEN := Lib.hid hlen; have HUP := Lib.hid hup
      clear t5 f5 hfe hmem hlen hup HFB HT4 HF4 HBK
      generalize fillL l = L at HT5 HU5 HMEM HLEN HUP
      obtain ⟨B1, hB1⟩ : ∃ B, w3.heap.size = B := ⟨_, rfl⟩
      obtain ⟨B2, hB2⟩ : ∃ B, w4.heap.size = B := ⟨_, rfl⟩
      rw [hB1] at HT5
      rw [hB2] at HU5
      clear hB1 hB2 FR
      go_wp2_with fail
      go_loopw [9] (fun s9 wq => ∃ (k : Nat), k ≤ i ∧ s9 = .int .i64 k ∧ Fr [] w5 wq) (fun s9 _ => i - (intOf s9).toNat)
      case atStart => exact ⟨0, Nat.zero_le _, rfl, Fr.refl _ _⟩
      case round =>
        obtain ⟨k, hk, rfl, fr⟩ := hrel
        by_cases hki : k < i
        · obtain ⟨⟨a1, v1⟩, hg1⟩ : ∃ o, l[k]? = some o := ⟨_, List.getElem?_eq_getElem (by have := HL.out; omega)⟩
          obtain ⟨b1, f1', rfl, hb1, d0, d1⟩ := HA.out wr (HF5.out.trans fr) k _ hg1
          dsimp only at d0 d1
          have hx := (HMEM.out _).2 (List.mem_of_getElem? hg1)
          have h1 : got L a1 = v1 := got_of HUP.out hx
          have h2 : has lt L a1 = true := has_of ord HUP.out hx
          have HG := Lib.hid (get_any B1 wr p L a1 (by rw [HLEN.out]; omega) (HT5.out.fr fr))
          rw [h1, h2] at HG
          simp only [kv, vv] at HG
          have hki' : (k : Int) < (i : Int) := by omega
          have FR := Lib.hid fr
          clear hg1 hx h1 h2 fr hb1
          obtain ⟨w6, rfl⟩ : ∃ x, x = wr := ⟨_, rfl⟩
          go_wp2_with fail
          refine HG.out.mono ?_
          rintro en w7 ⟨rfl, f7⟩
          have e1 := f7.cell d1 (by simp)
          go_wp2_with fail
          go_roundw
          case rel => exact ⟨k + 1, by omega, by go_num, FR.out.trans f7⟩
          case measure => simp [intOf]; omega
        · obtain rfl : k = i := by omega
          have hF6 := HF5.out.trans fr
          have HF6 := Lib.hid hF6
          have HAL := Lib.hid (all_tab B1 wr p L (by rw [HLEN.out]; exact hsm) (HT5.out.fr fr))
          have HU6 := Lib.hid (HU5.out.fr fr)
          obtain ⟨w6, rfl⟩ : ∃ x, x = wr := ⟨_, rfl⟩
          clear fr hF6
          go_wp2_with fail
          refine HAL.out.mono ?_
          rintro en w7 ⟨ga, ca, rfl, hla, f7⟩
          rw [HLEN.out]
          have HLA := Lib.hid hla.1
          have HF7 := Lib.hid (HF6.out.trans f7)
          have HU7 := Lib.hid (HU6.out.fr f7)
          clear hla f7
          go_wp2_with fail
          go_loopw [13] (fun s13 wq => ∃ (m d : Nat), 1 ≤ m ∧ (m ≤ k ∨ m = 1) ∧ s13 = .int .i64 m ∧ wq = w7.drewN d) (fun s13 _ => k - (intOf s13).toNat)
          case atStart => exact ⟨1, 0, Nat.le_refl _, .inr rfl, rfl, rfl⟩
          case round =>
            obtain ⟨m, d, hm1, hmk, rfl, rfl⟩ := hrel
            by_cases hmk' : m < k
            · obtain ⟨m', rfl⟩ : ∃ m', m = m' + 1 := ⟨m - 1, by omega⟩
              obtain ⟨⟨a1, v1⟩, hg1⟩ : ∃ o, L[m' + 1]? = some o := ⟨_, List.getElem?_eq_getElem (by have := HLEN.out; omega)⟩
              obtain ⟨⟨a2, v2⟩, hg2⟩ : ∃ o, L[m']? = some o := ⟨_, List.getElem?_eq_getElem (by have := HLEN.out; omega)⟩
              have hri : ltI a2 a1 = true := HUP.out m' (m' + 1) _ _ (by omega) hg2 hg1
              have hri2 : a2 < a1 := by simpa [ltI] using hri
              obtain ⟨b1, f1', rfl, hb1, d0, _⟩ := HLA.out (m' + 1) _ hg1
              obtain ⟨b2, f2', hbf2, _, e0, _⟩ := HLA.out m' _ hg2
              simp only [Option.some.injEq, Addr.mk.injEq, and_true] at hbf2
              obtain ⟨rfl, rfl⟩ := hbf2
              dsimp only at d0 e0
              have hmi : ((m' : Int) + 1) < (k : Int) := by omega
              have hm0 : (0 : Int) ≤ (m' : Int) + 1 := by omega
              have hm00 : (0 : Int) ≤ (m' : Int) := by omega
              have hm2 : m' < k := by omega
              have hle : ¬ a1 ≤ a2 := by omega
              clear hg1 hg2 hri hri2 hb1
              go_wp2
              go_quiet (fail)
              go_wp2
              go_roundw
              case rel => exact ⟨m' + 1 + 1, _, by omega, by omega, by go_num, rfl⟩
              case measure => simp [intOf]; omega
            · have hmi : ¬ ((m : Int) < (k : Int)) := by omega
              have HF8 := Lib.hid (HF7.out.drewN d)
              have HLA8 := Lib.hid (show PairsAt w7.heap.size (w7.drewN d) ga L from HLA.out)
              have HAQ := Lib.hid (all_tab B2 (w7.drewN d) q L (by rw [HLEN.out]; exact hsm) (HU7.out.fr ((Fr.refl [] w7).drewN d)))
              go_wp2_with fail
              refine HAQ.out.mono ?_
              rintro en w8 ⟨gc, cc, rfl, hlc, f8⟩
              have HSM := Lib.hid (same_any w8 ga gc ca cc L (by rw [HLEN.out]; omega) (HLA8.out.fr f8) hlc.1)
              have HF9 := Lib.hid (HF8.out.trans f8)
              rw [HLEN.out] at HSM ⊢
              clear hlc f8
              go_wp2_with fail
              refine HSM.out.mono ?_
              rintro en w9 ⟨rfl, f9⟩
              go_wp2_with fail
              go_ret
              exact ⟨rfl, HF9.out.trans f9⟩

end Go.Proofs.Ytamnmpcnhaeigaa.TabI

/- The document's entries of bytes (coachhouseref13.Decode). -/
import Derived.Test.YtphnjgkaapfocaaEntD
namespace Go.Proofs.Ytphnjgkaapfocaa
open Go.RowKit

theorem addw (a n : Nat) (i : Int) (h : a + 12 ≤ n) (hn : n ≤ 12000) (h0 : 0 ≤ i) (h1 : i < 12) : IntKind.i64.wrap ((a : Int) + i) = (a : Int) + i := by rw [IntKind.wrap_i64]; omega
theorem addp (a : Nat) (i : Int) (h0 : 0 ≤ i) : 0 ≤ (a : Int) + i := by omega
theorem addl (a n : Nat) (i : Int) (h : a + 12 ≤ n) (h1 : i < 12) : (a : Int) + i < (n : Int) := by omega
theorem addt (a i : Nat) : ((a : Int) + (i : Int)).toNat = a + i := by omega
theorem mulw (y : Int) (h0 : 0 ≤ y) (h1 : y ≤ 255) : IntKind.i64.wrap (256 * y) = 256 * y := by rw [IntKind.wrap_i64]; omega
theorem summw (x y : Int) (h0 : 0 ≤ x) (h1 : x ≤ 255) (h2 : 0 ≤ y) (h3 : y ≤ 255) : IntKind.i64.wrap (x + 256 * y) = x + 256 * y := by rw [IntKind.wrap_i64]; omega
theorem tbits_n : ∀ n : Nat, n < 256 → ((IntKind.i64.wrap ((n : Int).tdiv 4)).tmod 2 == 1) = decide ((n : Int) / 4 % 2 = 1) ∧ ((IntKind.i64.wrap ((n : Int).tdiv 2)).tmod 2 == 1) = decide ((n : Int) / 2 % 2 = 1) ∧ ((n : Int).tmod 2 == 1) = decide ((n : Int) % 2 = 1) := by decide +kernel
theorem goodw (z : Int) (h0 : 0 ≤ z) (h1 : z ≤ 255) : ((IntKind.i64.wrap (z.tdiv 4)).tmod 2 == 1) = decide (z / 4 % 2 = 1) := by have := (tbits_n z.toNat (by omega)).1; rwa [Int.toNat_of_nonneg h0] at this
theorem forcew (z : Int) (h0 : 0 ≤ z) (h1 : z ≤ 255) : ((IntKind.i64.wrap (z.tdiv 2)).tmod 2 == 1) = decide (z / 2 % 2 = 1) := by have := (tbits_n z.toNat (by omega)).2.1; rwa [Int.toNat_of_nonneg h0] at this
theorem waitw (z : Int) (h0 : 0 ≤ z) (h1 : z ≤ 255) : (z.tmod 2 == 1) = decide (z % 2 = 1) := by have := (tbits_n z.toNat (by omega)).2.2; rwa [Int.toNat_of_nonneg h0] at this
theorem dec_of_own {w w' : World} {base m : Nat} {v : Value} {B : List Int} (f : Fr [] w w') (h12 : B.length = 12 * m) (hm : m ≤ 1000) (hok : ∀ k, k < m → okB B k) (ho : OwnE base w' v (entsB B m)) : DecPost w B (.returned (.tuple #[v, .int .i64 0])) w' := by
  have hdiv : B.length / 12 = m := by omega
  have hmod : B.length % 12 = 0 := by omega
  obtain ⟨g', c', hv, he, hc'⟩ := ho.ents
  rw [length_entsB] at hv hc'
  subst hv
  exact ⟨f, .inr (.inr (.inr ⟨hmod, by omega, by rw [hdiv]; exact hok, g', c', by rw [hdiv], by rw [hdiv]; exact he, by rw [hdiv]; exact hc'⟩))⟩

set_option maxHeartbeats 16000000 in
set_option maxRecDepth 100000 in
theorem ref_decode_any (w : World) (g : Option Addr) (c : Nat) (B : List Int) (ha : BytsAt w g B) :
    Calls Try.prog 15 #[.slice g B.length c] w (DecPost w B) := by
  obtain ⟨i0, hi, hz0, hz1, hz2⟩ := info_parts ent_info
  obtain ⟨n, hn⟩ : ∃ n, n = B.length := ⟨_, rfl⟩
  have hl := ha.1
  rw [← hn] at hl ⊢
  have HA := Lib.hid ha; have HN := Lib.hid hn; clear ha hn
  by_cases h12 : (n : Int) % 12 = 0
  · by_cases hlong : (1000 : Int) < (n : Int) / 12
    · have HP := Lib.hid (show DecPost w B (.returned (.tuple #[.slice none 0 0, .int .i64 13])) w from ⟨Fr.refl _ _, .inr (.inl ⟨by have := HN.out; omega, by have := HN.out; omega, rfl⟩)⟩)
      go_enter Try.func15, Try.ntmps15
      go_wp2
      go_ret2
      exact HP.out
    · obtain ⟨m, hm⟩ : ∃ m : Nat, n = 12 * m := ⟨n / 12, by omega⟩
      have hm1 : m ≤ 1000 := by omega
      have hn2 : n ≤ 12000 := by omega
      have HM := Lib.hid hm; clear hm
      go_enter Try.func15, Try.ntmps15
      go_wp2
      go_loopw [5, 4] (fun i v wr => ∃ k a : Nat, k ≤ m ∧ a = 12 * k ∧ i = .int .i64 (a : Int) ∧ OwnE w.heap.size wr v (entsB B k) ∧ (∀ j, j < k → okB B j) ∧ Fr [] w wr) (fun i _ _ => n - (intOf i).toNat)
      case atStart => exact ⟨0, 0, Nat.zero_le _, rfl, rfl, World.ownsRow_nil _ _ _ _, fun j hj => by omega, Fr.refl _ _⟩
      case round =>
        obtain ⟨k, a, hk, hak, rfl, hown, hok, F⟩ := hrel
        have HO := Lib.hid hown; have HK := Lib.hid hok; have HAK := Lib.hid hak; clear hown hok hak
        by_cases hlt : k < m
        · obtain ⟨b, o, rfl, hc⟩ := HA.out.base (by intro e; rw [e] at HN; have := HN.out; have := HM.out; simp at *; omega)
          have hlen12 : B.length = 12 * m := by rw [← HN.out]; exact HM.out
          have hby : ByAt wr b (o + a) (fun i => B.getD (12 * k + i) 0) := by rw [HAK.out]; exact byAt_of hlt hlen12 (fun j x hx => F.cell (hc j x hx) (by simp))
          have hrg := fun i (_ : i < 12) => byte_of HA.out.2.1 (12 * k + i)
          obtain ⟨f, hf⟩ : ∃ f : Nat → Int, f = fun i => B.getD (12 * k + i) 0 := ⟨_, rfl⟩
          rw [← hf] at hby
          have hrf : ∀ i, i < 12 → 0 ≤ f i ∧ f i ≤ 255 := fun i hi => by rw [hf]; exact hrg i hi
          have hx : entB B k = ofB f := by rw [hf]; rfl
          have hB3 : B.getD (12 * k + 3) 0 = f 3 := by rw [hf]
          have q0 : wr.cell? ⟨b, o + a, none⟩ = some (.int .u8 (f 0)) := hby 0 (by omega)
          have q1 : wr.cell? ⟨b, o + (a + 1), none⟩ = some (.int .u8 (f 1)) := by have := hby 1 (by omega); rwa [Nat.add_assoc] at this
          have q2 : wr.cell? ⟨b, o + (a + 2), none⟩ = some (.int .u8 (f 2)) := by have := hby 2 (by omega); rwa [Nat.add_assoc] at this
          have q3 : wr.cell? ⟨b, o + (a + 3), none⟩ = some (.int .u8 (f 3)) := by have := hby 3 (by omega); rwa [Nat.add_assoc] at this
          have q4 : wr.cell? ⟨b, o + (a + 4), none⟩ = some (.int .u8 (f 4)) := by have := hby 4 (by omega); rwa [Nat.add_assoc] at this
          have q5 : wr.cell? ⟨b, o + (a + 5), none⟩ = some (.int .u8 (f 5)) := by have := hby 5 (by omega); rwa [Nat.add_assoc] at this
          have q6 : wr.cell? ⟨b, o + (a + 6), none⟩ = some (.int .u8 (f 6)) := by have := hby 6 (by omega); rwa [Nat.add_assoc] at this
          have q7 : wr.cell? ⟨b, o + (a + 7), none⟩ = some (.int .u8 (f 7)) := by have := hby 7 (by omega); rwa [Nat.add_assoc] at this
          have q8 : wr.cell? ⟨b, o + (a + 8), none⟩ = some (.int .u8 (f 8)) := by have := hby 8 (by omega); rwa [Nat.add_assoc] at this
          have q9 : wr.cell? ⟨b, o + (a + 9), none⟩ = some (.int .u8 (f 9)) := by have := hby 9 (by omega); rwa [Nat.add_assoc] at this
          have q10 : wr.cell? ⟨b, o + (a + 10), none⟩ = some (.int .u8 (f 10)) := by have := hby 10 (by omega); rwa [Nat.add_assoc] at this
          have q11 : wr.cell? ⟨b, o + (a + 11), none⟩ = some (.int .u8 (f 11)) := by have := hby 11 (by omega); rwa [Nat.add_assoc] at this
          obtain ⟨l0, h0⟩ := hrf 0 (by omega)
          obtain ⟨l1, h1⟩ := hrf 1 (by omega)
          obtain ⟨l2, h2⟩ := hrf 2 (by omega)
          obtain ⟨l3, h3⟩ := hrf 3 (by omega)
          obtain ⟨l4, h4⟩ := hrf 4 (by omega)
          obtain ⟨l5, h5⟩ := hrf 5 (by omega)
          obtain ⟨l6, h6⟩ := hrf 6 (by omega)
          obtain ⟨l7, h7⟩ := hrf 7 (by omega)
          obtain ⟨l8, h8⟩ := hrf 8 (by omega)
          obtain ⟨l9, h9⟩ := hrf 9 (by omega)
          obtain ⟨l10, h10⟩ := hrf 10 (by omega)
          obtain ⟨l11, h11⟩ := hrf 11 (by omega)
          have v0 : IntKind.i64.wrap (f 0) = f 0 := i64w _ l0 h0
          have v1 : IntKind.i64.wrap (f 1) = f 1 := i64w _ l1 h1
          have v2 : IntKind.i64.wrap (f 2) = f 2 := i64w _ l2 h2
          have v3 : IntKind.i64.wrap (f 3) = f 3 := i64w _ l3 h3
          have v4 : IntKind.i64.wrap (f 4) = f 4 := i64w _ l4 h4
          have v5 : IntKind.i64.wrap (f 5) = f 5 := i64w _ l5 h5
          have v6 : IntKind.i64.wrap (f 6) = f 6 := i64w _ l6 h6
          have v7 : IntKind.i64.wrap (f 7) = f 7 := i64w _ l7 h7
          have v8 : IntKind.i64.wrap (f 8) = f 8 := i64w _ l8 h8
          have v9 : IntKind.i64.wrap (f 9) = f 9 := i64w _ l9 h9
          have v10 : IntKind.i64.wrap (f 10) = f 10 := i64w _ l10 h10
          have v11 : IntKind.i64.wrap (f 11) = f 11 := i64w _ l11 h11
          have ha12 : a + 12 ≤ n := by have := HAK.out; have := HM.out; omega
          have hlt' : (a : Int) < (n : Int) := by omega
          have wi1 : IntKind.i64.wrap ((a : Int) + 1) = (a : Int) + 1 := addw a n 1 ha12 hn2 (by decide) (by decide)
          have ci1 : 0 ≤ (a : Int) + 1 := addp a 1 (by decide)
          have di1 : (a : Int) + 1 < (n : Int) := addl a n 1 ha12 (by decide)
          have ti1 : ((a : Int) + 1).toNat = a + 1 := addt a 1
          have wi2 : IntKind.i64.wrap ((a : Int) + 2) = (a : Int) + 2 := addw a n 2 ha12 hn2 (by decide) (by decide)
          have ci2 : 0 ≤ (a : Int) + 2 := addp a 2 (by decide)
          have di2 : (a : Int) + 2 < (n : Int) := addl a n 2 ha12 (by decide)
          have ti2 : ((a : Int) + 2).toNat = a + 2 := addt a 2
          have wi3 : IntKind.i64.wrap ((a : Int) + 3) = (a : Int) + 3 := addw a n 3 ha12 hn2 (by decide) (by decide)
          have ci3 : 0 ≤ (a : Int) + 3 := addp a 3 (by decide)
          have di3 : (a : Int) + 3 < (n : Int) := addl a n 3 ha12 (by decide)
          have ti3 : ((a : Int) + 3).toNat = a + 3 := addt a 3
          have wi4 : IntKind.i64.wrap ((a : Int) + 4) = (a : Int) + 4 := addw a n 4 ha12 hn2 (by decide) (by decide)
          have ci4 : 0 ≤ (a : Int) + 4 := addp a 4 (by decide)
          have di4 : (a : Int) + 4 < (n : Int) := addl a n 4 ha12 (by decide)
          have ti4 : ((a : Int) + 4).toNat = a + 4 := addt a 4
          have wi5 : IntKind.i64.wrap ((a : Int) + 5) = (a : Int) + 5 := addw a n 5 ha12 hn2 (by decide) (by decide)
          have ci5 : 0 ≤ (a : Int) + 5 := addp a 5 (by decide)
          have di5 : (a : Int) + 5 < (n : Int) := addl a n 5 ha12 (by decide)
          have ti5 : ((a : Int) + 5).toNat = a + 5 := addt a 5
          have wi6 : IntKind.i64.wrap ((a : Int) + 6) = (a : Int) + 6 := addw a n 6 ha12 hn2 (by decide) (by decide)
          have ci6 : 0 ≤ (a : Int) + 6 := addp a 6 (by decide)
          have di6 : (a : Int) + 6 < (n : Int) := addl a n 6 ha12 (by decide)
          have ti6 : ((a : Int) + 6).toNat = a + 6 := addt a 6
          have wi7 : IntKind.i64.wrap ((a : Int) + 7) = (a : Int) + 7 := addw a n 7 ha12 hn2 (by decide) (by decide)
          have ci7 : 0 ≤ (a : Int) + 7 := addp a 7 (by decide)
          have di7 : (a : Int) + 7 < (n : Int) := addl a n 7 ha12 (by decide)
          have ti7 : ((a : Int) + 7).toNat = a + 7 := addt a 7
          have wi8 : IntKind.i64.wrap ((a : Int) + 8) = (a : Int) + 8 := addw a n 8 ha12 hn2 (by decide) (by decide)
          have ci8 : 0 ≤ (a : Int) + 8 := addp a 8 (by decide)
          have di8 : (a : Int) + 8 < (n : Int) := addl a n 8 ha12 (by decide)
          have ti8 : ((a : Int) + 8).toNat = a + 8 := addt a 8
          have wi9 : IntKind.i64.wrap ((a : Int) + 9) = (a : Int) + 9 := addw a n 9 ha12 hn2 (by decide) (by decide)
          have ci9 : 0 ≤ (a : Int) + 9 := addp a 9 (by decide)
          have di9 : (a : Int) + 9 < (n : Int) := addl a n 9 ha12 (by decide)
          have ti9 : ((a : Int) + 9).toNat = a + 9 := addt a 9
          have wi10 : IntKind.i64.wrap ((a : Int) + 10) = (a : Int) + 10 := addw a n 10 ha12 hn2 (by decide) (by decide)
          have ci10 : 0 ≤ (a : Int) + 10 := addp a 10 (by decide)
          have di10 : (a : Int) + 10 < (n : Int) := addl a n 10 ha12 (by decide)
          have ti10 : ((a : Int) + 10).toNat = a + 10 := addt a 10
          have wi11 : IntKind.i64.wrap ((a : Int) + 11) = (a : Int) + 11 := addw a n 11 ha12 hn2 (by decide) (by decide)
          have ci11 : 0 ≤ (a : Int) + 11 := addp a 11 (by decide)
          have di11 : (a : Int) + 11 < (n : Int) := addl a n 11 ha12 (by decide)
          have ti11 : ((a : Int) + 11).toNat = a + 11 := addt a 11
          have mi11 : IntKind.i64.wrap (256 * f 11) = 256 * f 11 := mulw _ l11 h11
          have si11 : IntKind.i64.wrap (f 10 + 256 * f 11) = f 10 + 256 * f 11 := summw _ _ l10 h10 l11 h11
          have mi7 : IntKind.i64.wrap (256 * f 7) = 256 * f 7 := mulw _ l7 h7
          have si7 : IntKind.i64.wrap (f 6 + 256 * f 7) = f 6 + 256 * f 7 := summw _ _ l6 h6 l7 h7
          have mi9 : IntKind.i64.wrap (256 * f 9) = 256 * f 9 := mulw _ l9 h9
          have si9 : IntKind.i64.wrap (f 8 + 256 * f 9) = f 8 + 256 * f 9 := summw _ _ l8 h8 l9 h9
          have HX := Lib.hid hx; have H3 := Lib.hid hB3
          have hblt := World.block_lt_of_cell? wr _ q0
          simp only at hblt
          clear hrf hrg hf hby hc hlen12 hx hB3
          go_wp2_with fail
          refine wp_region_held_drew (S := fun w' => w'.cell? ⟨b, o + a, none⟩ = some (.int .u8 (f 0)) ∧ w'.cell? ⟨b, o + (a + 1), none⟩ = some (.int .u8 (f 1)) ∧ w'.cell? ⟨b, o + (a + 10), none⟩ = some (.int .u8 (f 10)) ∧ w'.cell? ⟨b, o + (a + 11), none⟩ = some (.int .u8 (f 11))) (by kernel_rfl) ⟨q0, q1, q10, q11⟩ (fun hHeld => ?_)
          refine wpAnyH_take (i := 0) (oi := _) (v := ?_) rfl (by kernel_rfl) (by kernel_rfl) (by kernel_rfl) (fun _ _ _ h => h) (Or.inl ⟨by rfl, ?_⟩) (by assumption) ?_
          rotate_left
          · intro w hSw
            try dsimp only at hSw
            try simp only [List.getElem_toArray, List.getElem_cons_zero]
            go_split_ands
            go_simp
            try with_reducible rfl
          try simp only [Act.put, List.getElem_toArray, List.getElem_cons_zero, List.setIfInBounds_toArray, List.set_cons_zero, List.set_cons_succ]
          refine wpAnyH_take (i := 1) (oi := _) (v := ?_) rfl (by kernel_rfl) (by kernel_rfl) (by kernel_rfl) (fun _ _ _ h => h) (Or.inl ⟨by rfl, ?_⟩) (by assumption) ?_
          rotate_left
          · intro w hSw
            try dsimp only at hSw
            try simp only [List.getElem_toArray, List.getElem_cons_succ, List.getElem_cons_zero]
            go_split_ands
            go_simp
            try with_reducible rfl
          try simp only [Act.put, List.getElem_toArray, List.getElem_cons_succ, List.getElem_cons_zero, List.setIfInBounds_toArray, List.set_cons_zero, List.set_cons_succ]
          refine wpAnyH_take (i := 2) (oi := _) (v := ?_) rfl (by kernel_rfl) (by kernel_rfl) (by kernel_rfl) (fun _ _ _ h => h) (Or.inl ⟨by rfl, ?_⟩) (by assumption) ?_
          rotate_left
          · intro w hSw
            try dsimp only at hSw
            try simp only [List.getElem_toArray, List.getElem_cons_succ, List.getElem_cons_zero]
            go_split_ands
            go_simp
            try with_reducible rfl
          try simp only [Act.put, List.getElem_toArray, List.getElem_cons_succ, List.getElem_cons_zero, List.setIfInBounds_toArray, List.set_cons_zero, List.set_cons_succ]
          refine wpAnyH_take (i := 3) (oi := _) (v := ?_) rfl (by kernel_rfl) (by kernel_rfl) (by kernel_rfl) (fun _ _ _ h => h) (Or.inl ⟨by rfl, ?_⟩) (by assumption) ?_
          rotate_left
          · intro w hSw
            try dsimp only at hSw
            try simp only [List.getElem_toArray, List.getElem_cons_succ, List.getElem_cons_zero]
            go_split_ands
            go_simp
            try with_reducible rfl
          try simp only [Act.put, List.getElem_toArray, List.getElem_cons_succ, List.getElem_cons_zero, List.setIfInBounds_toArray, List.set_cons_zero, List.set_cons_succ]
          refine wpAnyH_take (i := 4) (oi := _) (v := ?_) rfl (by kernel_rfl) (by kernel_rfl) (by kernel_rfl) (fun _ _ _ h => h) (Or.inl ⟨by rfl, ?_⟩) (by assumption) ?_
          rotate_left
          · intro w hSw
            try dsimp only at hSw
            try simp only [List.getElem_toArray, List.getElem_cons_succ, List.getElem_cons_zero]
            go_split_ands
            go_simp
            try with_reducible rfl
          try simp only [Act.put, List.getElem_toArray, List.getElem_cons_succ, List.getElem_cons_zero, List.setIfInBounds_toArray, List.set_cons_zero, List.set_cons_succ]
          refine wpAnyH_take (i := 5) (oi := _) (v := ?_) rfl (by kernel_rfl) (by kernel_rfl) (by kernel_rfl) (fun _ _ _ h => h) (Or.inl ⟨by rfl, ?_⟩) (by assumption) ?_
          rotate_left
          · intro w hSw
            try dsimp only at hSw
            try simp only [List.getElem_toArray, List.getElem_cons_succ, List.getElem_cons_zero]
            go_split_ands
            go_simp
            try with_reducible rfl
          try simp only [Act.put, List.getElem_toArray, List.getElem_cons_succ, List.getElem_cons_zero, List.setIfInBounds_toArray, List.set_cons_zero, List.set_cons_succ]
          refine wpAnyH_take (i := 6) (oi := _) (v := ?_) rfl (by kernel_rfl) (by kernel_rfl) (by kernel_rfl) (fun _ _ _ h => h) (Or.inl ⟨by rfl, ?_⟩) (by assumption) ?_
          rotate_left
          · intro w hSw
            try dsimp only at hSw
            try simp only [List.getElem_toArray, List.getElem_cons_succ, List.getElem_cons_zero]
            go_split_ands
            go_simp
            try with_reducible rfl
          try simp only [Act.put, List.getElem_toArray, List.getElem_cons_succ, List.getElem_cons_zero, List.setIfInBounds_toArray, List.set_cons_zero, List.set_cons_succ]
          refine wpAnyH_take (i := 7) (oi := _) (v := ?_) rfl (by kernel_rfl) (by kernel_rfl) (by kernel_rfl) (fun _ _ _ h => h) (Or.inl ⟨by rfl, ?_⟩) (by assumption) ?_
          rotate_left
          · intro w hSw
            try dsimp only at hSw
            try simp only [List.getElem_toArray, List.getElem_cons_succ, List.getElem_cons_zero]
            go_split_ands
            go_simp
            try with_reducible rfl
          try simp only [Act.put, List.getElem_toArray, List.getElem_cons_succ, List.getElem_cons_zero, List.setIfInBounds_toArray, List.set_cons_zero, List.set_cons_succ]
          refine wpAnyH_take (i := 8) (oi := _) (v := ?_) rfl (by kernel_rfl) (by kernel_rfl) (by kernel_rfl) (fun _ _ _ h => h) (Or.inl ⟨by rfl, ?_⟩) (by assumption) ?_
          rotate_left
          · intro w hSw
            try dsimp only at hSw
            try simp only [List.getElem_toArray, List.getElem_cons_succ, List.getElem_cons_zero]
            go_split_ands
            go_simp
            try with_reducible rfl
          try simp only [Act.put, List.getElem_toArray, List.getElem_cons_succ, List.getElem_cons_zero, List.setIfInBounds_toArray, List.set_cons_zero, List.set_cons_succ]
          refine wpAnyH_take (i := 9) (oi := _) (v := ?_) rfl (by kernel_rfl) (by kernel_rfl) (by kernel_rfl) (fun _ _ _ h => h) (Or.inl ⟨by rfl, ?_⟩) (by assumption) ?_
          rotate_left
          · intro w hSw
            try dsimp only at hSw
            try simp only [List.getElem_toArray, List.getElem_cons_succ, List.getElem_cons_zero]
            go_split_ands
            go_simp
            try with_reducible rfl
          try simp only [Act.put, List.getElem_toArray, List.getElem_cons_succ, List.getElem_cons_zero, List.setIfInBounds_toArray, List.set_cons_zero, List.set_cons_succ]
          refine wpAnyH_take (i := 10) (oi := _) (v := ?_) rfl (by kernel_rfl) (by kernel_rfl) (by kernel_rfl) (fun _ _ _ h => h) (Or.inl ⟨by rfl, ?_⟩) (by assumption) ?_
          rotate_left
          · intro w hSw
            try dsimp only at hSw
            try simp only [List.getElem_toArray, List.getElem_cons_succ, List.getElem_cons_zero]
            go_split_ands
            go_simp
            try with_reducible rfl
          try simp only [Act.put, List.getElem_toArray, List.getElem_cons_succ, List.getElem_cons_zero, List.setIfInBounds_toArray, List.set_cons_zero, List.set_cons_succ]
          refine wpAnyH_take (i := 11) (oi := _) (v := ?_) rfl (by kernel_rfl) (by kernel_rfl) (by kernel_rfl) (fun _ _ _ h => h) (Or.inl ⟨by rfl, ?_⟩) (by assumption) ?_
          rotate_left
          · intro w hSw
            try dsimp only at hSw
            try simp only [List.getElem_toArray, List.getElem_cons_succ, List.getElem_cons_zero]
            go_split_ands
            go_simp
            try with_reducible rfl
          try simp only [Act.put, List.getElem_toArray, List.getElem_cons_succ, List.getElem_cons_zero, List.setIfInBounds_toArray, List.set_cons_zero, List.set_cons_succ]
          refine wpAnyH_take (i := 12) (oi := _) (v := ?_) rfl (by kernel_rfl) (by kernel_rfl) (by kernel_rfl) (fun _ _ _ h => h) (Or.inl ⟨by rfl, ?_⟩) (by assumption) ?_
          rotate_left
          · intro w hSw
            try dsimp only at hSw
            try simp only [List.getElem_toArray, List.getElem_cons_succ, List.getElem_cons_zero]
            go_split_ands
            go_simp
            try with_reducible rfl
          try simp only [Act.put, List.getElem_toArray, List.getElem_cons_succ, List.getElem_cons_zero, List.setIfInBounds_toArray, List.set_cons_zero, List.set_cons_succ]
          refine wpAnyH_take (i := 13) (oi := _) (v := ?_) rfl (by kernel_rfl) (by kernel_rfl) (by kernel_rfl) (fun _ _ _ h => h) (Or.inl ⟨by rfl, ?_⟩) (by assumption) ?_
          rotate_left
          · intro w hSw
            try dsimp only at hSw
            try simp only [List.getElem_toArray, List.getElem_cons_succ, List.getElem_cons_zero]
            go_split_ands
            go_simp
            try with_reducible rfl
          try simp only [Act.put, List.getElem_toArray, List.getElem_cons_succ, List.getElem_cons_zero, List.setIfInBounds_toArray, List.set_cons_zero, List.set_cons_succ]
          refine wpAnyH_take (i := 14) (oi := _) (v := ?_) rfl (by kernel_rfl) (by kernel_rfl) (by kernel_rfl) (fun _ _ _ h => h) (Or.inl ⟨by rfl, ?_⟩) (by assumption) ?_
          rotate_left
          · intro w hSw
            try dsimp only at hSw
            try simp only [List.getElem_toArray, List.getElem_cons_succ, List.getElem_cons_zero]
            go_split_ands
            go_simp
            try with_reducible rfl
          try simp only [Act.put, List.getElem_toArray, List.getElem_cons_succ, List.getElem_cons_zero, List.setIfInBounds_toArray, List.set_cons_zero, List.set_cons_succ]
          refine wpAnyH_take (i := 15) (oi := _) (v := ?_) rfl (by kernel_rfl) (by kernel_rfl) (by kernel_rfl) (fun _ _ _ h => h) (Or.inl ⟨by rfl, ?_⟩) (by assumption) ?_
          rotate_left
          · intro w hSw
            try dsimp only at hSw
            try simp only [List.getElem_toArray, List.getElem_cons_succ, List.getElem_cons_zero]
            go_split_ands
            go_simp
            try with_reducible rfl
          try simp only [Act.put, List.getElem_toArray, List.getElem_cons_succ, List.getElem_cons_zero, List.setIfInBounds_toArray, List.set_cons_zero, List.set_cons_succ]
          refine wpAnyH_take (i := 16) (oi := _) (v := ?_) rfl (by kernel_rfl) (by kernel_rfl) (by kernel_rfl) (fun _ _ _ h => h) (Or.inl ⟨by rfl, ?_⟩) (by assumption) ?_
          rotate_left
          · intro w hSw
            try dsimp only at hSw
            try simp only [List.getElem_toArray, List.getElem_cons_succ, List.getElem_cons_zero]
            go_split_ands
            go_simp
            try with_reducible rfl
          try simp only [Act.put, List.getElem_toArray, List.getElem_cons_succ, List.getElem_cons_zero, List.setIfInBounds_toArray, List.set_cons_zero, List.set_cons_succ]
          refine wpAnyH_take (i := 17) (oi := _) (v := ?_) rfl (by kernel_rfl) (by kernel_rfl) (by kernel_rfl) (fun _ _ _ h => h) (Or.inl ⟨by rfl, ?_⟩) (by assumption) ?_
          rotate_left
          · intro w hSw
            try dsimp only at hSw
            try simp only [List.getElem_toArray, List.getElem_cons_succ, List.getElem_cons_zero]
            go_split_ands
            go_simp
            try with_reducible rfl
          try simp only [Act.put, List.getElem_toArray, List.getElem_cons_succ, List.getElem_cons_zero, List.setIfInBounds_toArray, List.set_cons_zero, List.set_cons_succ]
          refine wpAnyH_take (i := 18) (oi := _) (v := ?_) rfl (by kernel_rfl) (by kernel_rfl) (by kernel_rfl) (fun _ _ _ h => h) (Or.inl ⟨by rfl, ?_⟩) (by assumption) ?_
          rotate_left
          · intro w hSw
            try dsimp only at hSw
            try simp only [List.getElem_toArray, List.getElem_cons_succ, List.getElem_cons_zero]
            go_split_ands
            go_simp
            try with_reducible rfl
          try simp only [Act.put, List.getElem_toArray, List.getElem_cons_succ, List.getElem_cons_zero, List.setIfInBounds_toArray, List.set_cons_zero, List.set_cons_succ]
          refine wpAnyH_take (i := 19) (oi := _) (v := ?_) rfl (by kernel_rfl) (by kernel_rfl) (by kernel_rfl) (fun _ _ _ h => h) (Or.inl ⟨by rfl, ?_⟩) (by assumption) ?_
          rotate_left
          · intro w hSw
            try dsimp only at hSw
            try simp only [List.getElem_toArray, List.getElem_cons_succ, List.getElem_cons_zero]
            go_split_ands
            go_simp
            try with_reducible rfl
          try simp only [Act.put, List.getElem_toArray, List.getElem_cons_succ, List.getElem_cons_zero, List.setIfInBounds_toArray, List.set_cons_zero, List.set_cons_succ]
          refine wpAnyH_take (i := 20) (oi := _) (v := ?_) rfl (by kernel_rfl) (by kernel_rfl) (by kernel_rfl) (fun _ _ _ h => h) (Or.inl ⟨by rfl, ?_⟩) (by assumption) ?_
          rotate_left
          · intro w hSw
            try dsimp only at hSw
            try simp only [List.getElem_toArray, List.getElem_cons_succ, List.getElem_cons_zero]
            go_split_ands
            go_simp
            try with_reducible rfl
          try simp only [Act.put, List.getElem_toArray, List.getElem_cons_succ, List.getElem_cons_zero, List.setIfInBounds_toArray, List.set_cons_zero, List.set_cons_succ]
          refine wpAnyH_take (i := 21) (oi := _) (v := ?_) rfl (by kernel_rfl) (by kernel_rfl) (by kernel_rfl) (fun _ _ _ h => h) (Or.inl ⟨by rfl, ?_⟩) (by assumption) ?_
          rotate_left
          · intro w hSw
            try dsimp only at hSw
            try simp only [List.getElem_toArray, List.getElem_cons_succ, List.getElem_cons_zero]
            go_split_ands
            go_simp
            try with_reducible rfl
          try simp only [Act.put, List.getElem_toArray, List.getElem_cons_succ, List.getElem_cons_zero, List.setIfInBounds_toArray, List.set_cons_zero, List.set_cons_succ]
          refine wpAnyH_take (i := 22) (oi := _) (v := ?_) rfl (by kernel_rfl) (by kernel_rfl) (by kernel_rfl) (fun _ _ _ h => h) (Or.inl ⟨by rfl, ?_⟩) (by assumption) ?_
          rotate_left
          · intro w hSw
            try dsimp only at hSw
            try simp only [List.getElem_toArray, List.getElem_cons_succ, List.getElem_cons_zero]
            go_split_ands
            go_simp
            try with_reducible rfl
          try simp only [Act.put, List.getElem_toArray, List.getElem_cons_succ, List.getElem_cons_zero, List.setIfInBounds_toArray, List.set_cons_zero, List.set_cons_succ]
          refine wpAnyH_take (i := 23) (oi := _) (v := ?_) rfl (by kernel_rfl) (by kernel_rfl) (by kernel_rfl) (fun _ _ _ h => h) (Or.inl ⟨by rfl, ?_⟩) (by assumption) ?_
          rotate_left
          · intro w hSw
            try dsimp only at hSw
            try simp only [List.getElem_toArray, List.getElem_cons_succ, List.getElem_cons_zero]
            go_split_ands
            go_simp
            try with_reducible rfl
          try simp only [Act.put, List.getElem_toArray, List.getElem_cons_succ, List.getElem_cons_zero, List.setIfInBounds_toArray, List.set_cons_zero, List.set_cons_succ]
          refine wpAnyH_take (i := 24) (oi := _) (v := ?_) rfl (by kernel_rfl) (by kernel_rfl) (by kernel_rfl) (fun _ _ _ h => h) (Or.inl ⟨by rfl, ?_⟩) (by assumption) ?_
          rotate_left
          · intro w hSw
            try dsimp only at hSw
            try simp only [List.getElem_toArray, List.getElem_cons_succ, List.getElem_cons_zero]
            go_split_ands
            go_simp
            try with_reducible rfl
          try simp only [Act.put, List.getElem_toArray, List.getElem_cons_succ, List.getElem_cons_zero, List.setIfInBounds_toArray, List.set_cons_zero, List.set_cons_succ]
          refine wpAnyH_take (i := 25) (oi := _) (v := ?_) rfl (by kernel_rfl) (by kernel_rfl) (by kernel_rfl) (fun _ _ _ h => h) (Or.inl ⟨by rfl, ?_⟩) (by assumption) ?_
          rotate_left
          · intro w hSw
            try dsimp only at hSw
            try simp only [List.getElem_toArray, List.getElem_cons_succ, List.getElem_cons_zero]
            go_split_ands
            go_simp
            try with_reducible rfl
          try simp only [Act.put, List.getElem_toArray, List.getElem_cons_succ, List.getElem_cons_zero, List.setIfInBounds_toArray, List.set_cons_zero, List.set_cons_succ]
          refine wpAnyH_take (i := 26) (oi := _) (v := ?_) rfl (by kernel_rfl) (by kernel_rfl) (by kernel_rfl) (fun _ _ _ h => h) (Or.inl ⟨by rfl, ?_⟩) (by assumption) ?_
          rotate_left
          · intro w hSw
            try dsimp only at hSw
            try simp only [List.getElem_toArray, List.getElem_cons_succ, List.getElem_cons_zero]
            go_split_ands
            go_simp
            try with_reducible rfl
          try simp only [Act.put, List.getElem_toArray, List.getElem_cons_succ, List.getElem_cons_zero, List.setIfInBounds_toArray, List.set_cons_zero, List.set_cons_succ]
          refine wpAnyH_take (i := 27) (oi := _) (v := ?_) rfl (by kernel_rfl) (by kernel_rfl) (by kernel_rfl) (fun _ _ _ h => h) (Or.inl ⟨by rfl, ?_⟩) (by assumption) ?_
          rotate_left
          · intro w hSw
            try dsimp only at hSw
            try simp only [List.getElem_toArray, List.getElem_cons_succ, List.getElem_cons_zero]
            go_split_ands
            go_simp
            try with_reducible rfl
          try simp only [Act.put, List.getElem_toArray, List.getElem_cons_succ, List.getElem_cons_zero, List.setIfInBounds_toArray, List.set_cons_zero, List.set_cons_succ]
          refine wpAnyH_take (i := 28) (oi := _) (v := ?_) rfl (by kernel_rfl) (by kernel_rfl) (by kernel_rfl) (fun _ _ _ h => h) (Or.inl ⟨by rfl, ?_⟩) (by assumption) ?_
          rotate_left
          · intro w hSw
            try dsimp only at hSw
            try simp only [List.getElem_toArray, List.getElem_cons_succ, List.getElem_cons_zero]
            go_split_ands
            go_simp
            try with_reducible rfl
          try simp only [Act.put, List.getElem_toArray, List.getElem_cons_succ, List.getElem_cons_zero, List.setIfInBounds_toArray, List.set_cons_zero, List.set_cons_succ]
          refine wpAnyH_take (i := 29) (oi := _) (v := ?_) rfl (by kernel_rfl) (by kernel_rfl) (by kernel_rfl) (fun _ _ _ h => h) (Or.inl ⟨by rfl, ?_⟩) (by assumption) ?_
          rotate_left
          · intro w hSw
            try dsimp only at hSw
            try simp only [List.getElem_toArray, List.getElem_cons_succ, List.getElem_cons_zero]
            go_split_ands
            go_simp
            try with_reducible rfl
          try simp only [Act.put, List.getElem_toArray, List.getElem_cons_succ, List.getElem_cons_zero, List.setIfInBounds_toArray, List.set_cons_zero, List.set_cons_succ]
          refine wpAnyH_ready (rs := [30]) (by kernel_rfl) (by simp) ?_
          refine AllReadyH.cons (o := _) rfl (fun K hK => ?_) AllReadyH.nil
          simp only [List.getElem_toArray, List.getElem_cons_succ, List.getElem_cons_zero]
          go_simp
          refine hK.out _ _ ⟨((Fr.refl [] wr).drew.alloc _).cell q0 (by simp), ((Fr.refl [] wr).drew.alloc _).cell q1 (by simp), ((Fr.refl [] wr).drew.alloc _).cell q10 (by simp), ((Fr.refl [] wr).drew.alloc _).cell q11 (by simp)⟩ (fun hHeld => ?_)
          clear hK K
          try simp only [Act.put, List.getElem_toArray, List.getElem_cons_succ, List.getElem_cons_zero, List.setIfInBounds_toArray, List.set_cons_zero, List.set_cons_succ]
          refine wpAnyH_ready (rs := [31]) (by kernel_rfl) (by simp) ?_
          refine AllReadyH.cons (o := _) rfl (fun K hK => ?_) AllReadyH.nil
          simp only [List.getElem_toArray, List.getElem_cons_succ, List.getElem_cons_zero]
          go_simp
          rw [goodw (f 3) l3 h3]
          refine hK.out _ _ ⟨((Fr.refl [] wr).drew.alloc _).cell q0 (by simp), ((Fr.refl [] wr).drew.alloc _).cell q1 (by simp), ((Fr.refl [] wr).drew.alloc _).cell q10 (by simp), ((Fr.refl [] wr).drew.alloc _).cell q11 (by simp)⟩ (fun hHeld => ?_)
          clear hK K hHeld
          try simp only [Act.put, List.getElem_toArray, List.getElem_cons_succ, List.getElem_cons_zero, List.setIfInBounds_toArray, List.set_cons_zero, List.set_cons_succ]
          refine wpAnyH_done (by kernel_rfl) ?_ _
          go_wp2_with fail
          have hq1 := ((Fr.refl [] wr).alloc (.cells #[.int .i64 (f 0), .int .i64 (f 1), .int .i64 0, .int .i64 0, .bool false, .bool false, .int .i64 0, .int .i64 0, .int .i64 0, .int .i64 (f 10 + 256 * f 11), .bool (decide (f 3 / 4 % 2 = 1))] 32)).drew.drew
          have y2 := hq1.cell q2 (by simp)
          have y4 := hq1.cell q4 (by simp)
          have y5 := hq1.cell q5 (by simp)
          have y6 := hq1.cell q6 (by simp)
          have y7 := hq1.cell q7 (by simp)
          have y8 := hq1.cell q8 (by simp)
          have y9 := hq1.cell q9 (by simp)
          refine wp_region_held_drew (S := fun w' => w'.cell? ⟨b, o + (a + 2), none⟩ = some (.int .u8 (f 2)) ∧ w'.cell? ⟨b, o + (a + 4), none⟩ = some (.int .u8 (f 4)) ∧ w'.cell? ⟨b, o + (a + 5), none⟩ = some (.int .u8 (f 5)) ∧ w'.cell? ⟨b, o + (a + 6), none⟩ = some (.int .u8 (f 6)) ∧ w'.cell? ⟨b, o + (a + 7), none⟩ = some (.int .u8 (f 7)) ∧ w'.cell? ⟨b, o + (a + 8), none⟩ = some (.int .u8 (f 8)) ∧ w'.cell? ⟨b, o + (a + 9), none⟩ = some (.int .u8 (f 9))) (by kernel_rfl) ⟨y2, y4, y5, y6, y7, y8, y9⟩ (fun hHeld => ?_)
          refine wpAnyH_take (i := 0) (oi := _) (v := ?_) rfl (by kernel_rfl) (by kernel_rfl) (by kernel_rfl) (fun _ _ _ h => h) (Or.inl ⟨by rfl, ?_⟩) (by assumption) ?_
          rotate_left
          · intro w hSw
            try dsimp only at hSw
            try simp only [List.getElem_toArray, List.getElem_cons_zero]
            go_split_ands
            go_simp
            try with_reducible rfl
          try simp only [Act.put, List.getElem_toArray, List.getElem_cons_zero, List.setIfInBounds_toArray, List.set_cons_zero, List.set_cons_succ]
          refine wpAnyH_take (i := 1) (oi := _) (v := ?_) rfl (by kernel_rfl) (by kernel_rfl) (by kernel_rfl) (fun _ _ _ h => h) (Or.inl ⟨by rfl, ?_⟩) (by assumption) ?_
          rotate_left
          · intro w hSw
            try dsimp only at hSw
            try simp only [List.getElem_toArray, List.getElem_cons_succ, List.getElem_cons_zero]
            go_split_ands
            go_simp
            try with_reducible rfl
          try simp only [Act.put, List.getElem_toArray, List.getElem_cons_succ, List.getElem_cons_zero, List.setIfInBounds_toArray, List.set_cons_zero, List.set_cons_succ]
          refine wpAnyH_take (i := 2) (oi := _) (v := ?_) rfl (by kernel_rfl) (by kernel_rfl) (by kernel_rfl) (fun _ _ _ h => h) (Or.inl ⟨by rfl, ?_⟩) (by assumption) ?_
          rotate_left
          · intro w hSw
            try dsimp only at hSw
            try simp only [List.getElem_toArray, List.getElem_cons_succ, List.getElem_cons_zero]
            go_split_ands
            go_simp
            try with_reducible rfl
          try simp only [Act.put, List.getElem_toArray, List.getElem_cons_succ, List.getElem_cons_zero, List.setIfInBounds_toArray, List.set_cons_zero, List.set_cons_succ]
          refine wpAnyH_take (i := 3) (oi := _) (v := ?_) rfl (by kernel_rfl) (by kernel_rfl) (by kernel_rfl) (fun _ _ _ h => h) (Or.inl ⟨by rfl, ?_⟩) (by assumption) ?_
          rotate_left
          · intro w hSw
            try dsimp only at hSw
            try simp only [List.getElem_toArray, List.getElem_cons_succ, List.getElem_cons_zero]
            go_split_ands
            go_simp
            try with_reducible rfl
          try simp only [Act.put, List.getElem_toArray, List.getElem_cons_succ, List.getElem_cons_zero, List.setIfInBounds_toArray, List.set_cons_zero, List.set_cons_succ]
          refine wpAnyH_take (i := 4) (oi := _) (v := ?_) rfl (by kernel_rfl) (by kernel_rfl) (by kernel_rfl) (fun _ _ _ h => h) (Or.inl ⟨by rfl, ?_⟩) (by assumption) ?_
          rotate_left
          · intro w hSw
            try dsimp only at hSw
            try simp only [List.getElem_toArray, List.getElem_cons_succ, List.getElem_cons_zero]
            go_split_ands
            go_simp
            try with_reducible rfl
          try simp only [Act.put, List.getElem_toArray, List.getElem_cons_succ, List.getElem_cons_zero, List.setIfInBounds_toArray, List.set_cons_zero, List.set_cons_succ]
          refine wpAnyH_take (i := 5) (oi := _) (v := ?_) rfl (by kernel_rfl) (by kernel_rfl) (by kernel_rfl) (fun _ _ _ h => h) (Or.inl ⟨by rfl, ?_⟩) (by assumption) ?_
          rotate_left
          · intro w hSw
            try dsimp only at hSw
            try simp only [List.getElem_toArray, List.getElem_cons_succ, List.getElem_cons_zero]
            go_split_ands
            go_simp
            try with_reducible rfl
          try simp only [Act.put, List.getElem_toArray, List.getElem_cons_succ, List.getElem_cons_zero, List.setIfInBounds_toArray, List.set_cons_zero, List.set_cons_succ]
          refine wpAnyH_take (i := 6) (oi := _) (v := ?_) rfl (by kernel_rfl) (by kernel_rfl) (by kernel_rfl) (fun _ _ _ h => h) (Or.inl ⟨by rfl, ?_⟩) (by assumption) ?_
          rotate_left
          · intro w hSw
            try dsimp only at hSw
            try simp only [List.getElem_toArray, List.getElem_cons_succ, List.getElem_cons_zero]
            go_split_ands
            go_simp
            try with_reducible rfl
          try simp only [Act.put, List.getElem_toArray, List.getElem_cons_succ, List.getElem_cons_zero, List.setIfInBounds_toArray, List.set_cons_zero, List.set_cons_succ]
          refine wpAnyH_take (i := 7) (oi := _) (v := ?_) rfl (by kernel_rfl) (by kernel_rfl) (by kernel_rfl) (fun _ _ _ h => h) (Or.inl ⟨by rfl, ?_⟩) (by assumption) ?_
          rotate_left
          · intro w hSw
            try dsimp only at hSw
            try simp only [List.getElem_toArray, List.getElem_cons_succ, List.getElem_cons_zero]
            go_split_ands
            go_simp
            try with_reducible rfl
          try simp only [Act.put, List.getElem_toArray, List.getElem_cons_succ, List.getElem_cons_zero, List.setIfInBounds_toArray, List.set_cons_zero, List.set_cons_succ]
          refine wpAnyH_take (i := 8) (oi := _) (v := ?_) rfl (by kernel_rfl) (by kernel_rfl) (by kernel_rfl) (fun _ _ _ h => h) (Or.inl ⟨by rfl, ?_⟩) (by assumption) ?_
          rotate_left
          · intro w hSw
            try dsimp only at hSw
            try simp only [List.getElem_toArray, List.getElem_cons_succ, List.getElem_cons_zero]
            go_split_ands
            go_simp
            try with_reducible rfl
          try simp only [Act.put, List.getElem_toArray, List.getElem_cons_succ, List.getElem_cons_zero, List.setIfInBounds_toArray, List.set_cons_zero, List.set_cons_succ]
          refine wpAnyH_take (i := 9) (oi := _) (v := ?_) rfl (by kernel_rfl) (by kernel_rfl) (by kernel_rfl) (fun _ _ _ h => h) (Or.inl ⟨by rfl, ?_⟩) (by assumption) ?_
          rotate_left
          · intro w hSw
            try dsimp only at hSw
            try simp only [List.getElem_toArray, List.getElem_cons_succ, List.getElem_cons_zero]
            go_split_ands
            go_simp
            try with_reducible rfl
          try simp only [Act.put, List.getElem_toArray, List.getElem_cons_succ, List.getElem_cons_zero, List.setIfInBounds_toArray, List.set_cons_zero, List.set_cons_succ]
          refine wpAnyH_take (i := 10) (oi := _) (v := ?_) rfl (by kernel_rfl) (by kernel_rfl) (by kernel_rfl) (fun _ _ _ h => h) (Or.inl ⟨by rfl, ?_⟩) (by assumption) ?_
          rotate_left
          · intro w hSw
            try dsimp only at hSw
            try simp only [List.getElem_toArray, List.getElem_cons_succ, List.getElem_cons_zero]
            go_split_ands
            go_simp
            try with_reducible rfl
          try simp only [Act.put, List.getElem_toArray, List.getElem_cons_succ, List.getElem_cons_zero, List.setIfInBounds_toArray, List.set_cons_zero, List.set_cons_succ]
          refine wpAnyH_take (i := 11) (oi := _) (v := ?_) rfl (by kernel_rfl) (by kernel_rfl) (by kernel_rfl) (fun _ _ _ h => h) (Or.inl ⟨by rfl, ?_⟩) (by assumption) ?_
          rotate_left
          · intro w hSw
            try dsimp only at hSw
            try simp only [List.getElem_toArray, List.getElem_cons_succ, List.getElem_cons_zero]
            go_split_ands
            go_simp
            try with_reducible rfl
          try simp only [Act.put, List.getElem_toArray, List.getElem_cons_succ, List.getElem_cons_zero, List.setIfInBounds_toArray, List.set_cons_zero, List.set_cons_succ]
          refine wpAnyH_take (i := 12) (oi := _) (v := ?_) rfl (by kernel_rfl) (by kernel_rfl) (by kernel_rfl) (fun _ _ _ h => h) (Or.inl ⟨by rfl, ?_⟩) (by assumption) ?_
          rotate_left
          · intro w hSw
            try dsimp only at hSw
            try simp only [List.getElem_toArray, List.getElem_cons_succ, List.getElem_cons_zero]
            go_split_ands
            go_simp
            try with_reducible rfl
          try simp only [Act.put, List.getElem_toArray, List.getElem_cons_succ, List.getElem_cons_zero, List.setIfInBounds_toArray, List.set_cons_zero, List.set_cons_succ]
          refine wpAnyH_take (i := 13) (oi := _) (v := ?_) rfl (by kernel_rfl) (by kernel_rfl) (by kernel_rfl) (fun _ _ _ h => h) (Or.inl ⟨by rfl, ?_⟩) (by assumption) ?_
          rotate_left
          · intro w hSw
            try dsimp only at hSw
            try simp only [List.getElem_toArray, List.getElem_cons_succ, List.getElem_cons_zero]
            go_split_ands
            go_simp
            try with_reducible rfl
          try simp only [Act.put, List.getElem_toArray, List.getElem_cons_succ, List.getElem_cons_zero, List.setIfInBounds_toArray, List.set_cons_zero, List.set_cons_succ]
          refine wpAnyH_take (i := 14) (oi := _) (v := ?_) rfl (by kernel_rfl) (by kernel_rfl) (by kernel_rfl) (fun _ _ _ h => h) (Or.inl ⟨by rfl, ?_⟩) (by assumption) ?_
          rotate_left
          · intro w hSw
            try dsimp only at hSw
            try simp only [List.getElem_toArray, List.getElem_cons_succ, List.getElem_cons_zero]
            go_split_ands
            go_simp
            try with_reducible rfl
          try simp only [Act.put, List.getElem_toArray, List.getElem_cons_succ, List.getElem_cons_zero, List.setIfInBounds_toArray, List.set_cons_zero, List.set_cons_succ]
          refine wpAnyH_take (i := 15) (oi := _) (v := ?_) rfl (by kernel_rfl) (by kernel_rfl) (by kernel_rfl) (fun _ _ _ h => h) (Or.inl ⟨by rfl, ?_⟩) (by assumption) ?_
          rotate_left
          · intro w hSw
            try dsimp only at hSw
            try simp only [List.getElem_toArray, List.getElem_cons_succ, List.getElem_cons_zero]
            go_split_ands
            go_simp
            try with_reducible rfl
          try simp only [Act.put, List.getElem_toArray, List.getElem_cons_succ, List.getElem_cons_zero, List.setIfInBounds_toArray, List.set_cons_zero, List.set_cons_succ]
          refine wpAnyH_take (i := 16) (oi := _) (v := ?_) rfl (by kernel_rfl) (by kernel_rfl) (by kernel_rfl) (fun _ _ _ h => h) (Or.inl ⟨by rfl, ?_⟩) (by assumption) ?_
          rotate_left
          · intro w hSw
            try dsimp only at hSw
            try simp only [List.getElem_toArray, List.getElem_cons_succ, List.getElem_cons_zero]
            go_split_ands
            go_simp
            try with_reducible rfl
          try simp only [Act.put, List.getElem_toArray, List.getElem_cons_succ, List.getElem_cons_zero, List.setIfInBounds_toArray, List.set_cons_zero, List.set_cons_succ]
          refine wpAnyH_take (i := 17) (oi := _) (v := ?_) rfl (by kernel_rfl) (by kernel_rfl) (by kernel_rfl) (fun _ _ _ h => h) (Or.inl ⟨by rfl, ?_⟩) (by assumption) ?_
          rotate_left
          · intro w hSw
            try dsimp only at hSw
            try simp only [List.getElem_toArray, List.getElem_cons_succ, List.getElem_cons_zero]
            go_split_ands
            go_simp
            try with_reducible rfl
          try simp only [Act.put, List.getElem_toArray, List.getElem_cons_succ, List.getElem_cons_zero, List.setIfInBounds_toArray, List.set_cons_zero, List.set_cons_succ]
          refine wpAnyH_take (i := 18) (oi := _) (v := ?_) rfl (by kernel_rfl) (by kernel_rfl) (by kernel_rfl) (fun _ _ _ h => h) (Or.inl ⟨by rfl, ?_⟩) (by assumption) ?_
          rotate_left
          · intro w hSw
            try dsimp only at hSw
            try simp only [List.getElem_toArray, List.getElem_cons_succ, List.getElem_cons_zero]
            go_split_ands
            go_simp
            try with_reducible rfl
          try simp only [Act.put, List.getElem_toArray, List.getElem_cons_succ, List.getElem_cons_zero, List.setIfInBounds_toArray, List.set_cons_zero, List.set_cons_succ]
          refine wpAnyH_take (i := 19) (oi := _) (v := ?_) rfl (by kernel_rfl) (by kernel_rfl) (by kernel_rfl) (fun _ _ _ h => h) (Or.inl ⟨by rfl, ?_⟩) (by assumption) ?_
          rotate_left
          · intro w hSw
            try dsimp only at hSw
            try simp only [List.getElem_toArray, List.getElem_cons_succ, List.getElem_cons_zero]
            go_split_ands
            go_simp
            try with_reducible rfl
          try simp only [Act.put, List.getElem_toArray, List.getElem_cons_succ, List.getElem_cons_zero, List.setIfInBounds_toArray, List.set_cons_zero, List.set_cons_succ]
          refine wpAnyH_take (i := 20) (oi := _) (v := ?_) rfl (by kernel_rfl) (by kernel_rfl) (by kernel_rfl) (fun _ _ _ h => h) (Or.inl ⟨by rfl, ?_⟩) (by assumption) ?_
          rotate_left
          · intro w hSw
            try dsimp only at hSw
            try simp only [List.getElem_toArray, List.getElem_cons_succ, List.getElem_cons_zero]
            go_split_ands
            go_simp
            try with_reducible rfl
          try simp only [Act.put, List.getElem_toArray, List.getElem_cons_succ, List.getElem_cons_zero, List.setIfInBounds_toArray, List.set_cons_zero, List.set_cons_succ]
          refine wpAnyH_take (i := 21) (oi := _) (v := ?_) rfl (by kernel_rfl) (by kernel_rfl) (by kernel_rfl) (fun _ _ _ h => h) (Or.inl ⟨by rfl, ?_⟩) (by assumption) ?_
          rotate_left
          · intro w hSw
            try dsimp only at hSw
            try simp only [List.getElem_toArray, List.getElem_cons_succ, List.getElem_cons_zero]
            go_split_ands
            go_simp
            try with_reducible rfl
          try simp only [Act.put, List.getElem_toArray, List.getElem_cons_succ, List.getElem_cons_zero, List.setIfInBounds_toArray, List.set_cons_zero, List.set_cons_succ]
          refine wpAnyH_take (i := 22) (oi := _) (v := ?_) rfl (by kernel_rfl) (by kernel_rfl) (by kernel_rfl) (fun _ _ _ h => h) (Or.inl ⟨by rfl, ?_⟩) (by assumption) ?_
          rotate_left
          · intro w hSw
            try dsimp only at hSw
            try simp only [List.getElem_toArray, List.getElem_cons_succ, List.getElem_cons_zero]
            go_split_ands
            go_simp
            try with_reducible rfl
          try simp only [Act.put, List.getElem_toArray, List.getElem_cons_succ, List.getElem_cons_zero, List.setIfInBounds_toArray, List.set_cons_zero, List.set_cons_succ]
          refine wpAnyH_take (i := 23) (oi := _) (v := ?_) rfl (by kernel_rfl) (by kernel_rfl) (by kernel_rfl) (fun _ _ _ h => h) (Or.inl ⟨by rfl, ?_⟩) (by assumption) ?_
          rotate_left
          · intro w hSw
            try dsimp only at hSw
            try simp only [List.getElem_toArray, List.getElem_cons_succ, List.getElem_cons_zero]
            go_split_ands
            go_simp
            try with_reducible rfl
          try simp only [Act.put, List.getElem_toArray, List.getElem_cons_succ, List.getElem_cons_zero, List.setIfInBounds_toArray, List.set_cons_zero, List.set_cons_succ]
          refine wpAnyH_take (i := 24) (oi := _) (v := ?_) rfl (by kernel_rfl) (by kernel_rfl) (by kernel_rfl) (fun _ _ _ h => h) (Or.inl ⟨by rfl, ?_⟩) (by assumption) ?_
          rotate_left
          · intro w hSw
            try dsimp only at hSw
            try simp only [List.getElem_toArray, List.getElem_cons_succ, List.getElem_cons_zero]
            go_split_ands
            go_simp
            try with_reducible rfl
          try simp only [Act.put, List.getElem_toArray, List.getElem_cons_succ, List.getElem_cons_zero, List.setIfInBounds_toArray, List.set_cons_zero, List.set_cons_succ]
          refine wpAnyH_take (i := 25) (oi := _) (v := ?_) rfl (by kernel_rfl) (by kernel_rfl) (by kernel_rfl) (fun _ _ _ h => h) (Or.inl ⟨by rfl, ?_⟩) (by assumption) ?_
          rotate_left
          · intro w hSw
            try dsimp only at hSw
            try simp only [List.getElem_toArray, List.getElem_cons_succ, List.getElem_cons_zero]
            go_split_ands
            go_simp
            try with_reducible rfl
          try simp only [Act.put, List.getElem_toArray, List.getElem_cons_succ, List.getElem_cons_zero, List.setIfInBounds_toArray, List.set_cons_zero, List.set_cons_succ]
          refine wpAnyH_take (i := 26) (oi := _) (v := ?_) rfl (by kernel_rfl) (by kernel_rfl) (by kernel_rfl) (fun _ _ _ h => h) (Or.inl ⟨by rfl, ?_⟩) (by assumption) ?_
          rotate_left
          · intro w hSw
            try dsimp only at hSw
            try simp only [List.getElem_toArray, List.getElem_cons_succ, List.getElem_cons_zero]
            go_split_ands
            go_simp
            try with_reducible rfl
          try simp only [Act.put, List.getElem_toArray, List.getElem_cons_succ, List.getElem_cons_zero, List.setIfInBounds_toArray, List.set_cons_zero, List.set_cons_succ]
          refine wpAnyH_take (i := 27) (oi := _) (v := ?_) rfl (by kernel_rfl) (by kernel_rfl) (by kernel_rfl) (fun _ _ _ h => h) (Or.inl ⟨by rfl, ?_⟩) (by assumption) ?_
          rotate_left
          · intro w hSw
            try dsimp only at hSw
            try simp only [List.getElem_toArray, List.getElem_cons_succ, List.getElem_cons_zero]
            go_split_ands
            go_simp
            try with_reducible rfl
          try simp only [Act.put, List.getElem_toArray, List.getElem_cons_succ, List.getElem_cons_zero, List.setIfInBounds_toArray, List.set_cons_zero, List.set_cons_succ]
          refine wpAnyH_take (i := 28) (oi := _) (v := ?_) rfl (by kernel_rfl) (by kernel_rfl) (by kernel_rfl) (fun _ _ _ h => h) (Or.inl ⟨by rfl, ?_⟩) (by assumption) ?_
          rotate_left
          · intro w hSw
            try dsimp only at hSw
            try simp only [List.getElem_toArray, List.getElem_cons_succ, List.getElem_cons_zero]
            go_split_ands
            go_simp
            try with_reducible rfl
          try simp only [Act.put, List.getElem_toArray, List.getElem_cons_succ, List.getElem_cons_zero, List.setIfInBounds_toArray, List.set_cons_zero, List.set_cons_succ]
          refine wpAnyH_take (i := 29) (oi := _) (v := ?_) rfl (by kernel_rfl) (by kernel_rfl) (by kernel_rfl) (fun _ _ _ h => h) (Or.inl ⟨by rfl, ?_⟩) (by assumption) ?_
          rotate_left
          · intro w hSw
            try dsimp only at hSw
            try simp only [List.getElem_toArray, List.getElem_cons_succ, List.getElem_cons_zero]
            go_split_ands
            go_simp
            try with_reducible rfl
          try simp only [Act.put, List.getElem_toArray, List.getElem_cons_succ, List.getElem_cons_zero, List.setIfInBounds_toArray, List.set_cons_zero, List.set_cons_succ]
          refine wpAnyH_take (i := 30) (oi := _) (v := ?_) rfl (by kernel_rfl) (by kernel_rfl) (by kernel_rfl) (fun _ _ _ h => h) (Or.inl ⟨by rfl, ?_⟩) (by assumption) ?_
          rotate_left
          · intro w hSw
            try dsimp only at hSw
            try simp only [List.getElem_toArray, List.getElem_cons_succ, List.getElem_cons_zero]
            go_split_ands
            go_simp
            try with_reducible rfl
          try simp only [Act.put, List.getElem_toArray, List.getElem_cons_succ, List.getElem_cons_zero, List.setIfInBounds_toArray, List.set_cons_zero, List.set_cons_succ]
          refine wpAnyH_take (i := 31) (oi := _) (v := ?_) rfl (by kernel_rfl) (by kernel_rfl) (by kernel_rfl) (fun _ _ _ h => h) (Or.inl ⟨by rfl, ?_⟩) (by assumption) ?_
          rotate_left
          · intro w hSw
            try dsimp only at hSw
            try simp only [List.getElem_toArray, List.getElem_cons_succ, List.getElem_cons_zero]
            go_split_ands
            go_simp
            try with_reducible rfl
          try simp only [Act.put, List.getElem_toArray, List.getElem_cons_succ, List.getElem_cons_zero, List.setIfInBounds_toArray, List.set_cons_zero, List.set_cons_succ]
          refine wpAnyH_take (i := 32) (oi := _) (v := ?_) rfl (by kernel_rfl) (by kernel_rfl) (by kernel_rfl) (fun _ _ _ h => h) (Or.inl ⟨by rfl, ?_⟩) (by assumption) ?_
          rotate_left
          · intro w hSw
            try dsimp only at hSw
            try simp only [List.getElem_toArray, List.getElem_cons_succ, List.getElem_cons_zero]
            go_split_ands
            go_simp
            try with_reducible rfl
          try simp only [Act.put, List.getElem_toArray, List.getElem_cons_succ, List.getElem_cons_zero, List.setIfInBounds_toArray, List.set_cons_zero, List.set_cons_succ]
          refine wpAnyH_take (i := 33) (oi := _) (v := ?_) rfl (by kernel_rfl) (by kernel_rfl) (by kernel_rfl) (fun _ _ _ h => h) (Or.inl ⟨by rfl, ?_⟩) (by assumption) ?_
          rotate_left
          · intro w hSw
            try dsimp only at hSw
            try simp only [List.getElem_toArray, List.getElem_cons_succ, List.getElem_cons_zero]
            go_split_ands
            go_simp
            try with_reducible rfl
          try simp only [Act.put, List.getElem_toArray, List.getElem_cons_succ, List.getElem_cons_zero, List.setIfInBounds_toArray, List.set_cons_zero, List.set_cons_succ]
          refine wpAnyH_take (i := 34) (oi := _) (v := ?_) rfl (by kernel_rfl) (by kernel_rfl) (by kernel_rfl) (fun _ _ _ h => h) (Or.inl ⟨by rfl, ?_⟩) (by assumption) ?_
          rotate_left
          · intro w hSw
            try dsimp only at hSw
            try simp only [List.getElem_toArray, List.getElem_cons_succ, List.getElem_cons_zero]
            go_split_ands
            go_simp
            try with_reducible rfl
          try simp only [Act.put, List.getElem_toArray, List.getElem_cons_succ, List.getElem_cons_zero, List.setIfInBounds_toArray, List.set_cons_zero, List.set_cons_succ]
          refine wpAnyH_take (i := 35) (oi := _) (v := ?_) rfl (by kernel_rfl) (by kernel_rfl) (by kernel_rfl) (fun _ _ _ h => h) (Or.inl ⟨by rfl, ?_⟩) (by assumption) ?_
          rotate_left
          · intro w hSw
            try dsimp only at hSw
            try simp only [List.getElem_toArray, List.getElem_cons_succ, List.getElem_cons_zero]
            go_split_ands
            go_simp
            try with_reducible rfl
          try simp only [Act.put, List.getElem_toArray, List.getElem_cons_succ, List.getElem_cons_zero, List.setIfInBounds_toArray, List.set_cons_zero, List.set_cons_succ]
          refine wpAnyH_take (i := 36) (oi := _) (v := ?_) rfl (by kernel_rfl) (by kernel_rfl) (by kernel_rfl) (fun _ _ _ h => h) (Or.inl ⟨by rfl, ?_⟩) (by assumption) ?_
          rotate_left
          · intro w hSw
            try dsimp only at hSw
            try simp only [List.getElem_toArray, List.getElem_cons_succ, List.getElem_cons_zero]
            go_split_ands
            go_simp
            try with_reducible rfl
          try simp only [Act.put, List.getElem_toArray, List.getElem_cons_succ, List.getElem_cons_zero, List.setIfInBounds_toArray, List.set_cons_zero, List.set_cons_succ]
          refine wpAnyH_take (i := 37) (oi := _) (v := ?_) rfl (by kernel_rfl) (by kernel_rfl) (by kernel_rfl) (fun _ _ _ h => h) (Or.inl ⟨by rfl, ?_⟩) (by assumption) ?_
          rotate_left
          · intro w hSw
            try dsimp only at hSw
            try simp only [List.getElem_toArray, List.getElem_cons_succ, List.getElem_cons_zero]
            go_split_ands
            go_simp
            try with_reducible rfl
          try simp only [Act.put, List.getElem_toArray, List.getElem_cons_succ, List.getElem_cons_zero, List.setIfInBounds_toArray, List.set_cons_zero, List.set_cons_succ]
          refine wpAnyH_take (i := 38) (oi := _) (v := ?_) rfl (by kernel_rfl) (by kernel_rfl) (by kernel_rfl) (fun _ _ _ h => h) (Or.inl ⟨by rfl, ?_⟩) (by assumption) ?_
          rotate_left
          · intro w hSw
            try dsimp only at hSw
            try simp only [List.getElem_toArray, List.getElem_cons_succ, List.getElem_cons_zero]
            go_split_ands
            go_simp
            try with_reducible rfl
          try simp only [Act.put, List.getElem_toArray, List.getElem_cons_succ, List.getElem_cons_zero, List.setIfInBounds_toArray, List.set_cons_zero, List.set_cons_succ]
          refine wpAnyH_take (i := 39) (oi := _) (v := ?_) rfl (by kernel_rfl) (by kernel_rfl) (by kernel_rfl) (fun _ _ _ h => h) (Or.inl ⟨by rfl, ?_⟩) (by assumption) ?_
          rotate_left
          · intro w hSw
            try dsimp only at hSw
            try simp only [List.getElem_toArray, List.getElem_cons_succ, List.getElem_cons_zero]
            go_split_ands
            go_simp
            try with_reducible rfl
          try simp only [Act.put, List.getElem_toArray, List.getElem_cons_succ, List.getElem_cons_zero, List.setIfInBounds_toArray, List.set_cons_zero, List.set_cons_succ]
          refine wpAnyH_take (i := 40) (oi := _) (v := ?_) rfl (by kernel_rfl) (by kernel_rfl) (by kernel_rfl) (fun _ _ _ h => h) (Or.inl ⟨by rfl, ?_⟩) (by assumption) ?_
          rotate_left
          · intro w hSw
            try dsimp only at hSw
            try simp only [List.getElem_toArray, List.getElem_cons_succ, List.getElem_cons_zero]
            go_split_ands
            go_simp
            try with_reducible rfl
          try simp only [Act.put, List.getElem_toArray, List.getElem_cons_succ, List.getElem_cons_zero, List.setIfInBounds_toArray, List.set_cons_zero, List.set_cons_succ]
          refine wpAnyH_take (i := 41) (oi := _) (v := ?_) rfl (by kernel_rfl) (by kernel_rfl) (by kernel_rfl) (fun _ _ _ h => h) (Or.inl ⟨by rfl, ?_⟩) (by assumption) ?_
          rotate_left
          · intro w hSw
            try dsimp only at hSw
            try simp only [List.getElem_toArray, List.getElem_cons_succ, List.getElem_cons_zero]
            go_split_ands
            go_simp
            try with_reducible rfl
          try simp only [Act.put, List.getElem_toArray, List.getElem_cons_succ, List.getElem_cons_zero, List.setIfInBounds_toArray, List.set_cons_zero, List.set_cons_succ]
          refine wpAnyH_take (i := 42) (oi := _) (v := ?_) rfl (by kernel_rfl) (by kernel_rfl) (by kernel_rfl) (fun _ _ _ h => h) (Or.inl ⟨by rfl, ?_⟩) (by assumption) ?_
          rotate_left
          · intro w hSw
            try dsimp only at hSw
            try simp only [List.getElem_toArray, List.getElem_cons_succ, List.getElem_cons_zero]
            go_split_ands
            go_simp
            try with_reducible rfl
          try simp only [Act.put, List.getElem_toArray, List.getElem_cons_succ, List.getElem_cons_zero, List.setIfInBounds_toArray, List.set_cons_zero, List.set_cons_succ]
          refine wpAnyH_take (i := 43) (oi := _) (v := ?_) rfl (by kernel_rfl) (by kernel_rfl) (by kernel_rfl) (fun _ _ _ h => h) (Or.inl ⟨by rfl, ?_⟩) (by assumption) ?_
          rotate_left
          · intro w hSw
            try dsimp only at hSw
            try simp only [List.getElem_toArray, List.getElem_cons_succ, List.getElem_cons_zero]
            go_split_ands
            go_simp
            try with_reducible rfl
          try simp only [Act.put, List.getElem_toArray, List.getElem_cons_succ, List.getElem_cons_zero, List.setIfInBounds_toArray, List.set_cons_zero, List.set_cons_succ]
          refine wpAnyH_take (i := 44) (oi := _) (v := ?_) rfl (by kernel_rfl) (by kernel_rfl) (by kernel_rfl) (fun _ _ _ h => h) (Or.inl ⟨by rfl, ?_⟩) (by assumption) ?_
          rotate_left
          · intro w hSw
            try dsimp only at hSw
            try simp only [List.getElem_toArray, List.getElem_cons_succ, List.getElem_cons_zero]
            go_split_ands
            go_simp
            try with_reducible rfl
          try simp only [Act.put, List.getElem_toArray, List.getElem_cons_succ, List.getElem_cons_zero, List.setIfInBounds_toArray, List.set_cons_zero, List.set_cons_succ]
          refine wpAnyH_take (i := 45) (oi := _) (v := ?_) rfl (by kernel_rfl) (by kernel_rfl) (by kernel_rfl) (fun _ _ _ h => h) (Or.inl ⟨by rfl, ?_⟩) (by assumption) ?_
          rotate_left
          · intro w hSw
            try dsimp only at hSw
            try simp only [List.getElem_toArray, List.getElem_cons_succ, List.getElem_cons_zero]
            go_split_ands
            go_simp
            try with_reducible rfl
          try simp only [Act.put, List.getElem_toArray, List.getElem_cons_succ, List.getElem_cons_zero, List.setIfInBounds_toArray, List.set_cons_zero, List.set_cons_succ]
          refine wpAnyH_take (i := 46) (oi := _) (v := ?_) rfl (by kernel_rfl) (by kernel_rfl) (by kernel_rfl) (fun _ _ _ h => h) (Or.inl ⟨by rfl, ?_⟩) (by assumption) ?_
          rotate_left
          · intro w hSw
            try dsimp only at hSw
            try simp only [List.getElem_toArray, List.getElem_cons_succ, List.getElem_cons_zero]
            go_split_ands
            go_simp
            try with_reducible rfl
          try simp only [Act.put, List.getElem_toArray, List.getElem_cons_succ, List.getElem_cons_zero, List.setIfInBounds_toArray, List.set_cons_zero, List.set_cons_succ]
          refine wpAnyH_take (i := 47) (oi := _) (v := ?_) rfl (by kernel_rfl) (by kernel_rfl) (by kernel_rfl) (fun _ _ _ h => h) (Or.inl ⟨by rfl, ?_⟩) (by assumption) ?_
          rotate_left
          · intro w hSw
            try dsimp only at hSw
            try simp only [List.getElem_toArray, List.getElem_cons_succ, List.getElem_cons_zero]
            go_split_ands
            go_simp
            try with_reducible rfl
          try simp only [Act.put, List.getElem_toArray, List.getElem_cons_succ, List.getElem_cons_zero, List.setIfInBounds_toArray, List.set_cons_zero, List.set_cons_succ]
          refine wpAnyH_take (i := 48) (oi := _) (v := ?_) rfl (by kernel_rfl) (by kernel_rfl) (by kernel_rfl) (fun _ _ _ h => h) (Or.inl ⟨by rfl, ?_⟩) (by assumption) ?_
          rotate_left
          · intro w hSw
            try dsimp only at hSw
            try simp only [List.getElem_toArray, List.getElem_cons_succ, List.getElem_cons_zero]
            go_split_ands
            go_simp
            try with_reducible rfl
          try simp only [Act.put, List.getElem_toArray, List.getElem_cons_succ, List.getElem_cons_zero, List.setIfInBounds_toArray, List.set_cons_zero, List.set_cons_succ]
          refine wpAnyH_take (i := 49) (oi := _) (v := ?_) rfl (by kernel_rfl) (by kernel_rfl) (by kernel_rfl) (fun _ _ _ h => h) (Or.inl ⟨by rfl, ?_⟩) (by assumption) ?_
          rotate_left
          · intro w hSw
            try dsimp only at hSw
            try simp only [List.getElem_toArray, List.getElem_cons_succ, List.getElem_cons_zero]
            go_split_ands
            go_simp
            try with_reducible rfl
          try simp only [Act.put, List.getElem_toArray, List.getElem_cons_succ, List.getElem_cons_zero, List.setIfInBounds_toArray, List.set_cons_zero, List.set_cons_succ]
          refine wpAnyH_take (i := 50) (oi := _) (v := ?_) rfl (by kernel_rfl) (by kernel_rfl) (by kernel_rfl) (fun _ _ _ h => h) (Or.inl ⟨by rfl, ?_⟩) (by assumption) ?_
          rotate_left
          · intro w hSw
            try dsimp only at hSw
            try simp only [List.getElem_toArray, List.getElem_cons_succ, List.getElem_cons_zero]
            go_split_ands
            go_simp
            try with_reducible rfl
          try simp only [Act.put, List.getElem_toArray, List.getElem_cons_succ, List.getElem_cons_zero, List.setIfInBounds_toArray, List.set_cons_zero, List.set_cons_succ]
          refine wpAnyH_take (i := 51) (oi := _) (v := ?_) rfl (by kernel_rfl) (by kernel_rfl) (by kernel_rfl) (fun _ _ _ h => h) (Or.inl ⟨by rfl, ?_⟩) (by assumption) ?_
          rotate_left
          · intro w hSw
            try dsimp only at hSw
            try simp only [List.getElem_toArray, List.getElem_cons_succ, List.getElem_cons_zero]
            go_split_ands
            go_simp
            try with_reducible rfl
          try simp only [Act.put, List.getElem_toArray, List.getElem_cons_succ, List.getElem_cons_zero, List.setIfInBounds_toArray, List.set_cons_zero, List.set_cons_succ]
          refine wpAnyH_take (i := 52) (oi := _) (v := ?_) rfl (by kernel_rfl) (by kernel_rfl) (by kernel_rfl) (fun _ _ _ h => h) (Or.inl ⟨by rfl, ?_⟩) (by assumption) ?_
          rotate_left
          · intro w hSw
            try dsimp only at hSw
            try simp only [List.getElem_toArray, List.getElem_cons_succ, List.getElem_cons_zero]
            go_split_ands
            go_simp
            try with_reducible rfl
          try simp only [Act.put, List.getElem_toArray, List.getElem_cons_succ, List.getElem_cons_zero, List.setIfInBounds_toArray, List.set_cons_zero, List.set_cons_succ]
          refine wpAnyH_take (i := 53) (oi := _) (v := ?_) rfl (by kernel_rfl) (by kernel_rfl) (by kernel_rfl) (fun _ _ _ h => h) (Or.inl ⟨by rfl, ?_⟩) (by assumption) ?_
          rotate_left
          · intro w hSw
            try dsimp only at hSw
            try simp only [List.getElem_toArray, List.getElem_cons_succ, List.getElem_cons_zero]
            go_split_ands
            go_simp
            try with_reducible rfl
          try simp only [Act.put, List.getElem_toArray, List.getElem_cons_succ, List.getElem_cons_zero, List.setIfInBounds_toArray, List.set_cons_zero, List.set_cons_succ]
          refine wpAnyH_take (i := 54) (oi := _) (v := ?_) rfl (by kernel_rfl) (by kernel_rfl) (by kernel_rfl) (fun _ _ _ h => h) (Or.inl ⟨by rfl, ?_⟩) (by assumption) ?_
          rotate_left
          · intro w hSw
            try dsimp only at hSw
            try simp only [List.getElem_toArray, List.getElem_cons_succ, List.getElem_cons_zero]
            go_split_ands
            go_simp
            try with_reducible rfl
          try simp only [Act.put, List.getElem_toArray, List.getElem_cons_succ, List.getElem_cons_zero, List.setIfInBounds_toArray, List.set_cons_zero, List.set_cons_succ]
          refine wpAnyH_ready (rs := [55]) (by kernel_rfl) (by simp) ?_
          refine AllReadyH.cons (o := _) rfl (fun K hK => ?_) AllReadyH.nil
          simp only [List.getElem_toArray, List.getElem_cons_succ, List.getElem_cons_zero]
          go_simp
          rw [waitw (f 3) l3 h3, forcew (f 3) l3 h3]
          refine hK.out _ _ ⟨(((Fr.refl [] wr).alloc _).drew.drew).cell q2 (by simp), (((Fr.refl [] wr).alloc _).drew.drew).cell q4 (by simp), (((Fr.refl [] wr).alloc _).drew.drew).cell q5 (by simp), (((Fr.refl [] wr).alloc _).drew.drew).cell q6 (by simp), (((Fr.refl [] wr).alloc _).drew.drew).cell q7 (by simp), (((Fr.refl [] wr).alloc _).drew.drew).cell q8 (by simp), (((Fr.refl [] wr).alloc _).drew.drew).cell q9 (by simp)⟩ (fun hHeld => ?_)
          clear hK K hHeld hq1 y2 y4 y5 y6 y7 y8 y9
          try simp only [Act.put, List.getElem_toArray, List.getElem_cons_succ, List.getElem_cons_zero, List.setIfInBounds_toArray, List.set_cons_zero, List.set_cons_succ]
          refine wpAnyH_done (by kernel_rfl) ?_ _
          have hb7 := heap_alloc_new wr (.cells #[.int .i64 (f 0), .int .i64 (f 1), .int .i64 (f 2), .int .i64 (f 8 + 256 * f 9), .bool (decide (f 3 % 2 = 1)), .bool (decide (f 3 / 2 % 2 = 1)), .int .i64 (f 4), .int .i64 (f 6 + 256 * f 7), .int .i64 (f 5), .int .i64 (f 10 + 256 * f 11), .bool (decide (f 3 / 4 % 2 = 1))] 32)
          have f1 := ((Fr.refl [] wr).alloc (.cells #[.int .i64 (f 0), .int .i64 (f 1), .int .i64 (f 2), .int .i64 (f 8 + 256 * f 9), .bool (decide (f 3 % 2 = 1)), .bool (decide (f 3 / 2 % 2 = 1)), .int .i64 (f 4), .int .i64 (f 6 + 256 * f 7), .int .i64 (f 5), .int .i64 (f 10 + 256 * f 11), .bool (decide (f 3 / 4 % 2 = 1))] 32)).drew.drew
          have HO1 := Lib.hid (owns_fr HO.out f1)
          have F1 := Lib.hid (F.trans f1)
          have hb7 : ((wr.alloc (.cells #[.int .i64 (f 0), .int .i64 (f 1), .int .i64 (f 2), .int .i64 (f 8 + 256 * f 9), .bool (decide (f 3 % 2 = 1)), .bool (decide (f 3 / 2 % 2 = 1)), .int .i64 (f 4), .int .i64 (f 6 + 256 * f 7), .int .i64 (f 5), .int .i64 (f 10 + 256 * f 11), .bool (decide (f 3 / 4 % 2 = 1))] 32)).drew.drew).heap[wr.heap.size]? = some (.cells #[.int .i64 (f 0), .int .i64 (f 1), .int .i64 (f 2), .int .i64 (f 8 + 256 * f 9), .bool (decide (f 3 % 2 = 1)), .bool (decide (f 3 / 2 % 2 = 1)), .int .i64 (f 4), .int .i64 (f 6 + 256 * f 7), .int .i64 (f 5), .int .i64 (f 10 + 256 * f 11), .bool (decide (f 3 / 4 % 2 = 1))] 32) := hb7
          clear f1
          generalize (wr.alloc (.cells #[.int .i64 (f 0), .int .i64 (f 1), .int .i64 (f 2), .int .i64 (f 8 + 256 * f 9), .bool (decide (f 3 % 2 = 1)), .bool (decide (f 3 / 2 % 2 = 1)), .int .i64 (f 4), .int .i64 (f 6 + 256 * f 7), .int .i64 (f 5), .int .i64 (f 10 + 256 * f 11), .bool (decide (f 3 / 4 % 2 = 1))] 32)).drew.drew = W1 at hb7 HO1 F1 ⊢
          clear wi1 ci1 di1 ti1 wi2 ci2 di2 ti2 wi3 ci3 di3 ti3 wi4 ci4 di4 ti4 wi5 ci5 di5 ti5 wi6 ci6 di6 ti6 wi7 ci7 di7 ti7 wi8 ci8 di8 ti8 wi9 ci9 di9 ti9 wi10 ci10 di10 ti10 wi11 ci11 di11 ti11 mi11 si11 mi7 si7 mi9 si9 v0 v1 v2 v3 v4 v5 v6 v7 v8 v9 v10 v11 q0 q1 q2 q3 q4 q5 q6 q7 q8 q9 q10 q11
          have r0 : W1.cell? ⟨wr.heap.size, 0, none⟩ = some (.int .i64 (f 0)) := cell_of hb7 rfl
          have r1 : W1.cell? ⟨wr.heap.size, 1, none⟩ = some (.int .i64 (f 1)) := cell_of hb7 rfl
          have r2 : W1.cell? ⟨wr.heap.size, 2, none⟩ = some (.int .i64 (f 2)) := cell_of hb7 rfl
          have r3 : W1.cell? ⟨wr.heap.size, 3, none⟩ = some (.int .i64 (f 8 + 256 * f 9)) := cell_of hb7 rfl
          have r4 : W1.cell? ⟨wr.heap.size, 4, none⟩ = some (.bool (decide (f 3 % 2 = 1))) := cell_of hb7 rfl
          have r5 : W1.cell? ⟨wr.heap.size, 5, none⟩ = some (.bool (decide (f 3 / 2 % 2 = 1))) := cell_of hb7 rfl
          have r6 : W1.cell? ⟨wr.heap.size, 6, none⟩ = some (.int .i64 (f 4)) := cell_of hb7 rfl
          have r7 : W1.cell? ⟨wr.heap.size, 7, none⟩ = some (.int .i64 (f 6 + 256 * f 7)) := cell_of hb7 rfl
          have r8 : W1.cell? ⟨wr.heap.size, 8, none⟩ = some (.int .i64 (f 5)) := cell_of hb7 rfl
          have r9 : W1.cell? ⟨wr.heap.size, 9, none⟩ = some (.int .i64 (f 10 + 256 * f 11)) := cell_of hb7 rfl
          have r10 : W1.cell? ⟨wr.heap.size, 10, none⟩ = some (.bool (decide (f 3 / 4 % 2 = 1))) := cell_of hb7 rfl
          go_wp2_with fail
          refine (ref_right_any _ (ofB f)).mono ?_
          rintro e W2 ⟨rfl, f2⟩
          have HO2 := Lib.hid (owns_fr HO1.out f2)
          have F2 := Lib.hid (F1.out.trans f2)
          have hb72 := f2.at hb7 (by simp)
          clear f2 hb7 HO1 F1 r0 r1 r2 r3 r4 r5 r6 r7 r8 r9 r10
          by_cases hz7 : 7 < f 3
          · have HP := Lib.hid (show DecPost w B (.returned (.tuple #[.slice none 0 0, .int .i64 12])) W2 from ⟨F2.out, .inr (.inr (.inl ⟨by rw [← HN.out, HM.out]; omega, by rw [← HN.out, HM.out]; omega, fun h => by have := (h k (by rw [← HN.out, HM.out]; omega)).1; rw [H3.out] at this; omega, rfl⟩))⟩)
            go_wp2
            go_ret2
            exact HP.out
          · by_cases hxok : (ofB f).ok
            · rw [decide_eq_true hxok]
              have HOK := Lib.hid (show okB B k from ⟨by rw [H3.out]; omega, by rw [HX.out]; exact hxok⟩)
              have hz8 : f 3 ≤ 7 := by omega
              have p0 : W2.cell? ⟨wr.heap.size, 0, none⟩ = some (.int .i64 (f 0)) := cell_of hb72 rfl
              have p1 : W2.cell? ⟨wr.heap.size, 1, none⟩ = some (.int .i64 (f 1)) := cell_of hb72 rfl
              have p2 : W2.cell? ⟨wr.heap.size, 2, none⟩ = some (.int .i64 (f 2)) := cell_of hb72 rfl
              have p3 : W2.cell? ⟨wr.heap.size, 3, none⟩ = some (.int .i64 (f 8 + 256 * f 9)) := cell_of hb72 rfl
              have p4 : W2.cell? ⟨wr.heap.size, 4, none⟩ = some (.bool (decide (f 3 % 2 = 1))) := cell_of hb72 rfl
              have p5 : W2.cell? ⟨wr.heap.size, 5, none⟩ = some (.bool (decide (f 3 / 2 % 2 = 1))) := cell_of hb72 rfl
              have p6 : W2.cell? ⟨wr.heap.size, 6, none⟩ = some (.int .i64 (f 4)) := cell_of hb72 rfl
              have p7 : W2.cell? ⟨wr.heap.size, 7, none⟩ = some (.int .i64 (f 6 + 256 * f 7)) := cell_of hb72 rfl
              have p8 : W2.cell? ⟨wr.heap.size, 8, none⟩ = some (.int .i64 (f 5)) := cell_of hb72 rfl
              have p9 : W2.cell? ⟨wr.heap.size, 9, none⟩ = some (.int .i64 (f 10 + 256 * f 11)) := cell_of hb72 rfl
              have p10 : W2.cell? ⟨wr.heap.size, 10, none⟩ = some (.bool (decide (f 3 / 4 % 2 = 1))) := cell_of hb72 rfl
              have hown2 := HO2.out
              unfold OwnE at hown2
              rw [length_entsB] at hown2
              have hwb := F2.out.size
              clear hxok hz7
              go_wp2_with (first | (at_builtin; refine wpList_append_own _ rfl _ _ 22 rfl w.heap.size 32 i0 _ 11 80 Try.underlying22 hi hz0 hz1 hz2 rfl (by decide) _ k _ rfl (hown2.alloc _) ⟨W2.heap.size, 0, none⟩ 1 1 (ofB f).cells rfl rfl (World.news_of_block (heap_alloc_new W2 _)) (by intro u hu; simp only [EntV.cells, List.mem_cons, List.not_mem_nil, or_false] at hu; rcases hu with rfl | rfl | rfl | rfl | rfl | rfl | rfl | rfl | rfl | rfl | rfl <;> rfl) (by unfold maxLen; omega) (by omega) (by rw [World.size_alloc]; omega) ?_) | fail)
              intro v5 w5 hown5 hgrow _
              have hT : OwnE w.heap.size w5 v5 (entsB B (k + 1)) := by unfold OwnE; rw [entsB_succ, List.flatMap_append, List.length_append, length_entsB, HX.out]; simpa using hown5
              have hF5 : Fr [] w w5 := (F2.out.alloc _).grown hgrow (fun k hk => .inr (hown2.lt k hk).1)
              have hKK : ∀ j, j < k + 1 → okB B j := fun j hj => by
                rcases Nat.lt_or_ge j k with h | h
                · exact HK.out j h
                · obtain rfl : j = k := by omega
                  exact HOK.out
              have HT := Lib.hid hT; have HKK := Lib.hid hKK; have HF5 := Lib.hid hF5
              clear hT hKK hF5 hgrow hown5 hb72 hown2
              go_wp2
              go_roundw
              case rel => exact ⟨k + 1, a + 12, by omega, by have := HAK.out; omega, by go_num, HT.out, HKK.out, HF5.out⟩
              case measure => simp [intOf]; omega
            · rw [decide_eq_false hxok]
              have HP := Lib.hid (show DecPost w B (.returned (.tuple #[.slice none 0 0, .int .i64 12])) W2 from ⟨F2.out, .inr (.inr (.inl ⟨by rw [← HN.out, HM.out]; omega, by rw [← HN.out, HM.out]; omega, fun h => by have := (h k (by rw [← HN.out, HM.out]; omega)).2; rw [HX.out] at this; exact hxok this, rfl⟩))⟩)
              clear hxok
              go_wp2
              go_ret2
              exact HP.out
        · have hkm : k = m := by omega
          have HP := Lib.hid (dec_of_own F (by rw [← HN.out]; exact HM.out) hm1 (by rw [← hkm]; exact HK.out) (by rw [← hkm]; exact HO.out))
          have hge : ¬ (a : Int) < (n : Int) := by have := HAK.out; have := HM.out; omega
          go_wp2
          go_ret2
          exact HP.out
  · have HP := Lib.hid (show DecPost w B (.returned (.tuple #[.slice none 0 0, .int .i64 12])) w from ⟨Fr.refl _ _, .inl ⟨by have := HN.out; omega, rfl⟩⟩)
    go_enter Try.func15, Try.ntmps15
    go_wp2
    go_ret2
    exact HP.out

end Go.Proofs.Ytphnjgkaapfocaa

/- The layer 'entry': whether an entry is right. -/
import Derived.Test.YtphnjgkaapfocaaEnt
namespace Go.Proofs.Ytphnjgkaapfocaa
open Go.RowKit

set_option maxHeartbeats 2000000 in
theorem right_any (w : World) (x : EntV) : Calls Try.prog 12 #[x.val] w fun e w' => e = .returned (.bool (decide x.ok)) ∧ Fr [] w w' := by
  obtain ⟨b, hb⟩ : ∃ b, decide x.ok = b := ⟨_, rfl⟩
  have HB := Lib.hid hb
  rw [hb]
  clear hb
  obtain ⟨kind, who, op, dl, wait, force, slot, gen, stream, n, good⟩ := x
  unfold EntV.val
  simp only [EntV.ok] at HB
  go_enter Try.func12, Try.ntmps12
  have hfr := ((Fr.refl [] w).alloc (.cells #[.int .i64 kind, .int .i64 who, .int .i64 op, .int .i64 dl, .bool wait, .bool force, .int .i64 slot, .int .i64 gen, .int .i64 stream, .int .i64 n, .bool good] 32)).alloc (.cells #[.int .i64 op, .int .i64 dl, .bool wait, .bool force, .int .i64 slot, .int .i64 gen, .int .i64 stream] 30)
  have HF := Lib.hid hfr; clear hfr
  go_wp2_with fail
  refine (within_any _ kind 4).mono ?_
  rintro e w0 ⟨rfl, rfl⟩
  by_cases h0 : 0 ≤ kind ∧ kind ≤ 4
  · rw [decide_eq_true h0]
    have H0 := Lib.hid h0; clear h0
    go_wp2_with fail
    refine (within_any _ op 7).mono ?_
    rintro e w1 ⟨rfl, rfl⟩
    by_cases h1 : 0 ≤ op ∧ op ≤ 7
    · rw [decide_eq_true h1]
      have H1 := Lib.hid h1; clear h1
      go_wp2_with fail
      refine (within_any _ who 255).mono ?_
      rintro e w2 ⟨rfl, rfl⟩
      by_cases h2 : 0 ≤ who ∧ who ≤ 255
      · rw [decide_eq_true h2]
        have H2 := Lib.hid h2; clear h2
        go_wp2_with fail
        refine (within_any _ slot 255).mono ?_
        rintro e w3 ⟨rfl, rfl⟩
        by_cases h3 : 0 ≤ slot ∧ slot ≤ 255
        · rw [decide_eq_true h3]
          have H3 := Lib.hid h3; clear h3
          go_wp2_with fail
          refine (within_any _ stream 255).mono ?_
          rintro e w4 ⟨rfl, rfl⟩
          by_cases h4 : 0 ≤ stream ∧ stream ≤ 255
          · rw [decide_eq_true h4]
            have H4 := Lib.hid h4; clear h4
            go_wp2_with fail
            refine (within_any _ gen 65535).mono ?_
            rintro e w5 ⟨rfl, rfl⟩
            by_cases h5 : 0 ≤ gen ∧ gen ≤ 65535
            · rw [decide_eq_true h5]
              have H5 := Lib.hid h5; clear h5
              go_wp2_with fail
              refine (within_any _ dl 65535).mono ?_
              rintro e w6 ⟨rfl, rfl⟩
              by_cases h6 : 0 ≤ dl ∧ dl ≤ 65535
              · rw [decide_eq_true h6]
                have H6 := Lib.hid h6; clear h6
                go_wp2_with fail
                refine (within_any _ n 65535).mono ?_
                rintro e w7 ⟨rfl, rfl⟩
                by_cases h7 : 0 ≤ n ∧ n ≤ 65535
                · rw [decide_eq_true h7]
                  have H7 := Lib.hid h7; clear h7
                  obtain rfl : b = true := by rw [← HB.out]; exact decide_eq_true ⟨H0.out, H1.out, H2.out, H3.out, H4.out, H5.out, H6.out, H7.out⟩
                  go_wp2
                  go_ret
                  exact ⟨rfl, HF.out⟩
                · rw [decide_eq_false h7]
                  obtain rfl : b = false := by rw [← HB.out]; exact decide_eq_false (fun h => h7 h.2.2.2.2.2.2.2)
                  clear h7
                  go_wp2
                  go_ret
                  exact ⟨rfl, HF.out⟩
              · rw [decide_eq_false h6]
                obtain rfl : b = false := by rw [← HB.out]; exact decide_eq_false (fun h => h6 h.2.2.2.2.2.2.1)
                clear h6
                go_wp2
                go_ret
                exact ⟨rfl, HF.out⟩
            · rw [decide_eq_false h5]
              obtain rfl : b = false := by rw [← HB.out]; exact decide_eq_false (fun h => h5 h.2.2.2.2.2.1)
              clear h5
              go_wp2
              go_ret
              exact ⟨rfl, HF.out⟩
          · rw [decide_eq_false h4]
            obtain rfl : b = false := by rw [← HB.out]; exact decide_eq_false (fun h => h4 h.2.2.2.2.1)
            clear h4
            go_wp2
            go_ret
            exact ⟨rfl, HF.out⟩
        · rw [decide_eq_false h3]
          obtain rfl : b = false := by rw [← HB.out]; exact decide_eq_false (fun h => h3 h.2.2.2.1)
          clear h3
          go_wp2
          go_ret
          exact ⟨rfl, HF.out⟩
      · rw [decide_eq_false h2]
        obtain rfl : b = false := by rw [← HB.out]; exact decide_eq_false (fun h => h2 h.2.2.1)
        clear h2
        go_wp2
        go_ret
        exact ⟨rfl, HF.out⟩
    · rw [decide_eq_false h1]
      obtain rfl : b = false := by rw [← HB.out]; exact decide_eq_false (fun h => h1 h.2.1)
      clear h1
      go_wp2
      go_ret
      exact ⟨rfl, HF.out⟩
  · rw [decide_eq_false h0]
    obtain rfl : b = false := by rw [← HB.out]; exact decide_eq_false (fun h => h0 h.1)
    clear h0
    go_wp2
    go_ret
    exact ⟨rfl, HF.out⟩

set_option maxHeartbeats 2000000 in
theorem ref_right_any (w : World) (x : EntV) : Calls Try.prog 13 #[x.val] w fun e w' => e = .returned (.bool (decide x.ok)) ∧ Fr [] w w' := by
  obtain ⟨b, hb⟩ : ∃ b, decide x.ok = b := ⟨_, rfl⟩
  have HB := Lib.hid hb
  rw [hb]
  clear hb
  obtain ⟨kind, who, op, dl, wait, force, slot, gen, stream, n, good⟩ := x
  unfold EntV.val
  simp only [EntV.ok] at HB
  go_enter Try.func13, Try.ntmps13
  go_wp2
  have hc : ∀ (i : Nat) (v : Value), [Value.int .i64 kind, .int .i64 who, .int .i64 op, .int .i64 dl, .bool wait, .bool force, .int .i64 slot, .int .i64 gen, .int .i64 stream, .int .i64 n, .bool good][i]? = some v → (((w.alloc (.cells #[.int .i64 kind, .int .i64 who, .int .i64 op, .int .i64 dl, .bool wait, .bool force, .int .i64 slot, .int .i64 gen, .int .i64 stream, .int .i64 n, .bool good] 32)).alloc (.cells #[.int .i64 who, .int .i64 slot, .int .i64 stream] 3)).alloc (.cells #[.int .i64 gen, .int .i64 dl, .int .i64 n] 3)).cell? ⟨w.heap.size, i, none⟩ = some v := fun i v hv =>
    cell_of (heap_alloc_keep (heap_alloc_keep (heap_alloc_new w (.cells #[.int .i64 kind, .int .i64 who, .int .i64 op, .int .i64 dl, .bool wait, .bool force, .int .i64 slot, .int .i64 gen, .int .i64 stream, .int .i64 n, .bool good] 32)) (.cells #[.int .i64 who, .int .i64 slot, .int .i64 stream] 3)) (.cells #[.int .i64 gen, .int .i64 dl, .int .i64 n] 3)) (by rw [← hv]; simp)
  have hb1 : (((w.alloc (.cells #[.int .i64 kind, .int .i64 who, .int .i64 op, .int .i64 dl, .bool wait, .bool force, .int .i64 slot, .int .i64 gen, .int .i64 stream, .int .i64 n, .bool good] 32)).alloc (.cells #[.int .i64 who, .int .i64 slot, .int .i64 stream] 3)).alloc (.cells #[.int .i64 gen, .int .i64 dl, .int .i64 n] 3)).heap[w.heap.size + 1]? = some (.cells #[.int .i64 who, .int .i64 slot, .int .i64 stream] 3) := heap_alloc_keep (by simpa using heap_alloc_new (w.alloc (.cells #[.int .i64 kind, .int .i64 who, .int .i64 op, .int .i64 dl, .bool wait, .bool force, .int .i64 slot, .int .i64 gen, .int .i64 stream, .int .i64 n, .bool good] 32)) (.cells #[.int .i64 who, .int .i64 slot, .int .i64 stream] 3)) (.cells #[.int .i64 gen, .int .i64 dl, .int .i64 n] 3)
  have hb2 : (((w.alloc (.cells #[.int .i64 kind, .int .i64 who, .int .i64 op, .int .i64 dl, .bool wait, .bool force, .int .i64 slot, .int .i64 gen, .int .i64 stream, .int .i64 n, .bool good] 32)).alloc (.cells #[.int .i64 who, .int .i64 slot, .int .i64 stream] 3)).alloc (.cells #[.int .i64 gen, .int .i64 dl, .int .i64 n] 3)).heap[w.heap.size + 1 + 1]? = some (.cells #[.int .i64 gen, .int .i64 dl, .int .i64 n] 3) := by simpa using heap_alloc_new ((w.alloc (.cells #[.int .i64 kind, .int .i64 who, .int .i64 op, .int .i64 dl, .bool wait, .bool force, .int .i64 slot, .int .i64 gen, .int .i64 stream, .int .i64 n, .bool good] 32)).alloc (.cells #[.int .i64 who, .int .i64 slot, .int .i64 stream] 3)) (.cells #[.int .i64 gen, .int .i64 dl, .int .i64 n] 3)
  have hf : Fr [] w (((w.alloc (.cells #[.int .i64 kind, .int .i64 who, .int .i64 op, .int .i64 dl, .bool wait, .bool force, .int .i64 slot, .int .i64 gen, .int .i64 stream, .int .i64 n, .bool good] 32)).alloc (.cells #[.int .i64 who, .int .i64 slot, .int .i64 stream] 3)).alloc (.cells #[.int .i64 gen, .int .i64 dl, .int .i64 n] 3)) := (((Fr.refl [] w).alloc _).alloc _).alloc _
  generalize (((w.alloc (.cells #[.int .i64 kind, .int .i64 who, .int .i64 op, .int .i64 dl, .bool wait, .bool force, .int .i64 slot, .int .i64 gen, .int .i64 stream, .int .i64 n, .bool good] 32)).alloc (.cells #[.int .i64 who, .int .i64 slot, .int .i64 stream] 3)).alloc (.cells #[.int .i64 gen, .int .i64 dl, .int .i64 n] 3)) = W0 at hc hb1 hb2 hf ⊢
  have d0 : W0.cell? ⟨w.heap.size, 0, none⟩ = some (.int .i64 kind) := hc 0 _ rfl
  have d2 : W0.cell? ⟨w.heap.size, 2, none⟩ = some (.int .i64 op) := hc 2 _ rfl
  have s0 : W0.cell? ⟨w.heap.size + 1, 0, none⟩ = some (.int .i64 who) := cell_of hb1 rfl
  have s1 : W0.cell? ⟨w.heap.size + 1, 1, none⟩ = some (.int .i64 slot) := cell_of hb1 rfl
  have s2 : W0.cell? ⟨w.heap.size + 1, 2, none⟩ = some (.int .i64 stream) := cell_of hb1 rfl
  have l0 : W0.cell? ⟨w.heap.size + 1 + 1, 0, none⟩ = some (.int .i64 gen) := cell_of hb2 rfl
  have l1 : W0.cell? ⟨w.heap.size + 1 + 1, 1, none⟩ = some (.int .i64 dl) := cell_of hb2 rfl
  have l2 : W0.cell? ⟨w.heap.size + 1 + 1, 2, none⟩ = some (.int .i64 n) := cell_of hb2 rfl
  clear hc hb1 hb2
  go_loopw [5] (fun i wr => wr = W0 ∧ ∃ k : Nat, k ≤ 3 ∧ i = .int .i64 (k : Int) ∧ (1 ≤ k → (0 ≤ who ∧ who ≤ 255) ∧ (0 ≤ gen ∧ gen ≤ 65535)) ∧ (2 ≤ k → (0 ≤ slot ∧ slot ≤ 255) ∧ (0 ≤ dl ∧ dl ≤ 65535)) ∧ (3 ≤ k → (0 ≤ stream ∧ stream ≤ 255) ∧ (0 ≤ n ∧ n ≤ 65535))) (fun i _ => 3 - (intOf i).toNat)
  case atStart => exact ⟨rfl, 0, by omega, rfl, fun h => by omega, fun h => by omega, fun h => by omega⟩
  case round =>
    obtain ⟨rfl, k, hk, rfl, hk1, hk2, hk3⟩ := hrel
    have HK1 := Lib.hid hk1; have HK2 := Lib.hid hk2; have HK3 := Lib.hid hk3; clear hk1 hk2 hk3
    rcases (show k = 0 ∨ k = 1 ∨ k = 2 ∨ k = 3 by omega) with rfl | rfl | rfl | rfl
    · by_cases e0 : who < 0
      · obtain rfl : b = false := by rw [← HB.out]; exact decide_eq_false (fun h => by have := h.2.2.1; omega)
        go_wp2
        go_ret
        exact ⟨rfl, hf⟩
      · skip
        by_cases e1 : 255 < who
        · obtain rfl : b = false := by rw [← HB.out]; exact decide_eq_false (fun h => by have := h.2.2.1; omega)
          go_wp2
          go_ret
          exact ⟨rfl, hf⟩
        · skip
          by_cases e2 : gen < 0
          · obtain rfl : b = false := by rw [← HB.out]; exact decide_eq_false (fun h => by have := h.2.2.2.2.2.1; omega)
            go_wp2
            go_ret
            exact ⟨rfl, hf⟩
          · skip
            by_cases e3 : 65535 < gen
            · obtain rfl : b = false := by rw [← HB.out]; exact decide_eq_false (fun h => by have := h.2.2.2.2.2.1; omega)
              go_wp2
              go_ret
              exact ⟨rfl, hf⟩
            · go_wp2
              go_roundw
              case rel => exact ⟨by first | rfl | trivial, 1, by omega, rfl, fun _ => by constructor <;> omega, fun h2 => by omega, fun h3 => by omega⟩
              case measure => simp [intOf]
    · by_cases e0 : slot < 0
      · obtain rfl : b = false := by rw [← HB.out]; exact decide_eq_false (fun h => by have := h.2.2.2.1; omega)
        go_wp2
        go_ret
        exact ⟨rfl, hf⟩
      · skip
        by_cases e1 : 255 < slot
        · obtain rfl : b = false := by rw [← HB.out]; exact decide_eq_false (fun h => by have := h.2.2.2.1; omega)
          go_wp2
          go_ret
          exact ⟨rfl, hf⟩
        · skip
          by_cases e2 : dl < 0
          · obtain rfl : b = false := by rw [← HB.out]; exact decide_eq_false (fun h => by have := h.2.2.2.2.2.2.1; omega)
            go_wp2
            go_ret
            exact ⟨rfl, hf⟩
          · skip
            by_cases e3 : 65535 < dl
            · obtain rfl : b = false := by rw [← HB.out]; exact decide_eq_false (fun h => by have := h.2.2.2.2.2.2.1; omega)
              go_wp2
              go_ret
              exact ⟨rfl, hf⟩
            · go_wp2
              go_roundw
              case rel => exact ⟨by first | rfl | trivial, 2, by omega, rfl, fun _ => HK1.out (by omega), fun h2 => by constructor <;> omega, fun h3 => by omega⟩
              case measure => simp [intOf]
    · by_cases e0 : stream < 0
      · obtain rfl : b = false := by rw [← HB.out]; exact decide_eq_false (fun h => by have := h.2.2.2.2.1; omega)
        go_wp2
        go_ret
        exact ⟨rfl, hf⟩
      · skip
        by_cases e1 : 255 < stream
        · obtain rfl : b = false := by rw [← HB.out]; exact decide_eq_false (fun h => by have := h.2.2.2.2.1; omega)
          go_wp2
          go_ret
          exact ⟨rfl, hf⟩
        · skip
          by_cases e2 : n < 0
          · obtain rfl : b = false := by rw [← HB.out]; exact decide_eq_false (fun h => by have := h.2.2.2.2.2.2.2; omega)
            go_wp2
            go_ret
            exact ⟨rfl, hf⟩
          · skip
            by_cases e3 : 65535 < n
            · obtain rfl : b = false := by rw [← HB.out]; exact decide_eq_false (fun h => by have := h.2.2.2.2.2.2.2; omega)
              go_wp2
              go_ret
              exact ⟨rfl, hf⟩
            · go_wp2
              go_roundw
              case rel => exact ⟨by first | rfl | trivial, 3, by omega, rfl, fun _ => HK1.out (by omega), fun h2 => HK2.out (by omega), fun h3 => by constructor <;> omega⟩
              case measure => simp [intOf]
    · have g1 := HK1.out (by omega); have g2 := HK2.out (by omega); have g3 := HK3.out (by omega)
      clear HK1 HK2 HK3
      have G := Lib.hid (And.intro g1 (And.intro g2 g3)); clear g1 g2 g3
      by_cases e0 : 0 ≤ kind
      · skip
        by_cases e1 : kind ≤ 4
        · skip
          by_cases e2 : 0 ≤ op
          · skip
            by_cases e3 : op ≤ 7
            · skip
              obtain rfl : b = true := by rw [← HB.out]; exact decide_eq_true ⟨⟨e0, e1⟩, ⟨e2, e3⟩, G.out.1.1, G.out.2.1.1, G.out.2.2.1, G.out.1.2, G.out.2.1.2, G.out.2.2.2⟩
              go_wp2
              go_ret
              exact ⟨rfl, hf⟩
            · obtain rfl : b = false := by rw [← HB.out]; exact decide_eq_false (fun h => e3 (by have := h.2.1; omega))
              go_wp2
              go_ret
              exact ⟨rfl, hf⟩
          · obtain rfl : b = false := by rw [← HB.out]; exact decide_eq_false (fun h => e2 (by have := h.2.1; omega))
            go_wp2
            go_ret
            exact ⟨rfl, hf⟩
        · obtain rfl : b = false := by rw [← HB.out]; exact decide_eq_false (fun h => e1 (by have := h.1; omega))
          go_wp2
          go_ret
          exact ⟨rfl, hf⟩
      · obtain rfl : b = false := by rw [← HB.out]; exact decide_eq_false (fun h => e0 (by have := h.1; omega))
        go_wp2
        go_ret
        exact ⟨rfl, hf⟩

end Go.Proofs.Ytphnjgkaapfocaa

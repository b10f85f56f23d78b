/- The walk of EntryMany. -/
import Derived.Test.YtphnjgkaapfocaaAwake13
import Derived.Deep.OwnRows
import Derived.Laws.MakeOwn
namespace Go.Proofs.Ytphnjgkaapfocaa
open Go.RowKit

def ent0 : EntV := ⟨0, 0, 0, 0, false, false, 0, 0, 0, 0, false⟩
theorem ent0_ok (n : Nat) : ∀ x ∈ List.replicate n ent0, x.ok := fun x hx => by
  rw [(List.mem_replicate.1 hx).2]; decide
theorem forms_zero (n : Nat) : forms (List.replicate n ent0) = List.replicate (12 * n) 0 := by
  induction n with
  | zero => rfl
  | succ n ih =>
    rw [List.replicate_succ, show forms (ent0 :: List.replicate n ent0) = ent0.form ++ forms (List.replicate n ent0) from List.flatMap_cons, ih, show ent0.form = List.replicate 12 0 from rfl, List.replicate_append_replicate]
    congr 1; omega
theorem made_ents (w : World) (n : Nat) (h : n ≤ 2000) : EntsAt (w.alloc (.cells (madeCells ent0.cells.toArray (n * 11)) 32)) (some ⟨w.heap.size, 0, none⟩) (List.replicate n ent0) := by
  refine ⟨by simp; omega, fun j x hx => ⟨w.heap.size, 0, rfl, fun i v hv => cell_of (heap_alloc_new w _) ?_⟩⟩
  have hj : j < n := by have := (List.getElem?_eq_some_iff.1 hx).1; simpa using this
  rw [List.getElem?_replicate, if_pos hj] at hx
  simp only [Option.some.injEq] at hx
  subst hx
  have hi : i < 11 := by have := (List.getElem?_eq_some_iff.1 hv).1; simpa [EntV.cells] using this
  have hlt : 0 + j * 11 + i < n * 11 := by omega
  unfold madeCells
  rw [Array.getElem?_map, Array.getElem?_range, if_pos hlt]
  have hs : ent0.cells.toArray.size = 11 := rfl
  simp only [Option.map_some, hs]
  rw [show (0 + j * 11 + i) % 11 = i by omega, ← hv]
  rw [getElem!_pos ent0.cells.toArray i (by rw [hs]; exact hi)]
  simp
theorem made_byts (w : World) (n : Nat) (h : n ≤ 20000) : BytsAt (w.alloc (.cells (madeCells #[Value.int .u8 0] n) 5)) (some ⟨w.heap.size, 0, none⟩) (List.replicate n 0) := by
  refine ⟨by simp; omega, fun x hx => by rw [(List.mem_replicate.1 hx).2]; omega, fun j x hx => ⟨w.heap.size, 0, rfl, cell_of (heap_alloc_new w _) ?_⟩⟩
  have hj : j < n := by have := (List.getElem?_eq_some_iff.1 hx).1; simpa using this
  rw [List.getElem?_replicate, if_pos hj] at hx
  simp only [Option.some.injEq] at hx
  subst hx
  have hlt : 0 + j < n := by omega
  unfold madeCells
  rw [Array.getElem?_map, Array.getElem?_range, if_pos hlt]
  simp [Nat.mod_one]

set_option maxHeartbeats 4000000 in
set_option maxRecDepth 100000 in
theorem many_walk (w : World) (more : Int) (h0 : 0 ≤ more) (h1 : more ≤ 255) :
    Calls Try.prog 6 #[.int .u8 more] w fun e w' => e = .returned (.bool true) ∧ Fr [] w w' := by
  obtain ⟨i0, hi, hz0, hz1, hz2⟩ := info_parts ent_info
  obtain ⟨k, hk⟩ : ∃ k : Nat, 990 + more % 21 = (k : Int) := ⟨(990 + more % 21).toNat, by omega⟩
  have hk1 : 990 ≤ k := by omega
  have hk2 : k ≤ 1010 := by omega
  have hmk1 : ∀ W : World, (Instr.makeSlice 22 (.int .i64 (k : Int)) (.int .i64 (k : Int))).run Try.prog W = .ok (.slice (some ⟨W.heap.size, 0, none⟩) k k) (W.alloc (.cells (madeCells ent0.cells.toArray (k * 11)) 32)) := fun W => by
    have := run_make (P := Try.prog) W 22 32 i0 _ Try.underlying22 hi hz0 .i64 .i64 k k (by omega) (Int.le_refl _) (by rw [hz2]; omega) (by omega)
    simp only [Int.toNat_natCast, hz1] at this
    exact this
  have hmk2 : ∀ W : World, (Instr.makeSlice 24 (.int .i64 (12 * (k : Int))) (.int .i64 (12 * (k : Int)))).run Try.prog W = .ok (.slice (some ⟨W.heap.size, 0, none⟩) (12 * k) (12 * k)) (W.alloc (.cells (madeCells #[Value.int .u8 0] (12 * k)) 5)) := fun W => by
    have := run_make_row' (P := Try.prog) 24 5 (.int .u8 0) 1 Try.underlying24 byte_info rfl .i64 .i64 (12 * k) (by omega) (by omega) W
    rwa [Int.natCast_mul] at this
  obtain ⟨L, hL⟩ : ∃ L, L = List.replicate k ent0 := ⟨_, rfl⟩
  have hlen : L.length = k := by rw [hL]; simp
  have HL := Lib.hid hL; have HLEN := Lib.hid hlen
  have HE := Lib.hid (fun W => made_ents W k (by omega)); have HB := Lib.hid (fun W => made_byts W (12 * k) (by omega))
  clear hL hlen hz0 hz1 hz2 hi
  generalize ent0.cells.toArray = z11 at hmk1 HE
  go_enter Try.func6, Try.ntmps6
  go_wp2_with fail
  refine (awake_any _).mono ?_
  rintro e w1 ⟨rfl, F1⟩
  go_wp2_with fail
  have q := encode_any _ _ k L (by rw [HL.out]; exact HE.out w1)
  rw [HLEN.out] at q
  refine q.mono ?_
  clear q
  intro e w2 h2
  have hE0 := Lib.hid (show EntsAt (w1.alloc (.cells (madeCells z11 (k * 11)) 32)) (some ⟨w1.heap.size, 0, none⟩) L by rw [HL.out]; exact HE.out w1)
  obtain ⟨g2, c2, rfl, hE2, -, f2⟩ := enc_val h2
  have hE02 := Lib.hid (hE0.out.fr f2 (by simp))
  have F2 := Lib.hid ((F1.alloc (.cells (madeCells z11 (k * 11)) 32)).trans f2)
  have HD := Lib.hid (fun W : World => show Calls Try.prog 14 #[.slice (some ⟨W.heap.size, 0, none⟩) (12 * k) (12 * k)] (W.alloc (.cells (madeCells #[Value.int .u8 0] (12 * k)) 5)) (DecPost (W.alloc (.cells (madeCells #[Value.int .u8 0] (12 * k)) 5)) (forms L)) by
    have hb := HB.out W
    rw [← forms_zero, ← HL.out] at hb
    have hfl : (forms L).length = 12 * k := by rw [length_forms, HLEN.out]
    have := decode_any _ _ (12 * k) (forms L) hb (by rw [hfl]; exact Nat.le_refl _)
    rw [hfl] at this
    exact this)
  clear h2 f2 hE0 F1
  by_cases hbig : (1000 : Int) < (k : Int)
  · rw [show encB L = [] from if_neg (fun h => by have := HLEN.out; omega), show encE L = 13 from if_pos (by have := HLEN.out; omega), List.length_nil]
    clear hE2
    go_wp2_with fail
    refine (HD.out _).mono ?_
    intro e w3 h3
    have hfl : (forms L).length = 12 * k := by rw [length_forms, HLEN.out]
    have hdiv : (forms L).length / 12 = k := by omega
    obtain ⟨g3, c3, rfl, hE3, -, f3⟩ := dec_val h3
    rw [show decL (forms L) = [] from if_neg (fun h => by omega), show decE (forms L) = 13 by unfold decE; rw [if_neg (by omega), if_pos (by omega)], List.length_nil]
    have F3 := Lib.hid ((F2.out.alloc (.cells (madeCells #[Value.int .u8 0] (12 * k)) 5)).trans f3)
    clear h3 hE3 f3 hfl hdiv
    go_wp2
    go_ret
    exact ⟨rfl, F3.out⟩
  · have hok : ∀ x ∈ L, x.ok := by rw [HL.out]; exact ent0_ok k
    have h1000 : L.length ≤ 1000 := by have := HLEN.out; omega
    rw [(encB_yes h1000 hok).1, (encB_yes h1000 hok).2, length_forms, HLEN.out]
    have HOK := Lib.hid hok; have H1000 := Lib.hid h1000
    clear hE2 hok h1000
    go_wp2_with fail
    refine (HD.out _).mono ?_
    intro e w3 h3
    obtain ⟨g3, c3, rfl, hE3, -, f3⟩ := dec_forms h3 H1000.out HOK.out
    rw [HLEN.out]
    have hE03 := Lib.hid ((hE02.out.fr ((Fr.refl [] w2).alloc (.cells (madeCells #[Value.int .u8 0] (12 * k)) 5)) (by simp)).fr f3 (by simp))
    have F3 := Lib.hid ((F2.out.alloc (.cells (madeCells #[Value.int .u8 0] (12 * k)) 5)).trans f3)
    have HE3 := Lib.hid hE3
    clear h3 hE3 f3
    go_wp2_with fail
    have q := fun c' c'' : Nat => same_any _ _ _ c' c'' L L hE03.out HE3.out
    rw [HLEN.out, decide_eq_true rfl] at q
    refine (q _ _).mono ?_
    clear q
    rintro e w4 ⟨rfl, f4⟩
    have F4 := Lib.hid (F3.out.trans f4)
    clear f4
    go_wp2
    go_ret
    exact ⟨rfl, F4.out⟩

end Go.Proofs.Ytphnjgkaapfocaa

/- The walk of 'RoundOnce'. -/
import Derived.Test.YtahkkodeppeknaaRoundG
import Derived.Shelf.RegionOpen
namespace Go.Proofs.Ytahkkodeppeknaa
open Go.RowKit Go.Shelf
attribute [local go_sem] Oper.semAt_some

theorem mod_wrap {N F k : Nat} (hF : F < N) (hk : k < N) : ((F : Int) + (k : Int)) % (N : Int) = if F + k < N then (F : Int) + k else (F : Int) + k - N := by
  split
  · exact Int.emod_eq_of_lt (by omega) (by omega)
  · rw [← Int.sub_emod_right]; exact Int.emod_eq_of_lt (by omega) (by omega)
theorem mod_next {N : Nat} {y : Int} (h0 : 0 ≤ y) (h1 : y < N) : (y + 1) % (N : Int) = if y + 1 < N then y + 1 else 0 := by
  split
  · exact Int.emod_eq_of_lt (by omega) (by omega)
  · rw [show y + 1 = (N : Int) by omega]; exact Int.emod_self

/-- The number told k-th; when i is told; what is counted ahead of round k; the last one told. -/
def rot (N F k : Nat) : Nat := if F + k < N then F + k else F + k - N
def pos (N F i : Nat) : Nat := if F ≤ i then i - F else i + N - F
def seenL (N F k : Nat) : List Int := (List.range N).map (fun i => if pos N F i < k then 1 else 0)
def lastT (N F k : Nat) : Int := if k = 0 then -1 else (rot N F (k - 1) : Int)
theorem length_seenL (N F k : Nat) : (seenL N F k).length = N := by simp [seenL]
theorem get_seenL {N F k i : Nat} (h : i < N) : (seenL N F k)[i]? = some (if pos N F i < k then 1 else 0) := by simp [seenL, h]
theorem rot_lt {N F k : Nat} (hF : F < N) (hk : k < N) : rot N F k < N := by unfold rot; split <;> omega
theorem pos_rot {N F k : Nat} (hF : F < N) (hk : k < N) : pos N F (rot N F k) = k := by unfold pos rot; split <;> split <;> omega
theorem pos_lt {N F i : Nat} (hF : F < N) (hi : i < N) : pos N F i < N := by unfold pos; split <;> omega
theorem rot_pos {N F i : Nat} (hF : F < N) (hi : i < N) : rot N F (pos N F i) = i := by unfold pos rot; split <;> split <;> omega
theorem seenL_0 (N F : Nat) : seenL N F 0 = List.replicate N 0 := by
  apply List.ext_getElem (by simp [seenL]); intro i h1 h2; simp [seenL]
theorem seenL_step {N F k : Nat} (hF : F < N) (hk : k < N) : (seenL N F k).set (rot N F k) 1 = seenL N F (k + 1) := by
  apply List.ext_getElem? ; intro i
  by_cases hi : i < N
  · rw [get_seenL hi]
    by_cases he : rot N F k = i
    · subst he
      rw [List.getElem?_set_self (by rw [length_seenL]; exact hi), if_pos (by rw [pos_rot hF hk]; omega)]
    · rw [List.getElem?_set_ne he, get_seenL hi]
      have : pos N F i ≠ k := fun h => he (by rw [← h, rot_pos hF hi])
      by_cases hp : pos N F i < k
      · rw [if_pos hp, if_pos (by omega)]
      · rw [if_neg hp, if_neg (by omega)]
  · rw [List.getElem?_eq_none (by simp [length_seenL]; omega), List.getElem?_eq_none (by simp [length_seenL]; omega)]
theorem get_rot {N F k : Nat} (hF : F < N) (hk : k < N) : (ofList N F)[k]? = some (rot N F k : Int) := by
  rw [get_ofList hk, mod_wrap hF hk]; unfold rot; split <;> simp <;> omega
theorem next_rot {N F k : Nat} (hF : F < N) (hk : k < N) (h0 : k ≠ 0) : (lastT N F k + 1) % (N : Int) = (rot N F k : Int) := by
  unfold lastT
  rw [if_neg h0, mod_next (by omega) (by have := rot_lt hF (show k - 1 < N by omega); omega)]
  unfold rot
  split <;> split <;> split <;> omega
theorem madeCells_one4 (z : Value) (n : Nat) : madeCells #[z] n = Array.replicate n z := by
  apply Array.toList_inj.1
  rw [toList_madeCells_one]
  simp

/-- In a round a region goes as anywhere, where it defers nothing. -/
theorem opIn_round {P : Program} {n r : Nat} {o : Oper} {a : Act} {w : World} {K : Act → World → Prop} {Q : Exit → Act → World → Prop} (hd : ∀ c, o.op ≠ .defer c) (h : o.wpIn Fence.wide n P a w K Q) : o.wpIn (Fence.wide.inRound r) n P a w K Q := by
  unfold Oper.wpIn at *
  refine ⟨fun _ _ => trivial, ?_⟩
  have h2 := h.2
  rw [show Fence.wide.round = none from rfl, Oper.semAt_none] at h2
  rw [Fence.inRound_round, Oper.semAt_some _ _ _ hd]
  exact h2
theorem anyIn_round {P : Program} {n r : Nat} {md : Region.Mode} {ops : Array Oper} {Q : Exit → Act → World → Prop} (hd : ∀ (i : Nat) (o : Oper), ops[i]? = some o → ∀ c, o.op ≠ .defer c) :
    ∀ (fuel : Nat) (listed : Array Bool) (a : Act) (w : World), wpAnyIn Fence.wide n P md ops Q fuel listed a w → wpAnyIn (Fence.wide.inRound r) n P md ops Q fuel listed a w
  | 0, _, _, _, h => h
  | fuel + 1, _, _, _, h => ⟨h.1, fun i hi => by
    have h2 := wpOpIn_mono (fun a' w' h' => anyIn_round (r := r) hd fuel _ a' w' h') (h.2 i hi)
    unfold wpOpIn at h2 ⊢
    cases ho : ops[i]? with
    | none => simpa only [ho] using h2
    | some o =>
      simp only [ho] at h2 ⊢
      split
      · rename_i hw
        rw [if_pos hw] at h2
        exact opIn_round (hd i o ho) h2
      · rename_i hw
        rw [if_neg hw] at h2
        exact ⟨fun _ _ => trivial, h2.2⟩⟩
theorem region_round {P : Program} {n r id : Nat} {ops : Array Oper} {Q : Exit → Act → World → Prop} {a : Act} {w : World} (hm : P.follows .mixedOrders = true) (hd : ∀ o ∈ ops.toList, ∀ c, o.op ≠ .defer c)
    (h : wpAnyIn Fence.wide n P .any ops Q ops.size (Array.replicate ops.size false) a w.drew) : (Code.region id ops true).wpIn (Fence.wide.inRound r) n P Q a w :=
  wpIn_region_any hm (anyIn_round (fun i o ho => hd o (by rw [Array.mem_toList_iff]; exact Array.mem_of_getElem? ho)) _ _ _ _ h)

/-- Between two rounds. -/
def OnceInv (w2 : World) (rb b N F : Nat) : Nat → World → Blk → Prop := fun k W O =>
  O = (fun x => x = rb ∨ x = b + 1 ∨ x = b + 1 + 1 + 1 ∨ x = b + 1 + 1 + 1 + 1) ∧ W.heap[rb]? = some (.cells #[.bool false] 4) ∧
  W.heap[b + 1]? = some (.cells ((seenL N F k).map (Value.int .i64)).toArray 3) ∧ W.heap[b + 1 + 1 + 1]? = some (.cells #[.int .i64 k] 3) ∧ W.heap[b + 1 + 1 + 1 + 1]? = some (.cells #[.int .i64 (lastT N F k)] 3) ∧
  Stp (fun x => x = rb ∨ x = b + 1 ∨ x = b + 1 + 1 + 1 ∨ x = b + 1 + 1 + 1 + 1) w2 W
theorem OnceInv.stable (w2 : World) (rb b N F : Nat) {B : Nat} (hB : w2.heap.size ≤ B) : Stable B (OnceInv w2 rb b N F) := by
  rintro k W _ W' ⟨rfl, h1, h2, h3, h4, hs⟩ e1 e2 e3 e4 e5
  refine ⟨rfl, (e5 _ (.inl (.inl rfl))).trans h1, (e5 _ (.inl (.inr (.inl rfl)))).trans h2, (e5 _ (.inl (.inr (.inr (.inl rfl))))).trans h3, (e5 _ (.inl (.inr (.inr (.inr rfl))))).trans h4, ?_⟩
  exact hs.outside (O1 := fun x => x = rb ∨ x = b + 1 ∨ x = b + 1 + 1 + 1 ∨ x = b + 1 + 1 + 1 + 1) e1 e2 e3 e4 (fun x hx => e5 x (hx.imp id (fun h => by omega)))

theorem leave_ret_at {P : Program} {n : Nat} {fn : Func} {R : Ending → World → Prop} {tmps : Array Value} {D : Nat} {W : World} (v : Value) (hK : W.heap[D]? = some (.deferred (some [])))
    (hv : (results fn tmps).run P (W.putObj D (.deferred none)) = .ok v (W.putObj D (.deferred none))) (hR : R (.returned v) (W.putObj D (.deferred none))) :
    bodyPostM Fence.wide n P fn R .ret { tmps, defers := [{ target := .collected D, args := #[] }] } W := by
  refine ⟨by simp, .inl ⟨_, _, rfl, run_takeDeferred hK, ?_⟩⟩
  exact ⟨v, hv, hR⟩
def OnceEnd (W2 : World) (b r : Nat) (k : Int) : World :=
  (((W2.setCell ⟨b + 1, r, none⟩ (.int .i64 1)).drew.setCell ⟨b + 1 + 1 + 1 + 1, 0, none⟩ (.int .i64 r)).setCell ⟨b + 1 + 1 + 1, 0, none⟩ (.int .i64 (k + 1)))
theorem once_round {w2 W2 : World} {rb b N F k : Nat} {O : Blk} (hF : F < N) (hk : k < N) (hrb : rb < b) (h : OnceInv w2 rb b N F k W2 O) (hb : ∀ x, O x → x < W2.heap.size) :
    ∃ O', Stp O W2 (OnceEnd W2 b (rot N F k) k) ∧ Grw O O' W2 (OnceEnd W2 b (rot N F k) k) ∧ OnceInv w2 rb b N F (k + 1) (OnceEnd W2 b (rot N F k) k) O' := by
  obtain ⟨rfl, hr, hs, hc, hl, hst⟩ := h
  have hsz : (OnceEnd W2 b (rot N F k) k).heap.size = W2.heap.size := by simp [OnceEnd, World.setCell, World.drew]
  have st : Stp (fun x => x = rb ∨ x = b + 1 ∨ x = b + 1 + 1 + 1 ∨ x = b + 1 + 1 + 1 + 1) W2 (OnceEnd W2 b (rot N F k) k) :=
    ((((Stp.refl _ W2).setCell (p := ⟨b + 1, rot N F k, none⟩) (.inl (.inr (.inl rfl))) _).drew).setCell (p := ⟨b + 1 + 1 + 1 + 1, 0, none⟩) (.inl (.inr (.inr (.inr rfl)))) _).setCell (p := ⟨b + 1 + 1 + 1, 0, none⟩) (.inl (.inr (.inr (.inl rfl)))) _
  refine ⟨_, st, fun x hx => ⟨by rw [hsz]; exact hb x hx, .inl hx⟩, rfl, ?_, ?_, ?_, ?_, hst.then st (fun x hx => .inl hx)⟩
  · unfold OnceEnd
    rw [Below.heap_setCell _ _ _ _ (show rb ≠ b + 1 + 1 + 1 by omega), Below.heap_setCell _ _ _ _ (show rb ≠ b + 1 + 1 + 1 + 1 by omega)]
    exact (Below.heap_setCell _ _ _ _ (show rb ≠ b + 1 by omega)).trans hr
  · unfold OnceEnd
    rw [Below.heap_setCell _ _ _ _ (show b + 1 ≠ b + 1 + 1 + 1 by omega), Below.heap_setCell _ _ _ _ (show b + 1 ≠ b + 1 + 1 + 1 + 1 by omega)]
    have h1 := heap_setCell_same (i := rot N F k) hs (.int .i64 1)
    refine Eq.trans h1 ?_
    rw [← seenL_step hF hk, List.map_set]
    simp
  · unfold OnceEnd
    have h1 : ((W2.setCell ⟨b + 1, rot N F k, none⟩ (.int .i64 1)).drew.setCell ⟨b + 1 + 1 + 1 + 1, 0, none⟩ (.int .i64 (rot N F k))).heap[b + 1 + 1 + 1]? = some (.cells #[.int .i64 k] 3) := by
      rw [Below.heap_setCell _ _ _ _ (show b + 1 + 1 + 1 ≠ b + 1 + 1 + 1 + 1 by omega)]
      exact (Below.heap_setCell _ _ _ _ (show b + 1 + 1 + 1 ≠ b + 1 by omega)).trans hc
    have h2 := heap_setCell_same (i := 0) h1 (.int .i64 ((k : Int) + 1))
    simpa using h2
  · unfold OnceEnd
    rw [Below.heap_setCell _ _ _ _ (show b + 1 + 1 + 1 + 1 ≠ b + 1 + 1 + 1 by omega)]
    have h1 : ((W2.setCell ⟨b + 1, rot N F k, none⟩ (.int .i64 1)).drew).heap[b + 1 + 1 + 1 + 1]? = some (.cells #[.int .i64 (lastT N F k)] 3) :=
      (Below.heap_setCell _ _ _ _ (show b + 1 + 1 + 1 + 1 ≠ b + 1 by omega)).trans hl
    have h2 := heap_setCell_same (i := 0) h1 (.int .i64 (rot N F k : Int))
    refine Eq.trans h2 ?_
    simp [lastT]

set_option maxHeartbeats 2000000 in
theorem once4_walk (w : World) (many from' : Int) (h1 : 0 ≤ many) (h2 : many ≤ 255) (h3 : -9223372036854775808 ≤ from') (h4 : from' ≤ 9223372036854775807) :
    Calls Try.prog 3 #[.int .u8 many, .int .i64 from'] w fun e w' => e = .returned (.bool true) ∧ Fr [] w w' := by
  refine (callsIn_wide (n := 3)).1 (callsIn_of_wp_marks Try.func3 rfl trivial (wpIn_wide.2 ?_) rfl)
  simp only [Try.ntmps3, List.size_toArray, List.length_cons, List.length_nil, Nat.reduceAdd, Nat.reduceSub, Array.replicate_succ, Array.replicate_zero, List.push_toArray, List.append_toArray, List.nil_append, List.cons_append]
  go_wp2_with fail
  refine (awake_any _).mono ?_
  rintro e w1 ⟨rfl, f1⟩
  have F1 := ((Fr.refl [] w).alloc (.cells #[.bool false] 4)).trans f1
  obtain ⟨i0, hi, hz0, hz1, hz2⟩ := info_parts round_info_int
  obtain ⟨N, hN⟩ : ∃ N : Nat, 1 + many % 100 = (N : Int) := ⟨(1 + many % 100).toNat, by omega⟩
  have hN1 : 1 ≤ N := by omega
  have hN2 : N ≤ 100 := by omega
  have hmake : ∀ wx : World, (Instr.makeSlice 23 (.int .i64 (N : Int)) (.int .i64 (N : Int))).run Try.prog wx = .ok (.slice (some ⟨wx.heap.size, 0, none⟩) N N) (wx.alloc (.cells (madeCells #[.int .i64 0] N) 3)) := fun wx => by
    have h := run_make (P := Try.prog) wx 23 3 i0 (.int .i64 0) Try.underlying23 hi hz0 .i64 .i64 (N : Int) (N : Int) (by omega) (by omega) (by rw [hz2]; omega) (by omega)
    rw [hz1] at h
    simpa [Value.cells] using h
  go_wp2_with fail
  clear hmake hi hz0 hz1 hz2
  refine (of_any_new _ (N : Int) from' (by omega) (by omega) (by omega) (by omega)).mono ?_
  rintro e w2 ⟨s, g, lb, C, rfl, rfl, hg, hI, hC, f2⟩
  have hrb0 : w1.heap[w.heap.size]? = some (.cells #[.bool false] 4) := (Stp.of_fr f1).at (heap_alloc_new w _) (by simp)
  have hlt1 : w.heap.size < w1.heap.size := heap_lt hrb0
  have hrb1 := heap_alloc_keep (heap_alloc_keep (heap_alloc_keep (heap_alloc_keep (heap_alloc_keep hrb0 (.cells #[.int .i64 (N : Int)] 3)) (.cells (madeCells #[.int .i64 0] N) 3)) (.cells #[.slice (some ⟨w1.heap.size + 1, 0, none⟩) N N] 23)) (.cells #[.int .i64 0] 3)) (.cells #[.int .i64 (-1)] 3)
  have hnb1 := heap_alloc_keep (heap_alloc_keep (heap_alloc_keep (heap_alloc_keep (heap_alloc_new w1 (.cells #[.int .i64 (N : Int)] 3)) (.cells (madeCells #[.int .i64 0] N) 3)) (.cells #[.slice (some ⟨w1.heap.size + 1, 0, none⟩) N N] 23)) (.cells #[.int .i64 0] 3)) (.cells #[.int .i64 (-1)] 3)
  have hsb1 := heap_alloc_keep (heap_alloc_keep (heap_alloc_keep (heap_alloc_new (w1.alloc (.cells #[.int .i64 (N : Int)] 3)) (.cells (madeCells #[.int .i64 0] N) 3)) (.cells #[.slice (some ⟨w1.heap.size + 1, 0, none⟩) N N] 23)) (.cells #[.int .i64 0] 3)) (.cells #[.int .i64 (-1)] 3)
  have hsc1 := heap_alloc_keep (heap_alloc_keep (heap_alloc_new ((w1.alloc (.cells #[.int .i64 (N : Int)] 3)).alloc (.cells (madeCells #[.int .i64 0] N) 3)) (.cells #[.slice (some ⟨w1.heap.size + 1, 0, none⟩) N N] 23)) (.cells #[.int .i64 0] 3)) (.cells #[.int .i64 (-1)] 3)
  have hcb1 := heap_alloc_keep (heap_alloc_new (((w1.alloc (.cells #[.int .i64 (N : Int)] 3)).alloc (.cells (madeCells #[.int .i64 0] N) 3)).alloc (.cells #[.slice (some ⟨w1.heap.size + 1, 0, none⟩) N N] 23)) (.cells #[.int .i64 0] 3)) (.cells #[.int .i64 (-1)] 3)
  have hlb1 := heap_alloc_new ((((w1.alloc (.cells #[.int .i64 (N : Int)] 3)).alloc (.cells (madeCells #[.int .i64 0] N) 3)).alloc (.cells #[.slice (some ⟨w1.heap.size + 1, 0, none⟩) N N] 23)).alloc (.cells #[.int .i64 0] 3)) (.cells #[.int .i64 (-1)] 3)
  have FA := ((((F1.alloc (.cells #[.int .i64 (N : Int)] 3)).alloc (.cells (madeCells #[.int .i64 0] N) 3)).alloc (.cells #[.slice (some ⟨w1.heap.size + 1, 0, none⟩) N N] 23)).alloc (.cells #[.int .i64 0] 3)).alloc (.cells #[.int .i64 (-1)] 3)
  simp only [World.size_alloc] at hsb1 hsc1 hcb1 hlb1
  have hszA : (((((w1.alloc (.cells #[.int .i64 (N : Int)] 3)).alloc (.cells (madeCells #[.int .i64 0] N) 3)).alloc (.cells #[.slice (some ⟨w1.heap.size + 1, 0, none⟩) N N] 23)).alloc (.cells #[.int .i64 0] 3)).alloc (.cells #[.int .i64 (-1)] 3)).heap.size = w1.heap.size + 1 + 1 + 1 + 1 + 1 := by simp only [World.size_alloc]
  generalize (((((w1.alloc (.cells #[.int .i64 (N : Int)] 3)).alloc (.cells (madeCells #[.int .i64 0] N) 3)).alloc (.cells #[.slice (some ⟨w1.heap.size + 1, 0, none⟩) N N] 23)).alloc (.cells #[.int .i64 0] 3)).alloc (.cells #[.int .i64 (-1)] 3)) = wa at *
  rw [hszA] at hC
  have hsz2 := f2.size
  rw [hszA] at hsz2
  clear hszA
  generalize w1.heap.size = b at *
  have hrb := (Stp.of_fr f2).at hrb1 (by simp)
  have hnb := (Stp.of_fr f2).at hnb1 (by simp)
  have hsb := (Stp.of_fr f2).at hsb1 (by simp)
  have hsc := (Stp.of_fr f2).at hsc1 (by simp)
  have hcb := (Stp.of_fr f2).at hcb1 (by simp)
  have hlb := (Stp.of_fr f2).at hlb1 (by simp)
  have F2 := FA.trans f2
  clear hrb0 hrb1 hnb1 hsb1 hsc1 hcb1 hlb1 FA f2 f1 F1
  obtain ⟨F, hF⟩ : ∃ F, F = ofFrom (min (N : Int) 100000) from' := ⟨_, rfl⟩
  have hFN : F < N := by rw [hF]; unfold ofFrom; split <;> omega
  have hL : ofSeq (N : Int) from' = ofList N F := by unfold ofSeq; rw [← hF]; congr 1; omega
  rw [hL] at hI
  clear hL hF
  have e1 := fun (wx : World) => run_eql_func_nil (P := Try.prog) wx Try.underlying25 (.func g) #[] lb
  have HG := Lib.hid hg; have HI := Lib.hid hI; have HC := Lib.hid hC; clear hg hI hC
  have HRB := Lib.hid hrb; have HSB := Lib.hid hsb; have HCB := Lib.hid hcb; have HLB := Lib.hid hlb; clear hrb hsb hcb hlb
  have HNB := Lib.hid hnb; have HSC := Lib.hid hsc; clear hnb hsc
  go_wp2
  refine wp_range (C := C) (xs := ofList N F) (enc := encI) rfl HG.out HI.out (fun x => rfl)
    (OnceInv w2 w.heap.size b N F) (fun _ _ _ _ => False) (OnceInv.stable _ _ _ _ _ (Nat.le_refl _)) (fun _ _ _ _ _ h _ _ _ _ _ => h)
    (fun x => x = w.heap.size ∨ x = b + 1 ∨ x = b + 1 + 1 + 1 ∨ x = b + 1 + 1 + 1 + 1) (fun x hx => by omega)
    (fun x hx h => by have := HC.out x hx; omega)
    ⟨rfl, HRB.out, by rw [HSB.out, madeCells_one4, seenL_0]; simp, HCB.out, HLB.out, Stp.refl _ _⟩ ?round ?done ?stop
  case round =>
    clear e1
    have hk100 : N ≤ 100 := hN2
    have hmix : Try.prog.follows .mixedOrders = true := by kernel_rfl
    intro l' k x W1 O1 hx
    have hk : k < N := by have := (List.getElem?_eq_some_iff.1 hx).1; rwa [length_ofList] at this
    obtain rfl : x = (rot N F k : Int) := by rw [get_rot hFN hk] at hx; simpa using hx.symm
    clear hx
    simp only [encI, List.zip_toArray, List.zip_cons_cons, List.zip_nil_right, List.foldl_toArray', List.foldl_cons, List.foldl_nil, List.setIfInBounds_toArray, List.set_cons_zero, List.set_cons_succ]
    gi_wp2
    refine ⟨rfl, ?_⟩
    rintro W2 ⟨rfl, hr, hs, hc, hl, hst⟩ hb2 hszW
    have hn : W2.heap[b]? = some (.cells #[.int .i64 (N : Int)] 3) := hst.at HNB.out (by omega)
    have hsc : W2.heap[b + 1 + 1]? = some (.cells #[.slice (some ⟨b + 1, 0, none⟩) N N] 23) := hst.at HSC.out (by omega)
    have q1 : W2.cell? ⟨b, 0, none⟩ = some (.int .i64 (N : Int)) := cell_of (i := 0) hn rfl
    have q2 : W2.cell? ⟨b + 1 + 1, 0, none⟩ = some (.slice (some ⟨b + 1, 0, none⟩) N N) := cell_of (i := 0) hsc rfl
    have q3 : W2.cell? ⟨b + 1 + 1 + 1, 0, none⟩ = some (.int .i64 (k : Int)) := cell_of (i := 0) hc rfl
    have q4 : W2.cell? ⟨b + 1 + 1 + 1 + 1, 0, none⟩ = some (.int .i64 (lastT N F k)) := cell_of (i := 0) hl rfl
    have q5 : W2.frozen? ⟨b + 1 + 1 + 1, 0, none⟩ = false := frozen_of hc
    have q6 : W2.frozen? ⟨b + 1 + 1 + 1 + 1, 0, none⟩ = false := frozen_of hl
    have hrl := rot_lt hFN hk
    have q7 : W2.cell? ⟨b + 1, rot N F k, none⟩ = some (.int .i64 0) := by
      have h7 : (seenL N F k)[rot N F k]? = some 0 := by rw [get_seenL hrl, pos_rot hFN hk, if_neg (by omega)]
      exact cell_of hs (by simp [h7])
    have q8 : W2.frozen? ⟨b + 1, rot N F k, none⟩ = false := frozen_of hs
    have fin := once_round (rb := w.heap.size) hFN hk hlt1 ⟨rfl, hr, hs, hc, hl, hst⟩ hb2
    have FIN := Lib.hid fin; clear fin
    have HR := Lib.hid hr; have HS := Lib.hid hs; have HCc := Lib.hid hc; have HLl := Lib.hid hl; clear hr hs hc hl hn hsc
    have hx0 : (0 : Int) ≤ (rot N F k : Int) := by omega
    have hx1 : (rot N F k : Int) < (N : Int) := by omega
    obtain ⟨y, hy⟩ : ∃ y, y = lastT N F k := ⟨_, rfl⟩
    obtain ⟨r, hr⟩ : ∃ r, r = rot N F k := ⟨_, rfl⟩
    rw [← hy] at q4
    rw [← hr] at hrl hx0 hx1 q7 q8 FIN ⊢
    unfold OnceEnd at FIN
    have hw1 : IntKind.i64.wrap 1 = 1 := rfl
    by_cases hk0 : k = 0
    · have hy1 : y = -1 := by rw [hy, hk0]; rfl
      have HY := Lib.hid hy; have HRR := Lib.hid hr; clear hy hr
      subst hy1
      clear hk0
      gi_wp2
      refine region_round hmix (by simp) ?_
      refine wpAnyIn_take (i := 1) (oi := _) (v := ?_) rfl rfl (by kernel_rfl) (by kernel_rfl) (by kernel_rfl) (fun _ _ _ h => h) ⟨Or.inl ⟨by rfl, ?_⟩, fun _ => rfl⟩ ?_
      rotate_left
      · intro w
        try simp only [List.getElem_toArray, List.getElem_cons_succ, List.getElem_cons_zero]
        go_simp
        try with_reducible rfl
      try simp only [Act.put, List.getElem_toArray, List.getElem_cons_succ, List.getElem_cons_zero, List.setIfInBounds_toArray, List.set_cons_zero, List.set_cons_succ]
      refine wpAnyIn_take (i := 3) (oi := _) (v := ?_) rfl rfl (by kernel_rfl) (by kernel_rfl) (by kernel_rfl) (fun _ _ _ h => h) ⟨Or.inl ⟨by rfl, ?_⟩, fun _ => rfl⟩ ?_
      rotate_left
      · intro w
        try simp only [List.getElem_toArray, List.getElem_cons_succ, List.getElem_cons_zero]
        go_simp
        try with_reducible rfl
      try simp only [Act.put, List.getElem_toArray, List.getElem_cons_succ, List.getElem_cons_zero, List.setIfInBounds_toArray, List.set_cons_zero, List.set_cons_succ]
      refine wpAnyIn_ready (rs := [0, 2]) (by kernel_rfl) (by simp) ?_
      refine (AllReadyIn.cons (o := _) rfl (fun K hK => ?_) (AllReadyIn.cons (o := _) rfl (fun K hK => ?_) AllReadyIn.nil))
      · simp only [List.getElem_toArray, List.getElem_cons_zero]
        try rw [if_pos (by rfl)]
        unfold Oper.wpIn
        refine ⟨fun _ _ => trivial, ?_⟩
        rw [show Fence.wide.round = none from rfl, Oper.semAt_none]
        go_simp
        refine hK _ _ ?_
        clear hK K
        try simp only [Act.put, List.getElem_toArray, List.getElem_cons_zero, List.setIfInBounds_toArray, List.set_cons_zero, List.set_cons_succ]
        refine wpAnyIn_ready (rs := [2]) (by kernel_rfl) (by simp) ?_
        refine (AllReadyIn.cons (o := _) rfl (fun K hK => ?_) AllReadyIn.nil)
        simp only [List.getElem_toArray, List.getElem_cons_succ, List.getElem_cons_zero]
        try rw [if_pos (by rfl)]
        unfold Oper.wpIn
        refine ⟨fun _ _ => trivial, ?_⟩
        rw [show Fence.wide.round = none from rfl, Oper.semAt_none]
        go_simp
        refine hK _ _ ?_
        clear hK K
        try simp only [Act.put, List.getElem_toArray, List.getElem_cons_succ, List.getElem_cons_zero, List.setIfInBounds_toArray, List.set_cons_zero, List.set_cons_succ]
        refine wpAnyIn_take (i := 4) (oi := _) (v := ?_) rfl rfl (by kernel_rfl) (by kernel_rfl) (by kernel_rfl) (fun _ _ _ h => h) ⟨Or.inl ⟨by rfl, ?_⟩, fun _ => rfl⟩ ?_
        rotate_left
        · intro w
          try simp only [List.getElem_toArray, List.getElem_cons_succ, List.getElem_cons_zero]
          go_simp
          try with_reducible rfl
        try simp only [Act.put, List.getElem_toArray, List.getElem_cons_succ, List.getElem_cons_zero, List.setIfInBounds_toArray, List.set_cons_zero, List.set_cons_succ]
        refine wpAnyIn_ready (rs := [5]) (by kernel_rfl) (by simp) ?_
        refine (AllReadyIn.cons (o := _) rfl (fun K hK => ?_) AllReadyIn.nil)
        simp only [List.getElem_toArray, List.getElem_cons_succ, List.getElem_cons_zero]
        try rw [if_pos (by rfl)]
        unfold Oper.wpIn
        refine ⟨fun _ _ => trivial, ?_⟩
        rw [show Fence.wide.round = none from rfl, Oper.semAt_none]
        go_simp
        refine hK _ _ ?_
        clear hK K
        try simp only [Act.put, List.getElem_toArray, List.getElem_cons_succ, List.getElem_cons_zero, List.setIfInBounds_toArray, List.set_cons_zero, List.set_cons_succ]
        refine wpAnyIn_take (i := 6) (oi := _) (v := ?_) rfl rfl (by kernel_rfl) (by kernel_rfl) (by kernel_rfl) (fun _ _ _ h => h) ⟨Or.inl ⟨by rfl, ?_⟩, fun _ => rfl⟩ ?_
        rotate_left
        · intro w
          try simp only [List.getElem_toArray, List.getElem_cons_succ, List.getElem_cons_zero]
          go_simp
          try with_reducible rfl
        try simp only [Act.put, List.getElem_toArray, List.getElem_cons_succ, List.getElem_cons_zero, List.setIfInBounds_toArray, List.set_cons_zero, List.set_cons_succ]
        refine wpAnyIn_take (i := 7) (oi := _) (v := ?_) rfl rfl (by kernel_rfl) (by kernel_rfl) (by kernel_rfl) (fun _ _ _ h => h) ⟨Or.inl ⟨by rfl, ?_⟩, fun _ => rfl⟩ ?_
        rotate_left
        · intro w
          try simp only [List.getElem_toArray, List.getElem_cons_succ, List.getElem_cons_zero]
          go_simp
          try with_reducible rfl
        try simp only [Act.put, List.getElem_toArray, List.getElem_cons_succ, List.getElem_cons_zero, List.setIfInBounds_toArray, List.set_cons_zero, List.set_cons_succ]
        refine wpAnyIn_ready (rs := [8]) (by kernel_rfl) (by simp) ?_
        refine (AllReadyIn.cons (o := _) rfl (fun K hK => ?_) AllReadyIn.nil)
        simp only [List.getElem_toArray, List.getElem_cons_succ, List.getElem_cons_zero]
        try rw [if_pos (by rfl)]
        unfold Oper.wpIn
        refine ⟨fun _ _ => trivial, ?_⟩
        rw [show Fence.wide.round = none from rfl, Oper.semAt_none]
        go_simp
        refine hK _ _ ?_
        clear hK K
        try simp only [Act.put, List.getElem_toArray, List.getElem_cons_succ, List.getElem_cons_zero, List.setIfInBounds_toArray, List.set_cons_zero, List.set_cons_succ]
        refine wpAnyIn_done (by kernel_rfl) ?_ _
        gi_wp2
        exact FIN.out
      · simp only [List.getElem_toArray, List.getElem_cons_succ, List.getElem_cons_zero]
        try rw [if_pos (by rfl)]
        unfold Oper.wpIn
        refine ⟨fun _ _ => trivial, ?_⟩
        rw [show Fence.wide.round = none from rfl, Oper.semAt_none]
        go_simp
        refine hK _ _ ?_
        clear hK K
        try simp only [Act.put, List.getElem_toArray, List.getElem_cons_succ, List.getElem_cons_zero, List.setIfInBounds_toArray, List.set_cons_zero, List.set_cons_succ]
        refine wpAnyIn_take (i := 4) (oi := _) (v := ?_) rfl rfl (by kernel_rfl) (by kernel_rfl) (by kernel_rfl) (fun _ _ _ h => h) ⟨Or.inl ⟨by rfl, ?_⟩, fun _ => rfl⟩ ?_
        rotate_left
        · intro w
          try simp only [List.getElem_toArray, List.getElem_cons_succ, List.getElem_cons_zero]
          go_simp
          try with_reducible rfl
        try simp only [Act.put, List.getElem_toArray, List.getElem_cons_succ, List.getElem_cons_zero, List.setIfInBounds_toArray, List.set_cons_zero, List.set_cons_succ]
        refine wpAnyIn_ready (rs := [0, 5]) (by kernel_rfl) (by simp) ?_
        refine (AllReadyIn.cons (o := _) rfl (fun K hK => ?_) (AllReadyIn.cons (o := _) rfl (fun K hK => ?_) AllReadyIn.nil))
        · simp only [List.getElem_toArray, List.getElem_cons_zero]
          try rw [if_pos (by rfl)]
          unfold Oper.wpIn
          refine ⟨fun _ _ => trivial, ?_⟩
          rw [show Fence.wide.round = none from rfl, Oper.semAt_none]
          go_simp
          refine hK _ _ ?_
          clear hK K
          try simp only [Act.put, List.getElem_toArray, List.getElem_cons_zero, List.setIfInBounds_toArray, List.set_cons_zero, List.set_cons_succ]
          refine wpAnyIn_ready (rs := [5]) (by kernel_rfl) (by simp) ?_
          refine (AllReadyIn.cons (o := _) rfl (fun K hK => ?_) AllReadyIn.nil)
          simp only [List.getElem_toArray, List.getElem_cons_succ, List.getElem_cons_zero]
          try rw [if_pos (by rfl)]
          unfold Oper.wpIn
          refine ⟨fun _ _ => trivial, ?_⟩
          rw [show Fence.wide.round = none from rfl, Oper.semAt_none]
          go_simp
          refine hK _ _ ?_
          clear hK K
          try simp only [Act.put, List.getElem_toArray, List.getElem_cons_succ, List.getElem_cons_zero, List.setIfInBounds_toArray, List.set_cons_zero, List.set_cons_succ]
          refine wpAnyIn_take (i := 6) (oi := _) (v := ?_) rfl rfl (by kernel_rfl) (by kernel_rfl) (by kernel_rfl) (fun _ _ _ h => h) ⟨Or.inl ⟨by rfl, ?_⟩, fun _ => rfl⟩ ?_
          rotate_left
          · intro w
            try simp only [List.getElem_toArray, List.getElem_cons_succ, List.getElem_cons_zero]
            go_simp
            try with_reducible rfl
          try simp only [Act.put, List.getElem_toArray, List.getElem_cons_succ, List.getElem_cons_zero, List.setIfInBounds_toArray, List.set_cons_zero, List.set_cons_succ]
          refine wpAnyIn_take (i := 7) (oi := _) (v := ?_) rfl rfl (by kernel_rfl) (by kernel_rfl) (by kernel_rfl) (fun _ _ _ h => h) ⟨Or.inl ⟨by rfl, ?_⟩, fun _ => rfl⟩ ?_
          rotate_left
          · intro w
            try simp only [List.getElem_toArray, List.getElem_cons_succ, List.getElem_cons_zero]
            go_simp
            try with_reducible rfl
          try simp only [Act.put, List.getElem_toArray, List.getElem_cons_succ, List.getElem_cons_zero, List.setIfInBounds_toArray, List.set_cons_zero, List.set_cons_succ]
          refine wpAnyIn_ready (rs := [8]) (by kernel_rfl) (by simp) ?_
          refine (AllReadyIn.cons (o := _) rfl (fun K hK => ?_) AllReadyIn.nil)
          simp only [List.getElem_toArray, List.getElem_cons_succ, List.getElem_cons_zero]
          try rw [if_pos (by rfl)]
          unfold Oper.wpIn
          refine ⟨fun _ _ => trivial, ?_⟩
          rw [show Fence.wide.round = none from rfl, Oper.semAt_none]
          go_simp
          refine hK _ _ ?_
          clear hK K
          try simp only [Act.put, List.getElem_toArray, List.getElem_cons_succ, List.getElem_cons_zero, List.setIfInBounds_toArray, List.set_cons_zero, List.set_cons_succ]
          refine wpAnyIn_done (by kernel_rfl) ?_ _
          gi_wp2
          exact FIN.out
        · simp only [List.getElem_toArray, List.getElem_cons_succ, List.getElem_cons_zero]
          try rw [if_pos (by rfl)]
          unfold Oper.wpIn
          refine ⟨fun _ _ => trivial, ?_⟩
          rw [show Fence.wide.round = none from rfl, Oper.semAt_none]
          go_simp
          refine hK _ _ ?_
          clear hK K
          try simp only [Act.put, List.getElem_toArray, List.getElem_cons_succ, List.getElem_cons_zero, List.setIfInBounds_toArray, List.set_cons_zero, List.set_cons_succ]
          refine wpAnyIn_take (i := 6) (oi := _) (v := ?_) rfl rfl (by kernel_rfl) (by kernel_rfl) (by kernel_rfl) (fun _ _ _ h => h) ⟨Or.inl ⟨by rfl, ?_⟩, fun _ => rfl⟩ ?_
          rotate_left
          · intro w
            try simp only [List.getElem_toArray, List.getElem_cons_succ, List.getElem_cons_zero]
            go_simp
            try with_reducible rfl
          try simp only [Act.put, List.getElem_toArray, List.getElem_cons_succ, List.getElem_cons_zero, List.setIfInBounds_toArray, List.set_cons_zero, List.set_cons_succ]
          refine wpAnyIn_ready (rs := [0]) (by kernel_rfl) (by simp) ?_
          refine (AllReadyIn.cons (o := _) rfl (fun K hK => ?_) AllReadyIn.nil)
          simp only [List.getElem_toArray, List.getElem_cons_zero]
          try rw [if_pos (by rfl)]
          unfold Oper.wpIn
          refine ⟨fun _ _ => trivial, ?_⟩
          rw [show Fence.wide.round = none from rfl, Oper.semAt_none]
          go_simp
          refine hK _ _ ?_
          clear hK K
          try simp only [Act.put, List.getElem_toArray, List.getElem_cons_zero, List.setIfInBounds_toArray, List.set_cons_zero, List.set_cons_succ]
          refine wpAnyIn_take (i := 7) (oi := _) (v := ?_) rfl rfl (by kernel_rfl) (by kernel_rfl) (by kernel_rfl) (fun _ _ _ h => h) ⟨Or.inl ⟨by rfl, ?_⟩, fun _ => rfl⟩ ?_
          rotate_left
          · intro w
            try simp only [List.getElem_toArray, List.getElem_cons_succ, List.getElem_cons_zero]
            go_simp
            try with_reducible rfl
          try simp only [Act.put, List.getElem_toArray, List.getElem_cons_succ, List.getElem_cons_zero, List.setIfInBounds_toArray, List.set_cons_zero, List.set_cons_succ]
          refine wpAnyIn_ready (rs := [8]) (by kernel_rfl) (by simp) ?_
          refine (AllReadyIn.cons (o := _) rfl (fun K hK => ?_) AllReadyIn.nil)
          simp only [List.getElem_toArray, List.getElem_cons_succ, List.getElem_cons_zero]
          try rw [if_pos (by rfl)]
          unfold Oper.wpIn
          refine ⟨fun _ _ => trivial, ?_⟩
          rw [show Fence.wide.round = none from rfl, Oper.semAt_none]
          go_simp
          refine hK _ _ ?_
          clear hK K
          try simp only [Act.put, List.getElem_toArray, List.getElem_cons_succ, List.getElem_cons_zero, List.setIfInBounds_toArray, List.set_cons_zero, List.set_cons_succ]
          refine wpAnyIn_done (by kernel_rfl) ?_ _
          gi_wp2
          exact FIN.out
    · have hy0 : 0 ≤ y := by rw [hy]; unfold lastT; rw [if_neg hk0]; omega
      have hyn : (y + 1) % (N : Int) = (r : Int) := by rw [hy, hr, next_rot hFN hk hk0]
      have hyl : y < (N : Int) := by rw [hy]; unfold lastT; rw [if_neg hk0]; have := rot_lt hFN (show k - 1 < N by omega); omega
      have HY := Lib.hid hy; have HRR := Lib.hid hr; clear hy hr
      gi_wp2
      refine region_round hmix (by simp) ?_
      refine wpAnyIn_take (i := 1) (oi := _) (v := ?_) rfl rfl (by kernel_rfl) (by kernel_rfl) (by kernel_rfl) (fun _ _ _ h => h) ⟨Or.inl ⟨by rfl, ?_⟩, fun _ => rfl⟩ ?_
      rotate_left
      · intro w
        try simp only [List.getElem_toArray, List.getElem_cons_succ, List.getElem_cons_zero]
        go_simp
        try with_reducible rfl
      try simp only [Act.put, List.getElem_toArray, List.getElem_cons_succ, List.getElem_cons_zero, List.setIfInBounds_toArray, List.set_cons_zero, List.set_cons_succ]
      refine wpAnyIn_take (i := 3) (oi := _) (v := ?_) rfl rfl (by kernel_rfl) (by kernel_rfl) (by kernel_rfl) (fun _ _ _ h => h) ⟨Or.inl ⟨by rfl, ?_⟩, fun _ => rfl⟩ ?_
      rotate_left
      · intro w
        try simp only [List.getElem_toArray, List.getElem_cons_succ, List.getElem_cons_zero]
        go_simp
        try with_reducible rfl
      try simp only [Act.put, List.getElem_toArray, List.getElem_cons_succ, List.getElem_cons_zero, List.setIfInBounds_toArray, List.set_cons_zero, List.set_cons_succ]
      refine wpAnyIn_ready (rs := [0, 2]) (by kernel_rfl) (by simp) ?_
      refine (AllReadyIn.cons (o := _) rfl (fun K hK => ?_) (AllReadyIn.cons (o := _) rfl (fun K hK => ?_) AllReadyIn.nil))
      · simp only [List.getElem_toArray, List.getElem_cons_zero]
        try rw [if_pos (by rfl)]
        unfold Oper.wpIn
        refine ⟨fun _ _ => trivial, ?_⟩
        rw [show Fence.wide.round = none from rfl, Oper.semAt_none]
        go_simp
        refine hK _ _ ?_
        clear hK K
        try simp only [Act.put, List.getElem_toArray, List.getElem_cons_zero, List.setIfInBounds_toArray, List.set_cons_zero, List.set_cons_succ]
        refine wpAnyIn_ready (rs := [2]) (by kernel_rfl) (by simp) ?_
        refine (AllReadyIn.cons (o := _) rfl (fun K hK => ?_) AllReadyIn.nil)
        simp only [List.getElem_toArray, List.getElem_cons_succ, List.getElem_cons_zero]
        try rw [if_pos (by rfl)]
        unfold Oper.wpIn
        refine ⟨fun _ _ => trivial, ?_⟩
        rw [show Fence.wide.round = none from rfl, Oper.semAt_none]
        go_simp
        refine hK _ _ ?_
        clear hK K
        try simp only [Act.put, List.getElem_toArray, List.getElem_cons_succ, List.getElem_cons_zero, List.setIfInBounds_toArray, List.set_cons_zero, List.set_cons_succ]
        refine wpAnyIn_take (i := 4) (oi := _) (v := ?_) rfl rfl (by kernel_rfl) (by kernel_rfl) (by kernel_rfl) (fun _ _ _ h => h) ⟨Or.inl ⟨by rfl, ?_⟩, fun _ => rfl⟩ ?_
        rotate_left
        · intro w
          try simp only [List.getElem_toArray, List.getElem_cons_succ, List.getElem_cons_zero]
          go_simp
          try with_reducible rfl
        try simp only [Act.put, List.getElem_toArray, List.getElem_cons_succ, List.getElem_cons_zero, List.setIfInBounds_toArray, List.set_cons_zero, List.set_cons_succ]
        refine wpAnyIn_ready (rs := [5]) (by kernel_rfl) (by simp) ?_
        refine (AllReadyIn.cons (o := _) rfl (fun K hK => ?_) AllReadyIn.nil)
        simp only [List.getElem_toArray, List.getElem_cons_succ, List.getElem_cons_zero]
        try rw [if_pos (by rfl)]
        unfold Oper.wpIn
        refine ⟨fun _ _ => trivial, ?_⟩
        rw [show Fence.wide.round = none from rfl, Oper.semAt_none]
        go_simp
        refine hK _ _ ?_
        clear hK K
        try simp only [Act.put, List.getElem_toArray, List.getElem_cons_succ, List.getElem_cons_zero, List.setIfInBounds_toArray, List.set_cons_zero, List.set_cons_succ]
        refine wpAnyIn_take (i := 6) (oi := _) (v := ?_) rfl rfl (by kernel_rfl) (by kernel_rfl) (by kernel_rfl) (fun _ _ _ h => h) ⟨Or.inl ⟨by rfl, ?_⟩, fun _ => rfl⟩ ?_
        rotate_left
        · intro w
          try simp only [List.getElem_toArray, List.getElem_cons_succ, List.getElem_cons_zero]
          go_simp
          try with_reducible rfl
        try simp only [Act.put, List.getElem_toArray, List.getElem_cons_succ, List.getElem_cons_zero, List.setIfInBounds_toArray, List.set_cons_zero, List.set_cons_succ]
        refine wpAnyIn_take (i := 7) (oi := _) (v := ?_) rfl rfl (by kernel_rfl) (by kernel_rfl) (by kernel_rfl) (fun _ _ _ h => h) ⟨Or.inl ⟨by rfl, ?_⟩, fun _ => rfl⟩ ?_
        rotate_left
        · intro w
          try simp only [List.getElem_toArray, List.getElem_cons_succ, List.getElem_cons_zero]
          go_simp
          try with_reducible rfl
        try simp only [Act.put, List.getElem_toArray, List.getElem_cons_succ, List.getElem_cons_zero, List.setIfInBounds_toArray, List.set_cons_zero, List.set_cons_succ]
        refine wpAnyIn_ready (rs := [8]) (by kernel_rfl) (by simp) ?_
        refine (AllReadyIn.cons (o := _) rfl (fun K hK => ?_) AllReadyIn.nil)
        simp only [List.getElem_toArray, List.getElem_cons_succ, List.getElem_cons_zero]
        try rw [if_pos (by rfl)]
        unfold Oper.wpIn
        refine ⟨fun _ _ => trivial, ?_⟩
        rw [show Fence.wide.round = none from rfl, Oper.semAt_none]
        go_simp
        refine hK _ _ ?_
        clear hK K
        try simp only [Act.put, List.getElem_toArray, List.getElem_cons_succ, List.getElem_cons_zero, List.setIfInBounds_toArray, List.set_cons_zero, List.set_cons_succ]
        refine wpAnyIn_done (by kernel_rfl) ?_ _
        gi_wp2
        exact FIN.out
      · simp only [List.getElem_toArray, List.getElem_cons_succ, List.getElem_cons_zero]
        try rw [if_pos (by rfl)]
        unfold Oper.wpIn
        refine ⟨fun _ _ => trivial, ?_⟩
        rw [show Fence.wide.round = none from rfl, Oper.semAt_none]
        go_simp
        refine hK _ _ ?_
        clear hK K
        try simp only [Act.put, List.getElem_toArray, List.getElem_cons_succ, List.getElem_cons_zero, List.setIfInBounds_toArray, List.set_cons_zero, List.set_cons_succ]
        refine wpAnyIn_take (i := 4) (oi := _) (v := ?_) rfl rfl (by kernel_rfl) (by kernel_rfl) (by kernel_rfl) (fun _ _ _ h => h) ⟨Or.inl ⟨by rfl, ?_⟩, fun _ => rfl⟩ ?_
        rotate_left
        · intro w
          try simp only [List.getElem_toArray, List.getElem_cons_succ, List.getElem_cons_zero]
          go_simp
          try with_reducible rfl
        try simp only [Act.put, List.getElem_toArray, List.getElem_cons_succ, List.getElem_cons_zero, List.setIfInBounds_toArray, List.set_cons_zero, List.set_cons_succ]
        refine wpAnyIn_ready (rs := [0, 5]) (by kernel_rfl) (by simp) ?_
        refine (AllReadyIn.cons (o := _) rfl (fun K hK => ?_) (AllReadyIn.cons (o := _) rfl (fun K hK => ?_) AllReadyIn.nil))
        · simp only [List.getElem_toArray, List.getElem_cons_zero]
          try rw [if_pos (by rfl)]
          unfold Oper.wpIn
          refine ⟨fun _ _ => trivial, ?_⟩
          rw [show Fence.wide.round = none from rfl, Oper.semAt_none]
          go_simp
          refine hK _ _ ?_
          clear hK K
          try simp only [Act.put, List.getElem_toArray, List.getElem_cons_zero, List.setIfInBounds_toArray, List.set_cons_zero, List.set_cons_succ]
          refine wpAnyIn_ready (rs := [5]) (by kernel_rfl) (by simp) ?_
          refine (AllReadyIn.cons (o := _) rfl (fun K hK => ?_) AllReadyIn.nil)
          simp only [List.getElem_toArray, List.getElem_cons_succ, List.getElem_cons_zero]
          try rw [if_pos (by rfl)]
          unfold Oper.wpIn
          refine ⟨fun _ _ => trivial, ?_⟩
          rw [show Fence.wide.round = none from rfl, Oper.semAt_none]
          go_simp
          refine hK _ _ ?_
          clear hK K
          try simp only [Act.put, List.getElem_toArray, List.getElem_cons_succ, List.getElem_cons_zero, List.setIfInBounds_toArray, List.set_cons_zero, List.set_cons_succ]
          refine wpAnyIn_take (i := 6) (oi := _) (v := ?_) rfl rfl (by kernel_rfl) (by kernel_rfl) (by kernel_rfl) (fun _ _ _ h => h) ⟨Or.inl ⟨by rfl, ?_⟩, fun _ => rfl⟩ ?_
          rotate_left
          · intro w
            try simp only [List.getElem_toArray, List.getElem_cons_succ, List.getElem_cons_zero]
            go_simp
            try with_reducible rfl
          try simp only [Act.put, List.getElem_toArray, List.getElem_cons_succ, List.getElem_cons_zero, List.setIfInBounds_toArray, List.set_cons_zero, List.set_cons_succ]
          refine wpAnyIn_take (i := 7) (oi := _) (v := ?_) rfl rfl (by kernel_rfl) (by kernel_rfl) (by kernel_rfl) (fun _ _ _ h => h) ⟨Or.inl ⟨by rfl, ?_⟩, fun _ => rfl⟩ ?_
          rotate_left
          · intro w
            try simp only [List.getElem_toArray, List.getElem_cons_succ, List.getElem_cons_zero]
            go_simp
            try with_reducible rfl
          try simp only [Act.put, List.getElem_toArray, List.getElem_cons_succ, List.getElem_cons_zero, List.setIfInBounds_toArray, List.set_cons_zero, List.set_cons_succ]
          refine wpAnyIn_ready (rs := [8]) (by kernel_rfl) (by simp) ?_
          refine (AllReadyIn.cons (o := _) rfl (fun K hK => ?_) AllReadyIn.nil)
          simp only [List.getElem_toArray, List.getElem_cons_succ, List.getElem_cons_zero]
          try rw [if_pos (by rfl)]
          unfold Oper.wpIn
          refine ⟨fun _ _ => trivial, ?_⟩
          rw [show Fence.wide.round = none from rfl, Oper.semAt_none]
          go_simp
          refine hK _ _ ?_
          clear hK K
          try simp only [Act.put, List.getElem_toArray, List.getElem_cons_succ, List.getElem_cons_zero, List.setIfInBounds_toArray, List.set_cons_zero, List.set_cons_succ]
          refine wpAnyIn_done (by kernel_rfl) ?_ _
          gi_wp2
          exact FIN.out
        · simp only [List.getElem_toArray, List.getElem_cons_succ, List.getElem_cons_zero]
          try rw [if_pos (by rfl)]
          unfold Oper.wpIn
          refine ⟨fun _ _ => trivial, ?_⟩
          rw [show Fence.wide.round = none from rfl, Oper.semAt_none]
          go_simp
          refine hK _ _ ?_
          clear hK K
          try simp only [Act.put, List.getElem_toArray, List.getElem_cons_succ, List.getElem_cons_zero, List.setIfInBounds_toArray, List.set_cons_zero, List.set_cons_succ]
          refine wpAnyIn_take (i := 6) (oi := _) (v := ?_) rfl rfl (by kernel_rfl) (by kernel_rfl) (by kernel_rfl) (fun _ _ _ h => h) ⟨Or.inl ⟨by rfl, ?_⟩, fun _ => rfl⟩ ?_
          rotate_left
          · intro w
            try simp only [List.getElem_toArray, List.getElem_cons_succ, List.getElem_cons_zero]
            go_simp
            try with_reducible rfl
          try simp only [Act.put, List.getElem_toArray, List.getElem_cons_succ, List.getElem_cons_zero, List.setIfInBounds_toArray, List.set_cons_zero, List.set_cons_succ]
          refine wpAnyIn_ready (rs := [0]) (by kernel_rfl) (by simp) ?_
          refine (AllReadyIn.cons (o := _) rfl (fun K hK => ?_) AllReadyIn.nil)
          simp only [List.getElem_toArray, List.getElem_cons_zero]
          try rw [if_pos (by rfl)]
          unfold Oper.wpIn
          refine ⟨fun _ _ => trivial, ?_⟩
          rw [show Fence.wide.round = none from rfl, Oper.semAt_none]
          go_simp
          refine hK _ _ ?_
          clear hK K
          try simp only [Act.put, List.getElem_toArray, List.getElem_cons_zero, List.setIfInBounds_toArray, List.set_cons_zero, List.set_cons_succ]
          refine wpAnyIn_take (i := 7) (oi := _) (v := ?_) rfl rfl (by kernel_rfl) (by kernel_rfl) (by kernel_rfl) (fun _ _ _ h => h) ⟨Or.inl ⟨by rfl, ?_⟩, fun _ => rfl⟩ ?_
          rotate_left
          · intro w
            try simp only [List.getElem_toArray, List.getElem_cons_succ, List.getElem_cons_zero]
            go_simp
            try with_reducible rfl
          try simp only [Act.put, List.getElem_toArray, List.getElem_cons_succ, List.getElem_cons_zero, List.setIfInBounds_toArray, List.set_cons_zero, List.set_cons_succ]
          refine wpAnyIn_ready (rs := [8]) (by kernel_rfl) (by simp) ?_
          refine (AllReadyIn.cons (o := _) rfl (fun K hK => ?_) AllReadyIn.nil)
          simp only [List.getElem_toArray, List.getElem_cons_succ, List.getElem_cons_zero]
          try rw [if_pos (by rfl)]
          unfold Oper.wpIn
          refine ⟨fun _ _ => trivial, ?_⟩
          rw [show Fence.wide.round = none from rfl, Oper.semAt_none]
          go_simp
          refine hK _ _ ?_
          clear hK K
          try simp only [Act.put, List.getElem_toArray, List.getElem_cons_succ, List.getElem_cons_zero, List.setIfInBounds_toArray, List.set_cons_zero, List.set_cons_succ]
          refine wpAnyIn_done (by kernel_rfl) ?_ _
          gi_wp2
          exact FIN.out
  case done =>
    rintro D W' O' hD ⟨rfl, hr, hs, hc, hl, hst⟩ _ _ hK hnD
    rw [length_ofList] at hs hc hl
    have hnc : W'.heap[b]? = some (.cells #[.int .i64 (N : Int)] 3) := hst.at HNB.out (by omega)
    have hsc : W'.heap[b + 1 + 1]? = some (.cells #[.slice (some ⟨b + 1, 0, none⟩) N N] 23) := hst.at HSC.out (by omega)
    have q1 : W'.cell? ⟨b, 0, none⟩ = some (.int .i64 (N : Int)) := cell_of (i := 0) hnc rfl
    have q2 : W'.cell? ⟨b + 1 + 1, 0, none⟩ = some (.slice (some ⟨b + 1, 0, none⟩) N N) := cell_of (i := 0) hsc rfl
    have q3 : W'.cell? ⟨b + 1 + 1 + 1, 0, none⟩ = some (.int .i64 (N : Int)) := cell_of (i := 0) hc rfl
    have q4 : W'.frozen? ⟨w.heap.size, 0, none⟩ = false := frozen_of hr
    have q5 : W'.cell? ⟨w.heap.size, 0, none⟩ = some (.bool false) := cell_of (i := 0) hr rfl
    have q6 : ∀ i : Nat, i < N → W'.cell? ⟨b + 1, i, none⟩ = some (.int .i64 1) := fun i hi => by
      have h7 : (seenL N F N)[i]? = some 1 := by rw [get_seenL hi, if_pos (pos_lt hFN hi)]
      exact cell_of hs (by simp [h7])
    have Q6 := Lib.hid q6
    have hDr : D ≠ w.heap.size := fun e => hnD (.inl e)
    have hst2 := (Stp.of_fr F2).then hst (fun x hx => by right; omega)
    clear hs hc hl hnc hsc q6 e1
    go_wp2
    go_loopw [12] (fun i wr => ∃ k : Nat, k ≤ N ∧ i = .int .i64 k ∧ wr = W') (fun i _ => N - (intOf i).toNat)
    case atStart => exact ⟨0, Nat.zero_le _, rfl, rfl⟩
    case round =>
      obtain ⟨k, hk, rfl, rfl⟩ := hrel
      by_cases hlt : k < N
      · have ga := Q6.out k hlt
        have hlt' : (k : Int) < (N : Int) := by omega
        have hk0 : (0 : Int) ≤ (k : Int) := by omega
        go_wp2
        go_roundw
        case rel => exact ⟨k + 1, by omega, by go_num, trivial⟩
        case measure => simp [intOf]; omega
      · have hge : ¬ (k : Int) < (N : Int) := by omega
        have hr1 := heap_setCell_same (i := 0) hr (.bool true)
        have hr2 : ((wr.setCell ⟨w.heap.size, 0, none⟩ (.bool true)).putObj D (.deferred none)).cell? ⟨w.heap.size, 0, none⟩ = some (.bool true) := by
          refine cell_of (i := 0) (c := #[.bool true]) (t := 4) (z := (0, 0)) ?_ rfl
          rw [World.putObj_heap_other (fun e => hDr e.symm)]
          simpa using hr1
        have hK2 : (wr.setCell ⟨w.heap.size, 0, none⟩ (.bool true)).heap[D]? = some (.deferred (some [])) := (Below.heap_setCell _ _ _ _ hDr).trans hK
        have fin : Fr [] w ((wr.setCell ⟨w.heap.size, 0, none⟩ (.bool true)).putObj D (.deferred none)) :=
          ((hst2.setCell (p := ⟨w.heap.size, 0, none⟩) (.inr (Nat.le_refl _)) _).putObj (.inr (by omega)) _).to_fr (fun x hx => by simp at hx)
        have FIN := Lib.hid fin; have HR2 := Lib.hid hr2; have HK2 := Lib.hid hK2; clear fin hr2 hK2 hr1
        go_wp2
        refine leave_ret_at (.bool true) HK2.out ?_ ⟨rfl, FIN.out⟩
        have hr3 := HR2.out
        simp [results, Try.f3, go_sem, hr3]
  case stop => exact fun _ _ _ _ _ _ _ h => h.elim

end Go.Proofs.Ytahkkodeppeknaa

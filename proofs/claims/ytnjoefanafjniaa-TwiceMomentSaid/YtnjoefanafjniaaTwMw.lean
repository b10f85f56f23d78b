/- TwiceMoment: small facts for its walk. -/
import Derived.Test.YtnjoefanafjniaaTwMo
namespace Go.Proofs.Ytnjoefanafjniaa
open Go.RowKit

theorem info_ints : (Try.prog.info? 32).map (fun i => (i.zero, i.size, i.bytes)) = some (some (.slice none 0 0), 1, 24) := by kernel_rfl
def mkH (W : World) (n : Nat) : World := W.alloc (.cells (madeCells #[Value.slice none 0 0] n) 32)
/-- What the cells had, where the first k are laid. -/
def hadK (L : List Int) (n k : Nat) : List (List Int) := (List.range n).map (fun j => if j < k then [L.getD j 0] else [])
theorem length_hadK (L : List Int) (n k : Nat) : (hadK L n k).length = n := by simp [hadK]
theorem hadK_get {L : List Int} {n k j : Nat} (hj : j < n) : (hadK L n k)[j]? = some (if j < k then [L.getD j 0] else []) := by
  unfold hadK
  rw [List.getElem?_map, List.getElem?_range hj]; rfl
theorem hadK_set {L : List Int} {n k : Nat} (hk : k < n) : (hadK L n k).set k [L.getD k 0] = hadK L n (k + 1) := by
  refine List.ext_getElem? fun j => ?_
  by_cases e : j = k
  · subst e
    rw [List.getElem?_set_self (by rw [length_hadK]; exact hk), hadK_get hk, if_pos (by omega)]
  · rw [List.getElem?_set_ne (Ne.symm e)]
    by_cases hj : j < n
    · rw [hadK_get hj, hadK_get hj]
      by_cases h2 : j < k
      · rw [if_pos h2, if_pos (by omega)]
      · rw [if_neg h2, if_neg (by omega)]
    · rw [List.getElem?_eq_none (by rw [length_hadK]; omega), List.getElem?_eq_none (by rw [length_hadK]; omega)]
theorem hadK_getD {L : List Int} {n j : Nat} (hj : j < n) : (hadK L n n).getD j [] = [L.getD j 0] := by
  rw [List.getD_eq_getElem?_getD, hadK_get hj, if_pos hj]; rfl
theorem had_new (w : World) (L : List Int) (n : Nat) : HadAt (mkH w n) w.heap.size (List.replicate n (.slice none 0 0)) (hadK L n 0) := by
  have hr : ∀ (i : Nat) (v : Value), (List.replicate n (Value.slice none 0 0))[i]? = some v → v = .slice none 0 0 := fun i v h => by
    rw [List.getElem?_replicate] at h
    split at h
    · injection h with h; exact h.symm
    · cases h
  refine ⟨?_, by rw [length_hadK]; simp, fun i v L' hv hL => ?_, fun i v hv => ?_, fun i j v v' b hv _ hb _ => ?_⟩
  · have h1 : (mkH w n).heap[w.heap.size]? = some (.cells (madeCells #[Value.slice none 0 0] n) 32) := heap_alloc_new w _
    rw [madeCells_one] at h1
    rw [List.toArray_replicate]
    exact h1
  · rw [hr i v hv]
    have hi : i < n := by have := (List.getElem?_eq_some_iff.1 hL).1; rwa [length_hadK] at this
    rw [hadK_get hi, if_neg (by omega)] at hL
    injection hL with hL
    subst hL
    exact World.ownsRow_nil _ _ _ _
  · rw [hr i v hv]; simp [Value.ownBlock]
  · rw [hr i v hv] at hb; simp [Value.ownBlock] at hb
theorem had_new_foot (w : World) (n : Nat) : ∀ b, HFoot w.heap.size (List.replicate n (.slice none 0 0)) b → w.heap.size ≤ b := by
  rintro b (rfl | ⟨i, v, hv, hb⟩)
  · exact Nat.le_refl _
  · rw [List.getElem?_replicate] at hv
    split at hv
    · injection hv with hv
      rw [← hv] at hb
      simp [Value.ownBlock] at hb
    · cases hv
/-- A list of one number, new. -/
theorem own_one {w : World} {g : Nat} {x : Int} (h : w.heap[g]? = some (.cells #[.int .i64 x] 3 (0, 0))) : OwnI w (.slice (some ⟨g, 0, none⟩) 1 1) [x] :=
  ⟨by simp, .inr ⟨g, 1, _, rfl, Nat.zero_le _, h, by simp, by unfold maxLen; omega, by simp, by simp⟩⟩
/-- One cell's list is laid. -/
theorem had_lay {wr : World} {bh k : Nat} {vs : List Value} {H : List (List Int)} {x : Int} (h : HadAt wr bh vs H) {v : Value} (hv : vs[k]? = some v) :
    HadAt ((wr.alloc (.cells #[.int .i64 x] 3)).setCell ⟨bh, k, none⟩ (.slice (some ⟨wr.heap.size, 0, none⟩) 1 1)) bh (vs.set k (.slice (some ⟨wr.heap.size, 0, none⟩) 1 1)) (H.set k [x]) ∧
    (∀ b, HFoot bh (vs.set k (.slice (some ⟨wr.heap.size, 0, none⟩) 1 1)) b → HFoot bh vs b ∨ wr.heap.size ≤ b) ∧
    Fr [bh] wr ((wr.alloc (.cells #[.int .i64 x] 3)).setCell ⟨bh, k, none⟩ (.slice (some ⟨wr.heap.size, 0, none⟩) 1 1)) := by
  have hlt := h.lt (b := bh) (.inl rfl)
  have f : Fr [bh] wr ((wr.alloc (.cells #[.int .i64 x] 3)).setCell ⟨bh, k, none⟩ (.slice (some ⟨wr.heap.size, 0, none⟩) 1 1)) := ((Fr.refl [bh] wr).alloc _).setCell (p := ⟨bh, k, none⟩) (.inl (by simp)) _
  have hb := heap_setCell_same (i := k) (heap_alloc_keep h.b (.cells #[.int .i64 x] 3)) (.slice (some ⟨wr.heap.size, 0, none⟩) 1 1)
  rw [List.setIfInBounds_toArray] at hb
  have h1 := h.put hv (f.mono (by simp)) hb (own_one (x := x) (heap_setCell_ne (heap_alloc_new wr _) (show wr.heap.size ≠ bh by omega) _)) (by simp [Value.ownBlock]; omega) (fun b hb => by simp [Value.ownBlock] at hb; exact .inr (by omega))
  exact ⟨h1.1, h1.2, f⟩
/-- All words that slot j had. -/
def hsOf (b0 : Nat) (H : List (List Int)) (j : Nat) : List Int := H.getD (b0 + j) []
theorem slots_get {c : ConfV} {M : List Int} (hc : c.small) (hM : (M.length : Int) = c.cells) (j : Nat) : (slotsX c M).getD j 0 = M.getD ((c.slot 0).toNat + j) 0 := by
  rw [← slotsX_drop hc hM, List.getD_eq_getElem?_getD, List.getElem?_drop, List.getD_eq_getElem?_getD]
theorem mom_start {B : Nat} {w5 wr : World} {p pm qm : Nat} {c : ConfV} {s : TwS} {M : List Int} {t : Int} {vR vL : Value} {vs : List Value} {H : List (List Int)} (h : TwIn B w5 p pm qm c s M t vR vL) {w6 : World} (f6 : Fr [] w5 w6) (hd : HadAt wr w5.heap.size vs H) (hf : ∀ b, HFoot w5.heap.size vs b → w5.heap.size ≤ b)
    (f : Fr [w5.heap.size] w6 wr) : Mom B wr p pm qm c s M t vR vL w5.heap.size vs H (.slice none 0 0) [] [] := by
  have hB : B ≤ w5.heap.size := by have h1 := h.ge p (.inl rfl); have h2 := h.lt (b := p) (.inl rfl); omega
  have hm : ∀ b, ¬ MFoot (.slice none 0 0) [] b := by
    rintro b (e | ⟨j, v, hv, _⟩)
    · simp [Value.ownBlock] at e
    · simp at hv
  refine ⟨(h.fr0 f6).fr f (fun b hb hm => ?_), hd, momAt_nil _, fun b hb hh => ?_, fun b _ => hm b, fun b _ => hm b, fun b hb => Nat.le_trans hB (hf b hb), fun b hb => absurd hb (hm b)⟩
  · have := h.lt hb
    simp at hm
    omega
  · have h1 := h.lt hb
    have h2 := hf b hh
    omega

theorem had_app_fr {wr w7 : World} {vv : Value} {o : Obj} (hg : (wr.drew.alloc o).grownBy w7 vv.ownBlock) : Fr vv.ownBlock.toList wr w7 := ((Fr.refl _ wr).drew.alloc o).grown hg (fun k hk => .inl (by simp [hk]))
theorem had_app_at {wr w7 : World} {vv : Value} {o : Obj} {bh k : Nat} {vs : List Value} {H : List (List Int)} (h : HadAt wr bh vs H) (hv : vs[k]? = some vv) (hg : (wr.drew.alloc o).grownBy w7 vv.ownBlock) : w7.heap[bh]? = some (.cells vs.toArray 32 (0, 0)) :=
  (had_app_fr hg).at h.b (by rw [Option.mem_toList]; exact h.ne k vv hv)
/-- A word is put behind those that a cell had. -/
theorem had_app {wr w7 : World} {vv v7 : Value} {o : Obj} {bh k n : Nat} {vs : List Value} {H : List (List Int)} {u : Int} (h : HadAt wr bh vs H) (hv : vs[k]? = some vv) (hg : (wr.drew.alloc o).grownBy w7 vv.ownBlock)
    (hown : w7.ownsRow 0 3 1 v7 (n + 1) ((H.getD k []).map (Value.int .i64) ++ [.int .i64 u])) (hn : n = (H.getD k []).length) (hat : v7.ownBlock = vv.ownBlock ∨ v7.ownBlock = some (wr.drew.alloc o).heap.size) :
    HadAt (w7.setCell ⟨bh, k, none⟩ v7) bh (vs.set k v7) (H.set k (H.getD k [] ++ [u])) ∧ (∀ b, HFoot bh (vs.set k v7) b → HFoot bh vs b ∨ wr.heap.size ≤ b) ∧ Fr (bh :: vv.ownBlock.toList) wr (w7.setCell ⟨bh, k, none⟩ v7) := by
  have F7 := had_app_fr hg
  have hb7 := had_app_at h hv hg
  have hlt := h.lt (b := bh) (.inl rfl)
  have hsz : (wr.drew.alloc o).heap.size = wr.heap.size + 1 := by rw [World.size_alloc]; rfl
  rw [hsz] at hat
  have hnb : v7.ownBlock ≠ some bh := fun e => by
    rcases hat with h1 | h1
    · exact h.ne k vv hv (h1 ▸ e)
    · rw [h1] at e; injection e with e; omega
  have hb9 := heap_setCell_same (i := k) hb7 v7
  rw [List.setIfInBounds_toArray] at hb9
  have fs : Fr [bh] w7 (w7.setCell ⟨bh, k, none⟩ v7) := (Fr.refl _ _).setCell (.inl (by simp)) _
  have f9 : Fr (bh :: vv.ownBlock.toList) wr (w7.setCell ⟨bh, k, none⟩ v7) := (F7.mono (by simp +contextual)).trans (fs.mono (by simp))
  have ho : OwnI w7 v7 (H.getD k [] ++ [u]) := by subst hn; unfold OwnI; simpa using hown
  have h1 := h.put hv f9 hb9 (ho.fr fs (fun b hb => by simp; exact fun e => hnb (e ▸ hb))) hnb (fun b hb => by
    rcases hat with h1 | h1
    · exact .inl (h1 ▸ hb)
    · rw [h1] at hb; injection hb with hb; exact .inr (by omega))
  exact ⟨h1.1, h1.2, f9⟩
theorem getD_set_ne' {α : Type} {H : List α} {k b : Nat} {d y : α} (h : b ≠ k) : (H.set k y).getD b d = H.getD b d := by
  rw [List.getD_eq_getElem?_getD, List.getElem?_set_ne (Ne.symm h), List.getD_eq_getElem?_getD]
theorem getD_set_self' {α : Type} {H : List α} {k : Nat} {d y : α} (h : k < H.length) : (H.set k y).getD k d = y := by
  rw [List.getD_eq_getElem?_getD, List.getElem?_set_self h]; rfl
theorem moms_put {c : ConfV} {S b0 at' : Nat} {s : TwS} {M : List Int} {H : List (List Int)} {MS : List (List Int)} {m : Nat} {u : Int} (h : Moms S s (slotsX c M) (hsOf b0 H) MS m) (hc : c.small) (hM : (M.length : Int) = c.cells) (hb0 : b0 = (c.slot 0).toNat) (hS : S = c.sl.toNat)
    (hu : u ∉ H.getD at' []) (hat : at' < H.length) : Moms S s (slotsX c (M.set at' u)) (hsOf b0 (H.set at' (H.getD at' [] ++ [u]))) MS m := by
  have hsub : ∀ j, ∀ x ∈ hsOf b0 H j, x ∈ hsOf b0 (H.set at' (H.getD at' [] ++ [u])) j := fun j x hx => by
    unfold hsOf at hx ⊢
    by_cases e : b0 + j = at'
    · rw [e] at hx ⊢
      rw [getD_set_self' hat]
      exact List.mem_append_left _ hx
    · rw [getD_set_ne' e]; exact hx
  have hM' : ((M.set at' u).length : Int) = c.cells := by rw [List.length_set]; exact hM
  by_cases hlt : at' < b0
  · have e : slotsX c (M.set at' u) = slotsX c M := by rw [slotsX_set hc hM, if_pos (by omega)]
    rw [e]
    exact h.same hsub
  · have e : slotsX c (M.set at' u) = (slotsX c M).set (at' - b0) u := by rw [slotsX_set hc hM, if_neg (by omega), hb0]
    refine h.write (at' - b0) u (by unfold hsOf; rw [show b0 + (at' - b0) = at' by omega]; exact hu) (fun j hj hne => ?_) (fun hk => ?_) hsub ?_
    · rw [e]; exact getD_set_ne' hne
    · rw [e]; exact getD_set_self' (by rw [length_slotsX]; omega)
    · unfold hsOf
      rw [show b0 + (at' - b0) = at' by omega, getD_set_self' hat]
      exact List.mem_append_right _ (List.mem_singleton.2 rfl)
theorem had_bound {H : List (List Int)} {at' K : Nat} {u : Int} (h : ∀ b, (H.getD b []).length ≤ K) (hat : at' < H.length) : ∀ b, ((H.set at' (H.getD at' [] ++ [u])).getD b []).length ≤ K + 1 := fun b => by
  by_cases e : b = at'
  · subst e
    rw [getD_set_self' hat, List.length_append, List.length_singleton]
    have := h b
    omega
  · rw [getD_set_ne' e]
    have := h b
    omega

/-- One moment more, in memory. -/
theorem mom_push {B : Nat} {wr w6 w7 : World} {p pm qm : Nat} {c : ConfV} {s : TwS} {M : List Int} {t : Int} {vR vL : Value} {bh : Nat} {vs : List Value} {H : List (List Int)} {vM vM' : Value} {ms : List Value} {MS : List (List Int)} {g cg : Nat} {o : Obj}
    (h : Mom B wr p pm qm c s M t vR vL bh vs H vM ms MS) (f6 : Fr [] wr w6) (hrow : w6.ownsRow wr.heap.size 3 1 (.slice (some ⟨g, 0, none⟩) M.length cg) M.length (M.map (Value.int .i64)))
    (hgrow : (w6.alloc o).grownBy w7 vM.ownBlock) (hown : w7.ownsRow 0 32 1 vM' (ms.length + 1) (ms ++ [.slice (some ⟨g, 0, none⟩) M.length cg])) (hat : vM'.ownBlock = vM.ownBlock ∨ vM'.ownBlock = some (w6.alloc o).heap.size) :
    Mom B w7 p pm qm c s M t vR vL bh vs H vM' (ms ++ [.slice (some ⟨g, 0, none⟩) M.length cg]) (MS ++ [M]) ∧ FB B wr w7 := by
  have hb := ownsRow_base hrow
  have hl := (hrow.lt g rfl).2
  have hcap : M.length ≤ cg := by
    rcases hrow.2 with ⟨e, _⟩ | ⟨g', cap, cur, e, _, _, h1, _⟩
    · cases e
    · injection e with e1 e2 e3
      omega
  have f1 : Fr [] wr (w6.alloc o) := f6.alloc o
  have f2 : Fr vM.ownBlock.toList (w6.alloc o) w7 := (Fr.refl _ _).grown hgrow (fun k hk => .inl (by simp [hk]))
  have hp := h.mo.push f1 hb (by rw [World.size_alloc]; omega) hcap ((IntsAt.of_owns hrow).fr ((Fr.refl [] w6).alloc o) (by simp)) f2 hown (fun b hb => hat.elim (fun e => .inl (e ▸ hb)) (fun e => by rw [e] at hb; injection hb with hb; exact .inr (by omega)))
  exact h.push hp.1 ((f1.mono (by simp)).trans f2) hp.2
theorem mom_row {w : World} {v : Value} {n : Nat} {xs : List Value} (h : w.ownsRow 0 32 1 v n xs) (hn : 1 ≤ n) : ∃ (g c : Nat), v = .slice (some ⟨g, 0, none⟩) n c ∧ n ≤ c ∧ ∀ j u, xs[j]? = some u → w.cell? ⟨g, j, none⟩ = some u := by
  have hc : ∀ g, v.ownBlock = some g → ∀ j u, xs[j]? = some u → w.cell? ((⟨g, 0, none⟩ : Addr).add j) = some u := fun g hg => h.cells hg
  rcases h.2 with ⟨rfl, h0⟩ | ⟨g, cap, cur, rfl, _, _, h1, _⟩
  · omega
  · refine ⟨g, cap, rfl, h1, fun j u hu => ?_⟩
    have h2 := hc g rfl j u hu
    rw [Addr.add_lit, Nat.zero_add] at h2
    exact h2

end Go.Proofs.Ytnjoefanafjniaa

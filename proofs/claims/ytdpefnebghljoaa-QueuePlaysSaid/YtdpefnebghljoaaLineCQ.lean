/- The layer 'line': who stands there, and who is the head. -/
import Derived.Test.YtdpefnebghljoaaLineBQ
namespace Go.Proofs.Ytdpefnebghljoaa
open Go.RowKit Go.Shelf
attribute [local go_sem] Oper.semAt_some

theorem StableE.and {B : Nat} {E : Blk} {J : Nat → World → Blk → Prop} (h : StableE B E J) (q : Nat → Prop) : StableE B E (fun k W O => q k ∧ J k W O) :=
  fun k W O W' hj h1 h2 h3 h4 h5 => ⟨hj.1, h k W O W' hj.2 h1 h2 h3 h4 h5⟩
theorem get_of_digP {n k : Nat} {x : Int × Int} (h : (digP n)[k]? = some x) : x.1 = (k : Int) ∧ (digW n)[k]? = some x.2 := by
  simp only [digP, List.getElem?_mapIdx, Option.map_eq_some_iff] at h
  obtain ⟨y, hy, rfl⟩ := h
  exact ⟨rfl, hy⟩
theorem not_mem_of_all {α : Type} [DecidableEq α] {L : List α} {k : Nat} {a : α} (hk : L.length ≤ k) (h : ∀ (j : Nat) (y : α), j < k → L[j]? = some y → y ≠ a) : a ∉ L := fun hm => by
  obtain ⟨j, hj⟩ := List.getElem?_of_mem hm
  exact h j a (by have := (List.getElem?_eq_some_iff.1 hj).1; omega) hj rfl

set_option maxHeartbeats 400000 in
theorem has_any (w : World) (n : Nat) (who : Int) (hn : n < 9223372036854775808) : Calls Try.prog 52 #[.int .i64 (n : Int), .int .i64 who] w fun e w' => e = .returned (.bool (decide (who ∈ digW n))) ∧ Fr [] w w' := by
  obtain ⟨L, hL⟩ : ∃ L, L = digW n := ⟨_, rfl⟩
  rw [← hL]
  have HL := Lib.hid hL; clear hL
  refine (callsIn_wide (n := 3)).1 (callsIn_of_wp_marks Try.func52 rfl trivial (wpIn_wide.2 ?_) rfl)
  simp only [Try.ntmps52, List.size_toArray, List.length_cons, List.length_nil, Nat.reduceAdd, Nat.reduceSub, Array.replicate_succ, Array.replicate_zero, List.push_toArray, List.append_toArray, List.nil_append, List.cons_append]
  go_wp2_with fail
  refine (digits_any _ n hn).mono ?_
  rintro e w2 ⟨v, g, lb, rfl, rfl, hg, hI, f2, hlt2⟩
  have hc0 := (Stp.of_fr f2).at (heap_alloc_new (w.alloc (.cells #[.int .i64 who] 3)) (.cells #[.bool false] 4)) (by simp)
  have hw0 := (Stp.of_fr f2).at (heap_alloc_keep (heap_alloc_new w (.cells #[.int .i64 who] 3)) (.cells #[.bool false] 4)) (by simp)
  have F2 := (((Fr.refl [] w).alloc (.cells #[.int .i64 who] 3)).alloc (.cells #[.bool false] 4)).trans f2
  simp only [World.size_alloc] at hI hlt2 hc0
  have HG := Lib.hid hg; have HI := Lib.hid hI; have HC := Lib.hid hc0; have HW := Lib.hid hw0; clear hg hI hc0 f2 hw0
  have hb := F2.size
  obtain ⟨b, hbe⟩ : ∃ b, b = w.heap.size := ⟨_, rfl⟩
  rw [← hbe] at HI HC HW hlt2 ⊢
  have hbw : w.heap.size ≤ b := by omega
  clear hbe
  go_wp2
  refine wp_rangeE (xs := digP n) (enc := encP) rfl HG.out HI.out (fun x => rfl)
    (fun k W O => (∀ (j : Nat) (y : Int), j < k → L[j]? = some y → y ≠ who) ∧ BoxInv w2 (fun x => x = b + 1 + 1) (fun x => x = b + 1) (fun _ _ => .cells #[.bool false] 4) k W O)
    (fun c k W O => (c = .ret ∧ who ∈ L) ∧ BoxInv w2 (fun x => x = b + 1 + 1) (fun x => x = b + 1) (fun _ _ => .cells #[.bool true] 4) k W O)
    ((BoxInv.stable _ _ _ _ (Nat.le_refl _)).and (fun k => ∀ (j : Nat) (y : Int), j < k → L[j]? = some y → y ≠ who)) (fun c => (BoxInv.stable _ _ _ _ (Nat.le_refl _)).and (fun _ => c = .ret ∧ who ∈ L))
    (fun x => x = b + 1) (fun x hx => by show x < w2.heap.size; have : x = b + 1 := hx; omega) (fun x hb h => by rcases hb with hb | hb; exact hb.elim; have : x = b + 1 := h; have : x = b + 1 + 1 := hb; omega)
    ⟨fun j y hj => by omega, rfl, fun x hb => by have : x = b + 1 := hb; subst this; exact HC.out, Stp.refl _ _⟩ ?round ?done ?stop
  case round =>
    intro l' k x W1 O1 hx
    obtain ⟨hx1, hx2⟩ := get_of_digP hx
    rw [← HL.out] at hx2
    obtain ⟨xp, xw⟩ := x
    simp only at hx1 hx2
    subst hx1
    clear hx
    have HX := Lib.hid hx2; clear hx2
    simp only [encP, List.zip_toArray, List.zip_cons_cons, List.zip_nil_right, List.foldl_toArray', List.foldl_cons, List.foldl_nil, List.setIfInBounds_toArray, List.set_cons_zero, List.set_cons_succ]
    gi_wp2
    refine ⟨rfl, ?_⟩
    rintro W2 ⟨hno, hJ⟩ hb2 hsz2
    obtain rfl := hJ.1
    have hc := hJ.2.1 _ rfl
    have q1 : W2.cell? ⟨b, 0, none⟩ = some (.int .i64 who) := cell_of (i := 0) (hJ.2.2.at HW.out (by show ¬ (b = b + 1 ∨ b = b + 1 + 1); omega)) rfl
    have q2 : W2.frozen? ⟨b + 1, 0, none⟩ = false := frozen_of hc
    have q3 : W2.cell? ⟨b + 1, 0, none⟩ = some (.bool false) := cell_of (i := 0) hc rfl
    by_cases he : xw = who
    · have fin := hJ.next (W3 := W2.setCell ⟨b + 1, 0, none⟩ (.bool true)) (ob' := fun _ _ => .cells #[.bool true] 4) (k' := k + 1) ((Stp.refl (fun x => x = b + 1) W2).setCell (p := ⟨b + 1, 0, none⟩) (.inl rfl) _) (fun x hb => by
        have : x = b + 1 := hb
        subst this
        have := heap_setCell_same (i := 0) hc (.bool true)
        simpa using this)
      have hm : who ∈ L := by rw [← he]; exact List.mem_of_getElem? HX.out
      obtain ⟨O', s1, s2, s3⟩ := fin
      have FIN := Lib.hid (show ∃ O', Stp (fun x => x = b + 1) W2 (W2.setCell ⟨b + 1, 0, none⟩ (.bool true)) ∧ Grw (fun x => x = b + 1) O' W2 (W2.setCell ⟨b + 1, 0, none⟩ (.bool true)) ∧ ((Code.ret = Code.ret ∧ who ∈ L) ∧ BoxInv w2 (fun x => x = b + 1 + 1) (fun x => x = b + 1) (fun _ _ => .cells #[.bool true] 4) (k + 1) (W2.setCell ⟨b + 1, 0, none⟩ (.bool true)) O') from ⟨O', s1, s2, ⟨rfl, hm⟩, s3⟩)
      have HM := Lib.hid hm
      clear hJ hc hno s1 s2 s3 hm
      subst he
      gi_wp2
      obtain ⟨O', s1, s2, s3⟩ := FIN.out
      exact ⟨O', s1, s2, ⟨rfl, HM.out⟩, s3.2⟩
    · have fin := hJ.next (W3 := W2) (ob' := fun _ _ => .cells #[.bool false] 4) (k' := k + 1) (Stp.refl _ _) (fun x hb => hJ.2.1 x hb)
      obtain ⟨O', s1, s2, s3⟩ := fin
      have hno' : ∀ (j : Nat) (y : Int), j < k + 1 → L[j]? = some y → y ≠ who := fun j y hj hy => by
        rcases Nat.lt_or_ge j k with h | h
        · exact hno j y h hy
        · obtain rfl : j = k := by omega
          rw [HX.out] at hy
          simp only [Option.some.injEq] at hy
          exact hy ▸ he
      have FIN := Lib.hid (show ∃ O', Stp (fun x => x = b + 1) W2 W2 ∧ Grw (fun x => x = b + 1) O' W2 W2 ∧ ((∀ (j : Nat) (y : Int), j < k + 1 → L[j]? = some y → y ≠ who) ∧ BoxInv w2 (fun x => x = b + 1 + 1) (fun x => x = b + 1) (fun _ _ => .cells #[.bool false] 4) (k + 1) W2 O') from ⟨O', s1, s2, hno', s3⟩)
      clear hJ hc hno hno' s1 s2 s3
      gi_wp2
      exact FIN.out
  case done =>
    rintro D W' O' hD ⟨hno, hJ⟩ _ hst _ hK hnD
    obtain rfl := hJ.1
    have hc := hJ.2.1 _ rfl
    have hm : who ∉ L := not_mem_of_all (by rw [length_digP, HL.out]; exact Nat.le_refl _) hno
    have hDr : D ≠ b + 1 := hnD
    have q2 : W'.frozen? ⟨b + 1, 0, none⟩ = false := frozen_of hc
    have q3 : W'.cell? ⟨b + 1, 0, none⟩ = some (.bool false) := cell_of (i := 0) hc rfl
    have c1 := heap_setCell_same (i := 0) hc (.bool false)
    have hr : ((W'.setCell ⟨b + 1, 0, none⟩ (.bool false)).putObj D (.deferred none)).cell? ⟨b + 1, 0, none⟩ = some (.bool false) := by
      refine cell_of (i := 0) (c := #[.bool false]) (t := 4) (z := (0, 0)) ?_ rfl
      rw [World.putObj_heap_other (fun e => hDr e.symm)]
      simpa using c1
    have hK2 : (W'.setCell ⟨b + 1, 0, none⟩ (.bool false)).heap[D]? = some (.deferred (some [])) := (Below.heap_setCell _ _ _ _ hDr).trans hK
    have fin : Fr [] w ((W'.setCell ⟨b + 1, 0, none⟩ (.bool false)).putObj D (.deferred none)) := ((((Stp.of_fr F2).then hst (fun x hx => by right; have hx2 : x = b + 1 ∨ x = b + 1 + 1 := hx; omega)).setCell (p := ⟨b + 1, 0, none⟩) (.inr (by show w.heap.size ≤ b + 1; omega)) _).putObj (.inr (by omega)) _).to_fr (fun x hx => by simp at hx)
    have FIN := Lib.hid fin; have HR := Lib.hid hr; have HK2 := Lib.hid hK2; clear fin hr hK2 hst hJ c1 hc hno
    go_wp2
    refine leave_ret_at (.bool false) HK2.out ?_ ?_
    · have hr3 := HR.out
      simp [results, Try.f52, go_sem, hr3]
    · exact ⟨by first | rfl | rw [decide_eq_false hm], FIN.out⟩
  case stop =>
    rintro D c k W' O' hD hk ⟨⟨rfl, hm⟩, hJ⟩ _ hst _ hK hnD
    obtain rfl := hJ.1
    have hc := hJ.2.1 _ rfl
    have hDr : D ≠ b + 1 := hnD
    have hr : (W'.putObj D (.deferred none)).cell? ⟨b + 1, 0, none⟩ = some (.bool true) := by
      refine cell_of (i := 0) (c := #[.bool true]) (t := 4) (z := (0, 0)) ?_ rfl
      rw [World.putObj_heap_other (fun e => hDr e.symm)]
      exact hc
    have fin : Fr [] w (W'.putObj D (.deferred none)) := (((Stp.of_fr F2).then hst (fun x hx => by right; have hx2 : x = b + 1 ∨ x = b + 1 + 1 := hx; omega)).putObj (.inr (by omega)) _).to_fr (fun x hx => by simp at hx)
    have FIN := Lib.hid fin; have HR := Lib.hid hr; clear fin hr hst hJ hc
    go_wp2
    refine leave_ret_at (.bool true) hK ?_ ?_
    · have hr3 := HR.out
      simp [results, Try.f52, go_sem, hr3]
    · exact ⟨by first | rfl | rw [decide_eq_true hm], FIN.out⟩

end Go.Proofs.Ytdpefnebghljoaa

/- Some Queues at a time: where they lie. -/
import Derived.Test.YtdpefnebghljoaaQuP
namespace Go.Proofs.Ytdpefnebghljoaa
open Go.RowKit

theorem info_ptrQ : (Try.prog.info? 32).map (fun i => (i.zero, i.size, i.bytes)) = some (some (.pointer none), 1, 8) := by kernel_rfl
def ptrV (p : Nat) : Value := .pointer (some ⟨p, 0, none⟩)
/-- A slice of pointers. -/
def PtrsAt (w : World) (g : Option Addr) (P : List Nat) : Prop := ∀ (j : Nat) (p : Nat), P[j]? = some p → ∃ b o, g = some ⟨b, o, none⟩ ∧ w.cell? ⟨b, o + j, none⟩ = some (ptrV p)
theorem PtrsAt.fr {S : List Nat} {w w' : World} {g : Option Addr} {P : List Nat} (h : PtrsAt w g P) (f : Fr S w w') (hs : ∀ a, g = some a → a.block ∉ S) : PtrsAt w' g P :=
  fun j p hp => let ⟨b, o, hg, hc⟩ := h j p hp; ⟨b, o, hg, f.cell hc (hs ⟨b, o, none⟩ hg)⟩
theorem row_ptrs {B : Nat} {w : World} {e : TypeId} {v : Value} {P : List Nat} (h : w.ownsRow B e 1 v P.length (P.map ptrV)) : ∃ (g : Option Addr) (c : Nat), v = .slice g P.length c ∧ PtrsAt w g P := by
  rcases h.2 with ⟨rfl, hn⟩ | ⟨g, cap, cur, rfl, hb, hg, h1, h2, h3, h4⟩
  · have : P = [] := List.eq_nil_of_length_eq_zero hn
    subst this
    exact ⟨none, 0, rfl, fun j p hp => by simp at hp⟩
  · refine ⟨_, cap, rfl, fun j p hp => ⟨g, 0, rfl, ?_⟩⟩
    have hj : j < P.length := (List.getElem?_eq_some_iff.1 hp).1
    have := h.cellAt j (by omega)
    rw [Nat.zero_add, this, List.getElem?_map, hp]
    rfl
theorem own_cap {w : World} {B e n c : Nat} {g : Option Addr} {xs : List Value} (h : w.ownsRow B e 1 (.slice g n c) n xs) : n ≤ c := by
  rcases h.2 with ⟨h, hn⟩ | ⟨g', cap, cur, h, hb, hg, h1, h2, h3, h4⟩
  · omega
  · injection h with e1 e2 e3
    omega
/-- Rows of unlike types lie apart. -/
theorem own_ne {w : World} {B B' e e' n n' : Nat} {v v' : Value} {xs xs' : List Value} (h : w.ownsRow B e 1 v n xs) (h' : w.ownsRow B' e' 1 v' n' xs') (he : e ≠ e') : ∀ q, v'.ownBlock = some q → q ∉ v.ownBlock.toList := by
  intro q hq hm
  rcases h.2 with ⟨rfl, -⟩ | ⟨g, cap, cur, rfl, -, hg, -⟩
  · simp [Value.ownBlock] at hm
  · rcases h'.2 with ⟨rfl, -⟩ | ⟨g', cap', cur', rfl, -, hg', -⟩
    · simp [Value.ownBlock] at hq
    · simp only [Value.ownBlock, Option.some.injEq, Option.toList_some, List.mem_singleton] at hq hm
      subst hq
      subst hm
      rw [hg] at hg'
      injection hg' with hg'
      injection hg' with h1 h2 h3
      exact he h2
theorem own_ne_qu {w : World} {B e n p : Nat} {v : Value} {xs : List Value} {c : ConfV} {s : QuS} (h : w.ownsRow B e 1 v n xs) (h' : QuAt w p c s) (he : e ≠ 75) : p ∉ v.ownBlock.toList := by
  intro hm
  rcases h.2 with ⟨rfl, -⟩ | ⟨g, cap, cur, rfl, -, hg, -⟩
  · simp [Value.ownBlock] at hm
  · simp only [Value.ownBlock, Option.toList_some, List.mem_singleton] at hm
    subst hm
    have hg' : w.heap[p]? = some _ := h'
    rw [hg] at hg'
    injection hg' with hg'
    injection hg' with h1 h2 h3
    exact he h2
/-- Behind an append: all else is as it was. -/
theorem grown_fr {wr w1 : World} {o : Obj} {row : Option Nat} (hg : (wr.alloc o).grownBy w1 row) : Fr row.toList wr w1 :=
  ((Fr.refl _ wr).alloc o).grown hg (fun k hk => .inl (by rw [hk]; simp))

set_option maxHeartbeats 800000 in
set_option maxRecDepth 100000 in
theorem ref_list_own (w : World) (q : Int) (h2 : q ≤ 9223372036854775807) : Calls Try.prog 14 #[.int .i64 q] w (OwnPost w (refLi q)) := by
  obtain ⟨i0, hi, hz0, hz1, hz2⟩ := info_parts round_info_int
  by_cases hq : q < 0
  · rw [show refLi q = [] from if_pos hq]
    go_enter Try.func14, Try.ntmps14
    go_wp2
    go_loopw [3, 0] (fun s i wr => s = .slice none 0 0 ∧ i = .int .i64 q ∧ wr = w) (fun _ _ _ => 0)
    case atStart => exact ⟨rfl, rfl, rfl⟩
    case round =>
      obtain ⟨rfl, rfl, rfl⟩ := hrel
      have hq1 : ¬ 0 < q := by omega
      go_wp2
      go_ret
      exact ⟨_, rfl, World.ownsRow_nil _ _ _ _, Fr.refl _ _⟩
  · obtain ⟨n, rfl⟩ : ∃ n : Nat, q = (n : Int) := ⟨q.toNat, by omega⟩
    rw [show refLi (n : Int) = refL n by unfold refLi; rw [if_neg hq, Int.toNat_natCast]]
    obtain ⟨S, hS⟩ : ∃ S, S = refL n := ⟨_, rfl⟩
    have h16 := length_refL n
    rw [← hS] at h16 ⊢
    have HS := Lib.hid hS; clear hS hq
    have hn : n < 9223372036854775808 := by omega
    clear h2
    go_enter Try.func14, Try.ntmps14
    go_wp2
    go_loopw [3, 0] (fun s i wr => ∃ k m : Nat, k ≤ 16 ∧ m ≤ n ∧ i = .int .i64 (m : Int) ∧ S.drop k = refL m ∧ wr.ownsRow w.heap.size 3 1 s k ((S.map (Value.int .i64)).take k) ∧ Fr [] w wr) (fun _ i _ => (intOf i).toNat)
    case atStart => exact ⟨0, n, Nat.zero_le _, Nat.le_refl _, rfl, HS.out, World.ownsRow_nil _ _ _ _, Fr.refl _ _⟩
    case round =>
      obtain ⟨k, m, hk, hm, rfl, hd, hown, f⟩ := hrel
      have fs := f.size
      have HD := Lib.hid hd; clear hd
      by_cases h0 : m % 16 = 0
      · have hkS : S.take k = S := by
          have := HD.out
          rw [refL_0 h0] at this
          exact List.take_of_length_le (by have h2 := congrArg List.length this; simp at h2; omega)
        have hlk : S.length = k := by
          have h1 := hown.1
          simp only [List.length_take, List.length_map] at h1
          have h2 := congrArg List.length hkS
          rw [List.length_take] at h2
          omega
        have fin : OwnPost w S (.returned u3) wr := by
          refine ⟨_, rfl, ?_, f⟩
          rw [hlk]
          have := hown
          rwa [← List.map_take, hkS] at this
        have FIN := Lib.hid fin; clear fin hown hkS hlk
        by_cases hm0 : m = 0
        · subst hm0
          go_wp2
          go_ret
          exact FIN.out
        · have h1 : (0 : Int) < (m : Int) := by omega
          have h3 : (m : Int) % 16 = 0 := by omega
          go_wp2
          go_ret
          exact FIN.out
      · have h1 : (0 : Int) < (m : Int) := by omega
        have h3 : (0 : Int) < (m : Int) % 16 := by omega
        have hst := refL_step h0 (show m < 16 ^ 16 by omega)
        have hx : S[k]? = some ((m : Int) % 16 - 1) := by
          have h2 : (S.drop k)[0]? = some ((m : Int) % 16 - 1) := by rw [HD.out, hst]; rfl
          simpa using h2
        have hkl := (List.getElem?_eq_some_iff.1 hx).1
        have HX := Lib.hid hx
        have HD2 := Lib.hid (show S.drop (k + 1) = refL (m / 16) by rw [← List.drop_drop, HD.out, hst]; rfl)
        clear hst hx h0
        go_wp2_with (first
          | (at_builtin; refine wpList_append_own _ rfl _ _ 26 rfl w.heap.size 3 i0 (.int .i64 0) 1 8 Try.underlying26 hi hz0 hz1 hz2 rfl (by decide) _ _ _ rfl (hown.alloc _) ⟨wr.heap.size, 0, none⟩ 1 1 [.int .i64 ((m : Int) % 16 - 1)] rfl rfl (cell_one_new _ _ _) (by simp [Value.oneCell']) (by unfold maxLen; omega) (by omega) (by simp; omega) ?_)
          | go_in)
        intro v' w1 hown' hgrow _
        rw [take_snocV HX.out] at hown'
        have f1 := grown_step f hown (Nat.le_refl _) hgrow
        have HW := Lib.hid hown'; clear hown'
        go_wp2
        go_roundw
        case rel => exact ⟨k + 1, m / 16, by omega, by omega, by go_num, HD2.out, HW.out, f1⟩
        case measure => simp [intOf]; omega

/-- Many Queues, and what they hold. -/
def AllQ (w : World) (c : ConfV) (P : List Nat) (S : List QuS) : Prop := S.length = P.length ∧ ∀ (j : Nat) (p : Nat) (s : QuS), P[j]? = some p → S[j]? = some s → QuAt w p c s
theorem AllQ.nil (w : World) (c : ConfV) : AllQ w c [] [] := ⟨rfl, fun j p s h => by simp at h⟩
theorem AllQ.fr {w w' : World} {c : ConfV} {P : List Nat} {S : List QuS} {L : List Nat} (h : AllQ w c P S) (f : Fr L w w') (hP : ∀ p ∈ P, p ∉ L) : AllQ w' c P S :=
  ⟨h.1, fun j p s hp hs => (h.2 j p s hp hs).fr f (hP p (List.mem_of_getElem? hp))⟩
theorem AllQ.lt {w : World} {c : ConfV} {P : List Nat} {S : List QuS} (h : AllQ w c P S) : ∀ p ∈ P, p < w.heap.size := fun p hp => by
  obtain ⟨j, hj⟩ := List.getElem?_of_mem hp
  obtain ⟨s, hs⟩ : ∃ s, S[j]? = some s := ⟨_, List.getElem?_eq_getElem (by rw [h.1]; exact (List.getElem?_eq_some_iff.1 hj).1)⟩
  exact heap_lt (show w.heap[p]? = some _ from h.2 j p s hj hs)
theorem AllQ.row {w w1 : World} {B e n : Nat} {v : Value} {xs : List Value} {c : ConfV} {P : List Nat} {S : List QuS} (h : AllQ w c P S) (ho : w.ownsRow B e 1 v n xs) (he : e ≠ 75) (f : Fr v.ownBlock.toList w w1) : AllQ w1 c P S :=
  ⟨h.1, fun j p s hp hs => (h.2 j p s hp hs).fr f (own_ne_qu ho (h.2 j p s hp hs) he)⟩
theorem AllQ.snoc {w : World} {c : ConfV} {P : List Nat} {S : List QuS} {p : Nat} {s : QuS} (h : AllQ w c P S) (hq : QuAt w p c s) : AllQ w c (P ++ [p]) (S ++ [s]) := by
  refine ⟨by simp [h.1], fun j q t hp hs => ?_⟩
  by_cases hj : j < P.length
  · rw [List.getElem?_append_left hj] at hp
    rw [List.getElem?_append_left (by rw [h.1]; exact hj)] at hs
    exact h.2 j q t hp hs
  · have e : j = P.length := by
      have := (List.getElem?_eq_some_iff.1 hp).1
      simp at this; omega
    subst e
    rw [List.getElem?_append_right (Nat.le_refl _), Nat.sub_self] at hp
    rw [List.getElem?_append_right (by rw [h.1]; exact Nat.le_refl _), h.1, Nat.sub_self] at hs
    simp at hp hs
    subst hp; subst hs; exact hq
theorem AllQ.step {w w' : World} {c : ConfV} {P : List Nat} {S : List QuS} {j p pm qm : Nat} {s' : QuS} (h : AllQ w c P S) (hn : P.Nodup) (hp : P[j]? = some p) (f : Fr [p, pm, qm] w w') (hq : QuAt w' p c s') (hm : ∀ q ∈ P, q ≠ pm ∧ q ≠ qm) : AllQ w' c P (S.set j s') := by
  refine ⟨by rw [List.length_set]; exact h.1, fun i q t hqi hti => ?_⟩
  have hj := (List.getElem?_eq_some_iff.1 hp).1
  by_cases hij : j = i
  · subst hij
    rw [hp] at hqi
    rw [List.getElem?_set_self (by rw [h.1]; exact hj)] at hti
    cases hqi; cases hti; exact hq
  · rw [List.getElem?_set_ne hij] at hti
    have hqm := hm q (List.mem_of_getElem? hqi)
    refine (h.2 i q t hqi hti).fr f ?_
    have hpq : q ≠ p := fun e => hij (by
      subst e
      exact (List.getElem?_inj hj hn).1 (hp.trans hqi.symm))
    simp
    exact ⟨hpq, hqm⟩

/-- Those below k that don't stand there. -/
def wk (F : List Int) (k : Nat) : List Int := ((List.range k).map Int.ofNat).filter (fun x => decide (x ∉ F))
theorem wk_zero (F : List Int) : wk F 0 = [] := rfl
theorem wk_succ (F : List Int) (k : Nat) : wk F (k + 1) = if (k : Int) ∈ F then wk F k else wk F k ++ [(k : Int)] := by
  unfold wk
  rw [List.range_succ, List.map_append, List.filter_append]
  by_cases h : (k : Int) ∈ F
  · rw [if_pos h]
    have : List.filter (fun x => decide (x ∉ F)) (List.map Int.ofNat [k]) = [] := by
      simp [h]
    rw [this, List.append_nil]
  · rw [if_neg h]
    have : List.filter (fun x => decide (x ∉ F)) (List.map Int.ofNat [k]) = [(k : Int)] := by
      simp [h]
    rw [this]
theorem wk_len (F : List Int) (k : Nat) : (wk F k).length ≤ k := by
  unfold wk
  refine Nat.le_trans (List.length_filter_le _ _) ?_
  simp
theorem wk_mem {F : List Int} {k : Nat} {x : Int} : x ∈ wk F k ↔ (0 ≤ x ∧ x < k) ∧ x ∉ F := by
  unfold wk
  rw [List.mem_filter, List.mem_map]
  constructor
  · rintro ⟨⟨n, hn, rfl⟩, h⟩
    rw [List.mem_range] at hn
    refine ⟨⟨by show (0 : Int) ≤ (n : Int); omega, by show (n : Int) < k; omega⟩, by simpa using h⟩
  · rintro ⟨⟨h0, h1⟩, h2⟩
    exact ⟨⟨x.toNat, by rw [List.mem_range]; omega, by show ((x.toNat : Nat) : Int) = x; omega⟩, by simpa using h2⟩
theorem wk_nodup (F : List Int) (k : Nat) : (wk F k).Nodup := by
  unfold wk
  refine List.Pairwise.filter _ ?_
  rw [List.pairwise_map]
  exact (List.nodup_range (n := k)).imp fun h e => h (by injection e)
/-- One that comes. -/
def comer (x : Int) : QuS := ⟨x, [], 0, .come, 0, 0⟩
theorem ra_begin {wa : Int} {F : List Int} (hF : Ln F) (hle : (F.length : Int) ≤ wa) (hF8 : ∀ x ∈ F, x < 8) : RaI wa F (wk F 8) ((wk F 8).map comer) F := by
  refine ⟨List.prefix_refl _, hF, hle, hF8, by simp, fun j s x hs hx => ?_⟩
  rw [List.getElem?_map, hx] at hs
  simp at hs
  subst hs
  exact ⟨rfl, Ln.nil, .inl ⟨rfl, rfl, (wk_mem.1 (List.mem_of_getElem? hx)).2⟩⟩
theorem IntsAt.takeN {w : World} {g : Option Addr} {L : List Int} (h : IntsAt w g L) (m : Nat) : IntsAt w g (L.take m) :=
  ⟨by have := h.1; rw [List.length_take]; omega, fun j x hx => h.2 j x (by rw [List.getElem?_take] at hx; split at hx; exact hx; cases hx)⟩

/-- What stays. -/
def RaFix (c : ConfV) (P : List Nat) (W : List Int) (pm qm : Nat) : Prop := P.Nodup ∧ P.length = W.length ∧ (∀ p ∈ P, p ≠ pm ∧ p ≠ qm) ∧ W.Nodup ∧ (∀ x ∈ W, 0 ≤ x ∧ x < 8) ∧ c.fits ∧ c.wo = 8
/-- All of them, and the memory. -/
def RaW (c : ConfV) (P : List Nat) (W F : List Int) (pm qm : Nat) (S : List QuS) (M : List Int) (t : Int) (w : World) : Prop :=
  AllQ w c P S ∧ MemAt 83 w pm qm M t ∧ MOk M ∧ M.length = 20 ∧ loadV M 0 = 0 ∧ RaI c.wa F W S (mQ M)
def RaPost (c : ConfV) (P : List Nat) (W F : List Int) (pm qm : Nat) (S : List QuS) (M : List Int) (t : Int) (w : World) (j : Nat) (en : Ending) (w' : World) : Prop :=
  ∃ (b : Bool) (s s' : QuS) (M' : List Int) (t' : Int), en = .returned (.bool b) ∧ S[j]? = some s ∧ RaW c P W F pm qm (S.set j s') M' t' w' ∧ (t ≤ t' ∧ t' ≤ t + 1) ∧ rk s' (mQ M') ≤ rk s (mQ M) - 1 ∧ Fr (pm :: qm :: P) w w'
theorem ra_call {c : ConfV} {P : List Nat} {W F : List Int} {pm qm : Nat} {S : List QuS} {M : List Int} {t : Int} {w : World} (h : RaW c P W F pm qm S M t w) (hx : RaFix c P W pm qm) {j p : Nat} (hp : P[j]? = some p) (ht0 : 0 ≤ t) (ht1 : t ≤ 1000000) :
    Calls Try.prog 13 #[.pointer (some ⟨p, 0, none⟩), .pointer (some ⟨pm, 0, none⟩)] w (RaPost c P W F pm qm S M t w j) := by
  obtain ⟨hall, hM, hmo, hml, h0, hra⟩ := h
  obtain ⟨hPn, hPl, hPm, hWn, hW8, hft, hwo⟩ := hx
  have hj := (List.getElem?_eq_some_iff.1 hp).1
  obtain ⟨s, hs⟩ : ∃ s, S[j]? = some s := ⟨_, List.getElem?_eq_getElem (by rw [hall.1]; exact hj)⟩
  obtain ⟨x, hx⟩ : ∃ x, W[j]? = some x := ⟨_, List.getElem?_eq_getElem (by rw [← hPl]; exact hj)⟩
  have hxb := hW8 x (List.mem_of_getElem? hx)
  obtain ⟨g1, g2, g3, g4, g5⟩ := ra_step hra hs hx hmo h0 hxb.1 hxb.2 hWn
  have hsok : s.ok c := (hra.2.2.2.2.2 j s x hs hx).ok c hxb.1 (by omega)
  have hpm := hPm p (List.mem_of_getElem? hp)
  refine (qstep_fn w p pm qm c s M t (hall.2 j p s hp hs) hM ht0 ht1 hpm hft hsok hmo (by rw [hml, hwo]; omega)).mono fun en w' ⟨he, hq, hm, hf⟩ => ?_
  have hqt := qT_1 s
  exact ⟨_, s, _, _, _, he, hs, ⟨hall.step hPn hp hf hq hPm, hm, g2, by rw [g3, hml], g4, g1⟩, ⟨by omega, by omega⟩, g5, hf.mono (by
    intro k hk
    simp at hk
    rcases hk with rfl | rfl | rfl
    · exact List.mem_cons_of_mem _ (List.mem_cons_of_mem _ (List.mem_of_getElem? hp))
    · exact List.mem_cons_self ..
    · exact List.mem_cons_of_mem _ (List.mem_cons_self ..))⟩

theorem rk_le4 {wa : Int} {Qc : List Int} {x : Int} {s : QuS} (h : RaS wa Qc x s) : rk s Qc ≤ 4 := by
  obtain ⟨-, -, h⟩ := h
  rcases h with ⟨hn, -⟩ | ⟨hn, -⟩ | ⟨hn, -⟩ | ⟨hn, -⟩ | ⟨hn, -⟩ <;> simp [rk, hn] <;> (split <;> omega)
theorem rk_zero {s : QuS} {Qc : List Int} (h : rk s Qc = 0) : s.nx = .done := by
  unfold rk at h
  cases hn : s.nx <;> rw [hn] at h <;> simp at h <;> first | rfl | (split at h <;> omega)
theorem RaW.rank {c : ConfV} {P : List Nat} {W F : List Int} {pm qm : Nat} {S : List QuS} {M : List Int} {t : Int} {w : World} (h : RaW c P W F pm qm S M t w) {k : Nat} {s : QuS} (hs : S[k]? = some s) : rk s (mQ M) ≤ 4 := by
  obtain ⟨hall, -, -, -, -, hra⟩ := h
  obtain ⟨x, hx⟩ : ∃ x, W[k]? = some x := ⟨_, List.getElem?_eq_getElem (by rw [← hra.2.2.2.2.1]; exact (List.getElem?_eq_some_iff.1 hs).1)⟩
  exact rk_le4 (hra.2.2.2.2.2 k s x hs hx)
theorem set_at {S : List QuS} {k : Nat} {s0 s' s : QuS} (h0 : S[k]? = some s0) (h : (S.set k s')[k]? = some s) : s = s' := by
  rw [List.getElem?_set_self (List.getElem?_eq_some_iff.1 h0).1] at h
  exact (Option.some.inj h).symm
theorem set_off {S : List QuS} {j k : Nat} {s' s : QuS} (hj : j ≠ k) (h : (S.set k s')[j]? = some s) : S[j]? = some s := by
  rwa [List.getElem?_set_ne (Ne.symm hj)] at h

end Go.Proofs.Ytdpefnebghljoaa

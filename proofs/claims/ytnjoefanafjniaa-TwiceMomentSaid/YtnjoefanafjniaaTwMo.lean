/- What TwiceMoment holds: one that looks, the words that each cell had, and all moments. -/
import Derived.Test.YtnjoefanafjniaaTwPl
namespace Go.Proofs.Ytnjoefanafjniaa
open Go.RowKit

/-- What is known of one that looks, where no word comes back: hs j: all words that slot j had; MS: the slots' words at all moments. -/
structure Moms (S : Nat) (s : TwS) (X : List Int) (hs : Nat → List Int) (MS : List (List Int)) (m : Nat) : Prop where
  hd : s.d = false
  hn : s.n = (m : Int)
  hr : s.r.length < S
  hX : ∀ j, j < S → X.getD j 0 ∈ hs j
  hrs : ∀ j, j < s.r.length → s.r.getD j 0 ∈ hs j
  hl : 1 ≤ m → s.l.length = S
  hls : 1 ≤ m → ∀ j, j < S → s.l.getD j 0 ∈ hs j
  hP : 1 ≤ m → 1 ≤ s.r.length → ∃ P ∈ MS, P.length = S ∧ (∀ j, j < s.r.length → s.l.getD j 0 = s.r.getD j 0 → P.getD j 0 = s.r.getD j 0) ∧ ∀ j, s.r.length ≤ j → j < S → s.l.getD j 0 = X.getD j 0 → P.getD j 0 = X.getD j 0
theorem moms_zero {S : Nat} (hS : 1 ≤ S) {X : List Int} {hs : Nat → List Int} (hX : ∀ j, j < S → X.getD j 0 ∈ hs j) (MS : List (List Int)) : Moms S ⟨[], [], 0, false⟩ X hs MS 0 :=
  ⟨rfl, rfl, hS, hX, fun j h => by simp at h, fun h => by omega, fun h => by omega, fun h => by omega⟩
/-- Somebody stores a word that slot k never had. -/
theorem Moms.write {S : Nat} {s : TwS} {X : List Int} {hs : Nat → List Int} {MS : List (List Int)} {m : Nat} (h : Moms S s X hs MS m) {X' : List Int} {hs' : Nat → List Int} (k : Nat) (v : Int) (hv : v ∉ hs k)
    (hX1 : ∀ j, j < S → j ≠ k → X'.getD j 0 = X.getD j 0) (hX2 : k < S → X'.getD k 0 = v) (hh : ∀ j, ∀ x ∈ hs j, x ∈ hs' j) (hk : v ∈ hs' k) : Moms S s X' hs' MS m := by
  refine ⟨h.hd, h.hn, h.hr, fun j hj => ?_, fun j hj => hh j _ (h.hrs j hj), h.hl, fun h1 j hj => hh j _ (h.hls h1 j hj), fun h1 h2 => ?_⟩
  · by_cases e : j = k
    · subst e; rw [hX2 hj]; exact hk
    · rw [hX1 j hj e]; exact hh j _ (h.hX j hj)
  · obtain ⟨P, hP, hPl, hP1, hP2⟩ := h.hP h1 h2
    refine ⟨P, hP, hPl, hP1, fun j hj hjS he => ?_⟩
    by_cases e : j = k
    · subst e
      rw [hX2 hjS] at he
      exact absurd (he ▸ h.hls h1 j hjS) hv
    · rw [hX1 j hjS e] at he ⊢
      exact hP2 j hj hjS he
theorem Moms.same {S : Nat} {s : TwS} {X : List Int} {hs : Nat → List Int} {MS : List (List Int)} {m : Nat} (h : Moms S s X hs MS m) {hs' : Nat → List Int} (hh : ∀ j, ∀ x ∈ hs j, x ∈ hs' j) : Moms S s X hs' MS m :=
  ⟨h.hd, h.hn, h.hr, fun j hj => hh j _ (h.hX j hj), fun j hj => hh j _ (h.hrs j hj), h.hl, fun h1 j hj => hh j _ (h.hls h1 j hj), h.hP⟩
/-- One moment more is known. -/
theorem Moms.more {S : Nat} {s : TwS} {X : List Int} {hs : Nat → List Int} {MS : List (List Int)} {m : Nat} (h : Moms S s X hs MS m) (Y : List Int) : Moms S s X hs (MS ++ [Y]) m :=
  ⟨h.hd, h.hn, h.hr, h.hX, h.hrs, h.hl, h.hls, fun h1 h2 => by
    obtain ⟨P, hP, hP1⟩ := h.hP h1 h2
    exact ⟨P, List.mem_append_left _ hP, hP1⟩⟩
/-- A step, behind a moment that is known. -/
theorem Moms.step {S : Nat} {s : TwS} {X : List Int} {hs : Nat → List Int} {MS : List (List Int)} {m : Nat} (h : Moms S s X hs MS m) (hXl : X.length = S) (hXm : X ∈ MS) {x : Int} (hx : x = X.getD s.r.length 0) :
    ((s.step S x).d = false ∧ ∃ m', Moms S (s.step S x) X hs MS m' ∧ m' ≤ m + 1) ∨ ((s.step S x).d = true ∧ (s.step S x).l ∈ MS ∧ (s.step S x).l.length = S) := by
  obtain ⟨r, l, n, d⟩ := s
  obtain ⟨hd, hn, hr, hX, hrs, hl, hls, hP⟩ := h
  simp only at hd hn hr hrs hl hls hP hx
  subst hd hn
  have hlen : (r ++ [x]).length = r.length + 1 := by simp
  have hrs' : ∀ j, j < (r ++ [x]).length → (r ++ [x]).getD j 0 ∈ hs j := fun j hj => by
    by_cases e : j < r.length
    · rw [getD_snoc_lt e]; exact hrs j e
    · have e2 : j = r.length := by omega
      rw [getD_snoc_eq e2, hx, ← e2]
      exact hX j (by omega)
  have key : 1 ≤ m → ∃ P ∈ MS, P.length = S ∧ (∀ j, j < (r ++ [x]).length → l.getD j 0 = (r ++ [x]).getD j 0 → P.getD j 0 = (r ++ [x]).getD j 0) ∧ ∀ j, (r ++ [x]).length ≤ j → j < S → l.getD j 0 = X.getD j 0 → P.getD j 0 = X.getD j 0 := fun h1 => by
    by_cases h0 : r.length = 0
    · refine ⟨X, hXm, hXl, fun j hj _ => ?_, fun j _ _ _ => rfl⟩
      have e2 : j = r.length := by omega
      rw [getD_snoc_eq e2, hx, ← e2]
    · obtain ⟨P, hPm, hPl, hP1, hP2⟩ := hP h1 (by omega)
      refine ⟨P, hPm, hPl, fun j hj he => ?_, fun j hj hjS he => hP2 j (by omega) hjS he⟩
      by_cases e : j < r.length
      · rw [getD_snoc_lt e] at he ⊢; exact hP1 j e he
      · have e2 : j = r.length := by omega
        rw [getD_snoc_eq e2, hx, ← e2] at he ⊢
        exact hP2 j (by omega) (by omega) he
  by_cases hk : r.length + 1 < S
  · have e : TwS.step S x ⟨r, l, (m : Int), false⟩ = ⟨r ++ [x], l, (m : Int), false⟩ := by
      unfold TwS.step
      rw [if_neg (by simp), if_pos (by rw [hlen]; exact hk)]
    rw [e]
    exact .inl ⟨rfl, m, ⟨rfl, rfl, by rw [hlen]; exact hk, hX, hrs', hl, hls, fun h1 _ => key h1⟩, by omega⟩
  · have e : TwS.step S x ⟨r, l, (m : Int), false⟩ = ⟨[], r ++ [x], (m : Int) + 1, decide (0 < (m : Int)) && decide (r ++ [x] = l)⟩ := by
      unfold TwS.step
      rw [if_neg (by simp), if_neg (by rw [hlen]; exact hk)]
    rw [e]
    by_cases hdone : 0 < m ∧ r ++ [x] = l
    · refine .inr ⟨by simp [hdone.1, hdone.2], ?_, by show (r ++ [x]).length = S; omega⟩
      obtain ⟨P, hPm, hPl, hP1, -⟩ := key (by omega)
      have : r ++ [x] = P := by
        refine List.ext_getElem? fun j => ?_
        by_cases hj : j < (r ++ [x]).length
        · have h1 := hP1 j hj (by rw [hdone.2])
          rw [List.getD_eq_getElem?_getD, List.getD_eq_getElem?_getD, List.getElem?_eq_getElem hj, List.getElem?_eq_getElem (show j < P.length by omega)] at h1
          rw [List.getElem?_eq_getElem hj, List.getElem?_eq_getElem (show j < P.length by omega)]
          simp only [Option.getD_some] at h1
          rw [h1]
        · rw [List.getElem?_eq_none (by omega), List.getElem?_eq_none (by omega)]
      show r ++ [x] ∈ MS
      rw [this]; exact hPm
    · have hdf : (decide (0 < (m : Int)) && decide (r ++ [x] = l)) = false := by
        by_cases h0 : 0 < m
        · have : ¬ r ++ [x] = l := fun h => hdone ⟨h0, h⟩
          simp [this]
        · simp [h0]
      rw [hdf]
      refine .inl ⟨rfl, m + 1, ⟨rfl, by simp, by show 0 < S; omega, hX, fun j hj => by simp at hj, fun _ => by show (r ++ [x]).length = S; omega, fun _ j hj => hrs' j (by omega), fun _ h2 => by simp at h2⟩, by omega⟩

/-- The words that each cell had: block bh; the lists' own values. -/
def HFoot (bh : Nat) (vs : List Value) (b : Nat) : Prop := b = bh ∨ ∃ (i : Nat) (v : Value), vs[i]? = some v ∧ v.ownBlock = some b
structure HadAt (w : World) (bh : Nat) (vs : List Value) (H : List (List Int)) : Prop where
  b : w.heap[bh]? = some (.cells vs.toArray 32 (0, 0))
  len : vs.length = H.length
  o : ∀ (i : Nat) (v : Value) (L : List Int), vs[i]? = some v → H[i]? = some L → OwnI w v L
  ne : ∀ (i : Nat) (v : Value), vs[i]? = some v → v.ownBlock ≠ some bh
  dis : ∀ (i j : Nat) (v v' : Value) (b : Nat), vs[i]? = some v → vs[j]? = some v' → v.ownBlock = some b → v'.ownBlock = some b → i = j
theorem HadAt.fr {w w' : World} {bh : Nat} {vs : List Value} {H : List (List Int)} (h : HadAt w bh vs H) {S : List Nat} (f : Fr S w w') (hS : ∀ b, HFoot bh vs b → b ∉ S) : HadAt w' bh vs H :=
  ⟨f.at h.b (hS _ (.inl rfl)), h.len, fun i v L hv hL => (h.o i v L hv hL).fr f (fun b hb => hS b (.inr ⟨i, v, hv, hb⟩)), h.ne, h.dis⟩
theorem HadAt.get {w : World} {bh : Nat} {vs : List Value} {H : List (List Int)} (h : HadAt w bh vs H) {i : Nat} (hi : i < H.length) : ∃ v, vs[i]? = some v ∧ OwnI w v (H.getD i []) ∧ w.cell? ⟨bh, i, none⟩ = some v ∧ w.frozen? ⟨bh, i, none⟩ = false := by
  have h1 : vs[i]? = some (vs[i]'(by rw [h.len]; exact hi)) := List.getElem?_eq_getElem _
  refine ⟨_, h1, ?_, cell_of h.b (by simp), frozen_of h.b⟩
  have h2 : H[i]? = some (H.getD i []) := by rw [List.getD_eq_getElem?_getD, List.getElem?_eq_getElem hi]; rfl
  exact h.o i _ _ h1 h2
theorem HadAt.lt {w : World} {bh : Nat} {vs : List Value} {H : List (List Int)} (h : HadAt w bh vs H) {b : Nat} (hb : HFoot bh vs b) : b < w.heap.size := by
  rcases hb with rfl | ⟨i, v, hv, hb⟩
  · exact heap_lt h.b
  · have hi : i < H.length := by rw [← h.len]; exact (List.getElem?_eq_some_iff.1 hv).1
    exact ((h.o i v _ hv (List.getElem?_eq_getElem hi)).lt b hb).2
/-- One cell's list is another one. -/
theorem HadAt.put {w w' : World} {bh : Nat} {vs : List Value} {H : List (List Int)} (h : HadAt w bh vs H) {k : Nat} {v v' : Value} {L' : List Int} (hv : vs[k]? = some v) (f : Fr (bh :: v.ownBlock.toList) w w')
    (hb : w'.heap[bh]? = some (.cells (vs.set k v').toArray 32 (0, 0))) (ho : OwnI w' v' L') (hn : v'.ownBlock ≠ some bh) (hnew : ∀ b, v'.ownBlock = some b → v.ownBlock = some b ∨ w.heap.size ≤ b) :
    HadAt w' bh (vs.set k v') (H.set k L') ∧ ∀ b, HFoot bh (vs.set k v') b → HFoot bh vs b ∨ w.heap.size ≤ b := by
  have hk : k < vs.length := (List.getElem?_eq_some_iff.1 hv).1
  have get : ∀ (i : Nat) (u : Value), (vs.set k v')[i]? = some u → (i = k ∧ u = v') ∨ (i ≠ k ∧ vs[i]? = some u) := fun i u hu => by
    by_cases e : i = k
    · subst e
      rw [List.getElem?_set_self hk] at hu
      injection hu with hu
      exact .inl ⟨rfl, hu.symm⟩
    · rw [List.getElem?_set_ne (Ne.symm e)] at hu
      exact .inr ⟨e, hu⟩
  refine ⟨⟨hb, by simp [h.len], fun i u L hu hL => ?_, fun i u hu => ?_, fun i j u u' b hu hu' hb1 hb2 => ?_⟩, fun b hb => ?_⟩
  · rcases get i u hu with ⟨rfl, rfl⟩ | ⟨e, hu2⟩
    · rw [List.getElem?_set_self (by rw [← h.len]; exact hk)] at hL
      injection hL with hL
      subst hL
      exact ho
    · rw [List.getElem?_set_ne (Ne.symm e)] at hL
      refine (h.o i u L hu2 hL).fr f (fun b hbb hm => ?_)
      simp only [List.mem_cons, Option.mem_toList] at hm
      rcases hm with rfl | hm
      · exact h.ne i u hu2 hbb
      · exact e (h.dis i k u v b hu2 hv hbb hm)
  · rcases get i u hu with ⟨rfl, rfl⟩ | ⟨e, hu2⟩
    · exact hn
    · exact h.ne i u hu2
  · rcases get i u hu with ⟨rfl, rfl⟩ | ⟨e, hu2⟩
    · rcases get j u' hu' with ⟨rfl, rfl⟩ | ⟨e', hu2'⟩
      · rfl
      · rcases hnew b hb1 with h1 | h1
        · exact (h.dis j i u' v b hu2' hv hb2 h1).symm
        · have := h.lt (b := b) (.inr ⟨j, u', hu2', hb2⟩); omega
    · rcases get j u' hu' with ⟨rfl, rfl⟩ | ⟨e', hu2'⟩
      · rcases hnew b hb2 with h1 | h1
        · exact h.dis i j u v b hu2 hv hb1 h1
        · have := h.lt (b := b) (.inr ⟨i, u, hu2, hb1⟩); omega
      · exact h.dis i j u u' b hu2 hu2' hb1 hb2
  · rcases hb with rfl | ⟨i, u, hu, hbu⟩
    · exact .inl (.inl rfl)
    · rcases get i u hu with ⟨rfl, rfl⟩ | ⟨e, hu2⟩
      · exact (hnew b hbu).imp (fun h1 => .inr ⟨i, v, hv, h1⟩) id
      · exact .inl (.inr ⟨i, u, hu2, hbu⟩)

/-- All moments: a list of the call's own of lists that nobody turns. -/
def MFoot (vM : Value) (ms : List Value) (b : Nat) : Prop := vM.ownBlock = some b ∨ ∃ (j : Nat) (v : Value), ms[j]? = some v ∧ v.ownBlock = some b
structure MomAt (w : World) (vM : Value) (ms : List Value) (MS : List (List Int)) : Prop where
  o : w.ownsRow 0 32 1 vM ms.length ms
  len : ms.length = MS.length
  i : ∀ (j : Nat) (v : Value) (M : List Int), ms[j]? = some v → MS[j]? = some M → ∃ (g c : Nat), v = .slice (some ⟨g, 0, none⟩) M.length c ∧ IntsAt w (some ⟨g, 0, none⟩) M ∧ g < w.heap.size ∧ M.length ≤ c
  ne : ∀ (j : Nat) (v : Value) (b : Nat), ms[j]? = some v → v.ownBlock = some b → vM.ownBlock ≠ some b
theorem ownsRow_keep {w w' : World} {e n : Nat} {v : Value} {xs : List Value} {S : List Nat} (h : w.ownsRow 0 e 1 v n xs) (f : Fr S w w') (hS : ∀ b, v.ownBlock = some b → b ∉ S) : w'.ownsRow 0 e 1 v n xs := by
  refine ⟨h.1, ?_⟩
  rcases h.2 with hn | ⟨g, cap, cur, rfl, hb, hgg, rest⟩
  · exact .inl hn
  · exact .inr ⟨g, cap, cur, rfl, hb, f.at hgg (hS g rfl), rest⟩
theorem MomAt.fr {w w' : World} {vM : Value} {ms : List Value} {MS : List (List Int)} (h : MomAt w vM ms MS) {S : List Nat} (f : Fr S w w') (hS : ∀ b, MFoot vM ms b → b ∉ S) : MomAt w' vM ms MS :=
  ⟨ownsRow_keep h.o f (fun b hb => hS b (.inl hb)), h.len, fun j v M hv hM => by
    obtain ⟨g, c, rfl, hI, hg, hc⟩ := h.i j v M hv hM
    exact ⟨g, c, rfl, hI.fr f (fun a ha => by injection ha with ha; subst ha; exact hS g (.inr ⟨j, _, hv, rfl⟩)), Nat.lt_of_lt_of_le hg f.size, hc⟩, h.ne⟩
theorem MomAt.lt {w : World} {vM : Value} {ms : List Value} {MS : List (List Int)} (h : MomAt w vM ms MS) {b : Nat} (hb : MFoot vM ms b) : b < w.heap.size := by
  rcases hb with hb | ⟨j, v, hv, hb⟩
  · exact (h.o.lt b hb).2
  · have hj : j < MS.length := by rw [← h.len]; exact (List.getElem?_eq_some_iff.1 hv).1
    obtain ⟨g, c, rfl, _, hg, _⟩ := h.i j v _ hv (List.getElem?_eq_getElem hj)
    simp [Value.ownBlock] at hb
    omega
theorem momAt_nil (w : World) : MomAt w (.slice none 0 0) [] [] := ⟨World.ownsRow_nil _ _ _ _, rfl, fun j v M h => by simp at h, fun j v b h => by simp at h⟩
/-- One moment more. -/
theorem MomAt.push {w w1 w' : World} {vM vM' : Value} {ms : List Value} {MS : List (List Int)} (h : MomAt w vM ms MS) {g c : Nat} {M : List Int} (f1 : Fr [] w w1) (hg : w.heap.size ≤ g) (hg1 : g < w1.heap.size) (hcap : M.length ≤ c) (hI : IntsAt w1 (some ⟨g, 0, none⟩) M) (f : Fr vM.ownBlock.toList w1 w')
    (ho : w'.ownsRow 0 32 1 vM' (ms.length + 1) (ms ++ [.slice (some ⟨g, 0, none⟩) M.length c])) (hnew : ∀ b, vM'.ownBlock = some b → vM.ownBlock = some b ∨ w1.heap.size ≤ b) :
    MomAt w' vM' (ms ++ [.slice (some ⟨g, 0, none⟩) M.length c]) (MS ++ [M]) ∧ ∀ b, MFoot vM' (ms ++ [.slice (some ⟨g, 0, none⟩) M.length c]) b → MFoot vM ms b ∨ w.heap.size ≤ b := by
  have hsz := f1.size
  have get : ∀ (j : Nat) (u : Value), (ms ++ [Value.slice (some ⟨g, 0, none⟩) M.length c])[j]? = some u → (j < ms.length ∧ ms[j]? = some u) ∨ (j = ms.length ∧ u = .slice (some ⟨g, 0, none⟩) M.length c) := fun j u hu => by
    by_cases e : j < ms.length
    · rw [List.getElem?_append_left e] at hu; exact .inl ⟨e, hu⟩
    · have h1 := (List.getElem?_eq_some_iff.1 hu).1
      simp at h1
      have e2 : j = ms.length := by omega
      subst e2
      simp at hu
      exact .inr ⟨rfl, hu.symm⟩
  have hgn : vM.ownBlock ≠ some g := fun e => by have := (h.o.lt g e).2; omega
  refine ⟨⟨by simpa using ho, by simp [h.len], fun j u N hu hN => ?_, fun j u b hu hb => ?_⟩, fun b hb => ?_⟩
  · rcases get j u hu with ⟨hj, hu2⟩ | ⟨rfl, rfl⟩
    · rw [List.getElem?_append_left (by rw [← h.len]; exact hj)] at hN
      obtain ⟨g', c', rfl, hI', hg', hc'⟩ := h.i j u N hu2 hN
      refine ⟨g', c', rfl, (hI'.fr f1 (by simp)).fr f (fun a ha hm => ?_), by have := f.size; omega, hc'⟩
      injection ha with ha
      subst ha
      rw [Option.mem_toList] at hm
      exact h.ne j _ g' hu2 rfl hm
    · rw [h.len, List.getElem?_append_right (Nat.le_refl _), Nat.sub_self] at hN
      simp at hN
      subst hN
      refine ⟨g, c, rfl, hI.fr f (fun a ha hm => ?_), by have := f.size; omega, hcap⟩
      injection ha with ha
      subst ha
      rw [Option.mem_toList] at hm
      exact hgn hm
  · intro e
    rcases hnew b e with h1 | h1
    · rcases get j u hu with ⟨hj, hu2⟩ | ⟨rfl, rfl⟩
      · exact h.ne j u b hu2 hb h1
      · simp [Value.ownBlock] at hb; subst hb; exact hgn h1
    · rcases get j u hu with ⟨hj, hu2⟩ | ⟨rfl, rfl⟩
      · have := h.lt (b := b) (.inr ⟨j, u, hu2, hb⟩); omega
      · simp [Value.ownBlock] at hb; omega
  · rcases hb with hb | ⟨j, u, hu, hb⟩
    · exact (hnew b hb).imp (fun h1 => .inl h1) (fun h1 => by omega)
    · rcases get j u hu with ⟨hj, hu2⟩ | ⟨rfl, rfl⟩
      · exact .inl (.inr ⟨j, u, hu2, hb⟩)
      · simp [Value.ownBlock] at hb; exact .inr (by omega)

/-- All of it, each apart from the others, and from B on. -/
structure Mom (B : Nat) (w : World) (p pm qm : Nat) (c : ConfV) (s : TwS) (M : List Int) (t : Int) (vR vL : Value) (bh : Nat) (vs : List Value) (H : List (List Int)) (vM : Value) (ms : List Value) (MS : List (List Int)) : Prop where
  tw : TwIn B w p pm qm c s M t vR vL
  hd : HadAt w bh vs H
  mo : MomAt w vM ms MS
  d1 : ∀ b, Foot p pm qm vR vL b → ¬ HFoot bh vs b
  d2 : ∀ b, Foot p pm qm vR vL b → ¬ MFoot vM ms b
  d3 : ∀ b, HFoot bh vs b → ¬ MFoot vM ms b
  gh : ∀ b, HFoot bh vs b → B ≤ b
  gm : ∀ b, MFoot vM ms b → B ≤ b
variable {B : Nat} {w w' : World} {p pm qm : Nat} {c : ConfV} {s s' : TwS} {M M' : List Int} {t t' : Int} {vR vL vR' vL' : Value} {bh : Nat} {vs vs' : List Value} {H H' : List (List Int)} {vM vM' : Value} {ms ms' : List Value} {MS MS' : List (List Int)}
theorem Mom.fr0 (h : Mom B w p pm qm c s M t vR vL bh vs H vM ms MS) (f : Fr [] w w') : Mom B w' p pm qm c s M t vR vL bh vs H vM ms MS :=
  ⟨h.tw.fr0 f, h.hd.fr f (by simp), h.mo.fr f (by simp), h.d1, h.d2, h.d3, h.gh, h.gm⟩
theorem Mom.store (h : Mom B w p pm qm c s M t vR vL bh vs H vM ms MS) (f : Fr [pm, qm] w w') (hm : MemAt 78 w' pm qm M' t') : Mom B w' p pm qm c s M' t' vR vL bh vs H vM ms MS ∧ FB B w w' := by
  have key : ∀ b, b ∈ [pm, qm] → Foot p pm qm vR vL b := fun b hb => by
    simp at hb
    rcases hb with e | e
    · exact .inr (.inl e)
    · exact .inr (.inr (.inl e))
  exact ⟨⟨h.tw.mem f hm, h.hd.fr f (fun b hb hm => h.d1 b (key b hm) hb), h.mo.fr f (fun b hb hm => h.d2 b (key b hm) hb), h.d1, h.d2, h.d3, h.gh, h.gm⟩, h.tw.memFB f⟩
theorem Mom.put (h : Mom B w p pm qm c s M t vR vL bh vs H vM ms MS) {k : Nat} {v : Value} (hv : vs[k]? = some v) (hd' : HadAt w' bh vs' H') (f : Fr (bh :: v.ownBlock.toList) w w')
    (hf : ∀ b, HFoot bh vs' b → HFoot bh vs b ∨ w.heap.size ≤ b) : Mom B w' p pm qm c s M t vR vL bh vs' H' vM ms MS ∧ FB B w w' := by
  have key : ∀ b, b ∈ bh :: v.ownBlock.toList → HFoot bh vs b := fun b hb => by
    simp only [List.mem_cons, Option.mem_toList] at hb
    rcases hb with e | e
    · exact .inl e
    · exact .inr ⟨k, v, hv, e⟩
  have hB : B ≤ w.heap.size := by have h1 := h.gh bh (.inl rfl); have h2 := h.hd.lt (b := bh) (.inl rfl); omega
  refine ⟨⟨h.tw.fr f (fun b hb hm => h.d1 b hb (key b hm)), hd', h.mo.fr f (fun b hb hm => h.d3 b (key b hm) hb), fun b hb hh => ?_, h.d2, fun b hh hm => ?_, fun b hb => (hf b hb).elim (h.gh b) (fun h1 => by omega), h.gm⟩, ⟨_, fun b hb => h.gh b (key b hb), f⟩⟩
  · rcases hf b hh with h1 | h1
    · exact h.d1 b hb h1
    · have := h.tw.lt hb; omega
  · rcases hf b hh with h1 | h1
    · exact h.d3 b h1 hm
    · have := h.mo.lt hm; omega
theorem Mom.push (h : Mom B w p pm qm c s M t vR vL bh vs H vM ms MS) (mo' : MomAt w' vM' ms' MS') (f : Fr vM.ownBlock.toList w w')
    (hf : ∀ b, MFoot vM' ms' b → MFoot vM ms b ∨ w.heap.size ≤ b) : Mom B w' p pm qm c s M t vR vL bh vs H vM' ms' MS' ∧ FB B w w' := by
  have key : ∀ b, b ∈ vM.ownBlock.toList → MFoot vM ms b := fun b hb => by
    rw [Option.mem_toList] at hb
    exact .inl hb
  have hB : B ≤ w.heap.size := by have h1 := h.gh bh (.inl rfl); have h2 := h.hd.lt (b := bh) (.inl rfl); omega
  refine ⟨⟨h.tw.fr f (fun b hb hm => h.d2 b hb (key b hm)), h.hd.fr f (fun b hb hm => h.d3 b hb (key b hm)), mo', h.d1, fun b hb hm => ?_, fun b hh hm => ?_, h.gh, fun b hb => (hf b hb).elim (h.gm b) (fun h1 => by omega)⟩, ⟨_, fun b hb => h.gm b (key b hb), f⟩⟩
  · rcases hf b hm with h1 | h1
    · exact h.d2 b hb h1
    · have := h.tw.lt hb; omega
  · rcases hf b hm with h1 | h1
    · exact h.d3 b hh h1
    · have := h.hd.lt hh; omega
theorem Mom.step (h : Mom B w p pm qm c s M t vR vL bh vs H vM ms MS) (ha : TwIn B w' p pm qm c s' M t' vR' vL') (f : Fr (p :: pm :: qm :: vR.ownBlock.toList) w w')
    (hf : ∀ b, Foot p pm qm vR' vL' b → Foot p pm qm vR vL b ∨ w.heap.size ≤ b) : Mom B w' p pm qm c s' M t' vR' vL' bh vs H vM ms MS := by
  have key : ∀ b, b ∈ p :: pm :: qm :: vR.ownBlock.toList → Foot p pm qm vR vL b := fun b hm => by
    simp only [List.mem_cons, Option.mem_toList] at hm
    rcases hm with e | e | e | e
    · exact .inl e
    · exact .inr (.inl e)
    · exact .inr (.inr (.inl e))
    · exact .inr (.inr (.inr (.inl e)))
  refine ⟨ha, h.hd.fr f (fun b hb hm => h.d1 b (key b hm) hb), h.mo.fr f (fun b hb hm => h.d2 b (key b hm) hb), fun b hb hh => ?_, fun b hb hm => ?_, h.d3, h.gh, h.gm⟩
  · rcases hf b hb with h1 | h1
    · exact h.d1 b h1 hh
    · have := h.hd.lt hh; omega
  · rcases hf b hb with h1 | h1
    · exact h.d2 b h1 hm
    · have := h.mo.lt hm; omega

end Go.Proofs.Ytnjoefanafjniaa

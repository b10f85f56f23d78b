/- The layer 'entry': the entries of bytes. -/
import Derived.Test.YtphnjgkaapfocaaEntC
import Derived.RangeFuncRecord
import Derived.Maps.AppendAt
import Derived.WalkMore
namespace Go.Proofs.Ytphnjgkaapfocaa
open Go.RowKit Go.Shelf
attribute [local go_sem] Oper.semAt_some

theorem leave_ret_at {P : Program} {n : Nat} {fn : Func} {R : Ending → World → Prop} {tmps : Array Value} {D : Nat} {W : World} (v : Value) (hK : W.heap[D]? = some (.deferred (some [])))
    (hv : (results fn tmps).run P (W.putObj D (.deferred none)) = .ok v (W.putObj D (.deferred none))) (hR : R (.returned v) (W.putObj D (.deferred none))) :
    bodyPostM Fence.wide n P fn R .ret { tmps, defers := [{ target := .collected D, args := #[] }] } W := by
  refine ⟨by simp, .inl ⟨_, _, rfl, run_takeDeferred hK, ?_⟩⟩
  exact ⟨v, hv, hR⟩
theorem ent_info : (Try.prog.info? 32).map (fun i => (i.zero, i.size, i.bytes)) = some (some (.agg #[.int .i64 0, .int .i64 0, .int .i64 0, .int .i64 0, .bool false, .bool false, .int .i64 0, .int .i64 0, .int .i64 0, .int .i64 0, .bool false]), 11, 80) := by kernel_rfl

/-- append to a list of the call's own, within a round: where the new list lies, too. -/
theorem wpListIn_append_lies {F : Fence} {n : Nat} {P : Program} (w : World) {ops : Array Oper} {rest : List Oper} {o : Oper} {a : Act} {Q : Exit → Act → World → Prop}
    (hg : o.guard = none) (s x : Operand) (t : TypeId) (hop : o.op = Op.call { callee := Callee.builtin Builtin.append, args := #[s, x], argTypes := #[t, t] })
    (base : Nat) (e : TypeId) (i : TypeInfo) (z : Value) (size bytes : Nat) (h1 : P.underlying t = some (.slice e)) (h2 : P.info? e = some i) (h3 : i.zero = some z) (h4 : i.size = size) (h5 : i.bytes = bytes) (h6 : z.cells.size = size) (h7 : 0 < size)
    (v : Value) (k : Nat) (xs : List Value) (hs : a.eval s = v) (hown : w.ownsRow base e size v k xs) (ad : Addr) (m c : Nat) (news : List Value) (hx : a.eval x = .slice (some ad) m c) (hn : news.length = m * size)
    (hc : ∀ j u, news[j]? = some u → w.cell? (ad.add j) = some u) (h1c : ∀ u ∈ news, u.oneCell' = true) (hm : 0 < m) (b1 : k + m ≤ maxLen) (b2 : (k + m) * bytes ≤ 140737488355328) (b3 : base ≤ w.heap.size)
    (hK : ∀ g cap w', w'.ownsRow base e size (.slice (some ⟨g, 0, none⟩) (k + m) cap) (k + m) (xs ++ news) → w.grownBy w' v.ownBlock → (v.ownBlock = some g ∨ g = w.heap.size) → g < w'.heap.size → wpListIn F n P ops Q rest (a.put o.dst (.slice (some ⟨g, 0, none⟩) (k + m) cap)) w') :
    wpListIn F n P ops Q (o :: rest) a w := by
  refine wpListIn_plain hg fun K hK' => ?_
  obtain ⟨g, cap, w', hrun, r1, r2, r3, r4⟩ := run_append_lies (P := P) w t o.type base e i z size bytes h1 h2 h3 h4 h5 h6 h7 v k xs hown ad m c news hn hc h1c hm b1 b2 b3 _ rfl
  unfold Oper.wpIn
  refine ⟨?_, ?_⟩
  · simp [Oper.about, hop, resolve, Target.leads, Sem.run_pure]
  · rw [Oper.semAt_plain F _ _ (by rw [hop]; intro c hc'; cases hc')]
    simp [execOp, hop, resolve, invoke, builtin, hs, hx, hrun, Result.andThen]
    exact hK' _ _ (hK g cap w' r1 r2 r3 r4)

/-- A list of entries of the call's own. -/
def OwnE (base : Nat) (w : World) (v : Value) (L : List EntV) : Prop := w.ownsRow base 32 11 v L.length (L.flatMap EntV.cells)
theorem cells_at : ∀ (L : List EntV) (j i : Nat) (x : EntV) (v : Value), L[j]? = some x → x.cells[i]? = some v → (L.flatMap EntV.cells)[j * 11 + i]? = some v
  | [], _, _, _, _, h, _ => by simp at h
  | a :: t, 0, i, x, v, h, hv => by
    simp only [List.getElem?_cons_zero, Option.some.injEq] at h
    subst h
    have hi : i < 11 := by have := (List.getElem?_eq_some_iff.1 hv).1; simpa [EntV.cells] using this
    rw [List.flatMap_cons, List.getElem?_append_left (by simpa [EntV.cells] using hi), Nat.zero_mul, Nat.zero_add]; exact hv
  | a :: t, j + 1, i, x, v, h, hv => by
    rw [List.getElem?_cons_succ] at h
    rw [List.flatMap_cons, List.getElem?_append_right (by simp [EntV.cells]; omega)]
    have := cells_at t j i x v h hv
    rw [show (j + 1) * 11 + i - a.cells.length = j * 11 + i by simp [EntV.cells]; omega]; exact this
theorem OwnE.ents {base : Nat} {w : World} {v : Value} {L : List EntV} (h : OwnE base w v L) : ∃ (g : Option Addr) (c : Nat), v = .slice g L.length c ∧ EntsAt w g L ∧ L.length ≤ c := by
  have h0 := h
  rcases h.2 with ⟨rfl, hn⟩ | ⟨g, cap, cur, rfl, hbg, hg, h1, h2, h3, h4⟩
  · have : L = [] := List.eq_nil_of_length_eq_zero hn
    subst this
    exact ⟨none, 0, rfl, EntsAt.empty _ _, Nat.le_refl _⟩
  · refine ⟨_, cap, rfl, ⟨by unfold maxLen at h2; omega, fun j x hx => ⟨g, 0, rfl, fun i u hu => ?_⟩⟩, h1⟩
    have hj : j < L.length := (List.getElem?_eq_some_iff.1 hx).1
    have hi : i < 11 := by have := (List.getElem?_eq_some_iff.1 hu).1; simpa [EntV.cells] using this
    have := World.ownsRow.cellAt h0 (j * 11 + i) (by omega)
    rw [Nat.zero_add, this]
    exact cells_at L j i x u hx hu

/-- The k-th entry of bytes; whether it is right. -/
def entB (B : List Int) (k : Nat) : EntV := ofB fun i => B.getD (12 * k + i) 0
def okB (B : List Int) (k : Nat) : Prop := B.getD (12 * k + 3) 0 ≤ 7 ∧ (entB B k).ok
instance (B : List Int) (k : Nat) : Decidable (okB B k) := by unfold okB; infer_instance
def entsB (B : List Int) (m : Nat) : List EntV := (List.range m).map (entB B)
theorem length_entsB (B : List Int) (m : Nat) : (entsB B m).length = m := by simp [entsB]
theorem entsB_succ (B : List Int) (k : Nat) : entsB B (k + 1) = entsB B k ++ [entB B k] := by simp [entsB, List.range_succ]

/-- What Decode leaves. -/
def DecPost (w : World) (B : List Int) (e : Ending) (w' : World) : Prop :=
  Fr [] w w' ∧ ((B.length % 12 ≠ 0 ∧ e = .returned (.tuple #[.slice none 0 0, .int .i64 12])) ∨ (B.length % 12 = 0 ∧ 1000 < B.length / 12 ∧ e = .returned (.tuple #[.slice none 0 0, .int .i64 13])) ∨
    (B.length % 12 = 0 ∧ B.length / 12 ≤ 1000 ∧ ¬ (∀ k, k < B.length / 12 → okB B k) ∧ e = .returned (.tuple #[.slice none 0 0, .int .i64 12])) ∨
    (B.length % 12 = 0 ∧ B.length / 12 ≤ 1000 ∧ (∀ k, k < B.length / 12 → okB B k) ∧ ∃ (g : Option Addr) (c : Nat), e = .returned (.tuple #[.slice g (B.length / 12) c, .int .i64 0]) ∧ EntsAt w' g (entsB B (B.length / 12)) ∧ B.length / 12 ≤ c))

theorem byAt_of {w : World} {b o k m : Nat} {B : List Int} (hk : k < m) (hB : B.length = 12 * m) (hc : ∀ (j : Nat) (x : Int), B[j]? = some x → w.cell? ⟨b, o + j, none⟩ = some (.int .u8 x)) : ByAt w b (o + 12 * k) (fun i => B.getD (12 * k + i) 0) := fun i hi => by
  have h := hc (12 * k + i) (B.getD (12 * k + i) 0) (by simp [show 12 * k + i < B.length by omega])
  rw [← Nat.add_assoc] at h
  exact h
theorem byte_of {B : List Int} (h : ∀ x ∈ B, 0 ≤ x ∧ x ≤ 255) (j : Nat) : 0 ≤ B.getD j 0 ∧ B.getD j 0 ≤ 255 := by
  rcases Nat.lt_or_ge j B.length with hj | hj
  · have : B.getD j 0 = B[j] := by simp [hj]
    rw [this]; exact h _ (List.getElem_mem _)
  · have : B.getD j 0 = 0 := by simp [Nat.not_lt.2 hj, List.getElem?_eq_none hj]
    rw [this]; omega

/-- Between two rounds: what has come lies in the list; nothing was wrong. -/
def DecInv (w2 : World) (lb eb base : Nat) (B : List Int) : Nat → World → Blk → Prop := fun k W O =>
  ∃ v : Value, O = (fun b => b = lb ∨ b = eb ∨ v.ownBlock = some b) ∧ W.heap[lb]? = some (.cells #[v] 22) ∧ W.heap[eb]? = some (.cells #[.int .i64 0] 25) ∧ OwnE base W v (entsB B k) ∧ (∀ j, j < k → okB B j) ∧ Stp (fun x => x = lb ∨ x = eb) w2 W
theorem DecInv.stable {w2 : World} {lb eb base : Nat} {B : List Int} {B' : Nat} (hB : w2.heap.size ≤ B') : Stable B' (DecInv w2 lb eb base B) := by
  rintro k W _ W' ⟨v, rfl, ht, he, ho, hk, hs⟩ e1 e2 e3 e4 e5
  exact ⟨v, rfl, (e5 lb (.inl (.inl rfl))).trans ht, (e5 eb (.inl (.inr (.inl rfl)))).trans he, owns_same ho (fun b hb => e5 b (.inl (.inr (.inr hb)))), hk, ⟨e1.trans hs.os, e2.trans hs.tape, e3.trans hs.output, Nat.le_trans hs.size e4, fun b hb hn => (e5 b (.inr (by omega))).trans (hs.block b hb hn)⟩⟩
/-- One was wrong: the list is none, the error is told. -/
def DecBad (w2 : World) (lb eb : Nat) (B : List Int) (m : Nat) (c : Code) : Nat → World → Blk → Prop := fun _ W O =>
  c = .exit 0 ∧ O = (fun b => b = lb ∨ b = eb) ∧ W.heap[lb]? = some (.cells #[.slice none 0 0] 22) ∧ W.heap[eb]? = some (.cells #[.int .i64 12] 25) ∧ ¬ (∀ j, j < m → okB B j) ∧ Stp (fun x => x = lb ∨ x = eb) w2 W
theorem DecBad.stable {w2 : World} {lb eb m : Nat} {B : List Int} {c : Code} {B' : Nat} (hB : w2.heap.size ≤ B') : Stable B' (DecBad w2 lb eb B m c) := by
  rintro k W _ W' ⟨hc, rfl, ht, he, hk, hs⟩ e1 e2 e3 e4 e5
  exact ⟨hc, rfl, (e5 lb (.inl (.inl rfl))).trans ht, (e5 eb (.inl (.inr rfl))).trans he, hk, ⟨e1.trans hs.os, e2.trans hs.tape, e3.trans hs.output, Nat.le_trans hs.size e4, fun b hb hn => (e5 b (.inr (by omega))).trans (hs.block b hb hn)⟩⟩

/-- The world behind the two stores that tell that one was wrong. -/
def badW (W : World) (lc : Nat) : World := (W.setCell ⟨lc, 0, none⟩ (.slice none 0 0)).setCell ⟨lc + 1, 0, none⟩ (.int .i64 12)
theorem dec_bad_end {w2 W2 W4 : World} {v : Value} {lc k m : Nat} {B : List Int} (htl : W2.heap[lc]? = some (.cells #[v] 22)) (hte : W2.heap[lc + 1]? = some (.cells #[.int .i64 0] 25))
    (hst : Stp (fun x => x = lc ∨ x = lc + 1) w2 W2) (f : Fr [] W2 W4) (hno : ¬ (∀ j, j < m → okB B j)) :
    ∃ O', Stp (fun b => b = lc ∨ b = lc + 1 ∨ v.ownBlock = some b) W2 (badW W4 lc) ∧ Grw (fun b => b = lc ∨ b = lc + 1 ∨ v.ownBlock = some b) O' W2 (badW W4 lc) ∧ DecBad w2 lc (lc + 1) B m (.exit 0) (k + 1) (badW W4 lc) O' := by
  have h1 := f.at htl (by simp)
  have h2 := f.at hte (by simp)
  have l1 := heap_lt htl; have l2 := heap_lt hte
  have st : Stp (fun x => x = lc ∨ x = lc + 1) W2 (badW W4 lc) := (((Stp.of_fr f).mono (fun x hx => by simp at hx)).setCell (p := ⟨lc, 0, none⟩) (.inl (.inl rfl)) _).setCell (p := ⟨lc + 1, 0, none⟩) (.inl (.inr rfl)) _
  have hs := st.size
  have e1 : (badW W4 lc).heap[lc]? = some (.cells #[.slice none 0 0] 22) := by
    unfold badW
    rw [Below.heap_setCell _ _ _ _ (show lc ≠ lc + 1 by omega)]
    have := heap_setCell_same (i := 0) h1 (.slice none 0 0)
    simpa using this
  have e2 : (badW W4 lc).heap[lc + 1]? = some (.cells #[.int .i64 12] 25) := by
    have h3 : (W4.setCell ⟨lc, 0, none⟩ (.slice none 0 0)).heap[lc + 1]? = _ := (Below.heap_setCell _ _ _ _ (show lc + 1 ≠ lc by omega)).trans h2
    have := heap_setCell_same (i := 0) h3 (.int .i64 12)
    simpa [badW] using this
  exact ⟨fun b => b = lc ∨ b = lc + 1, st.mono (fun x hx => hx.imp id .inl), fun b hb => ⟨by rcases hb with rfl | rfl <;> omega, .inl (hb.imp id .inl)⟩, rfl, rfl, e1, e2, hno, hst.then st (fun x hx => .inl hx)⟩
theorem dec_good_end {w2 W2 W4 w5 : World} {v : Value} {lc k g cap : Nat} {B : List Int} (hw2 : lc + 2 ≤ w2.heap.size) (htl : W2.heap[lc]? = some (.cells #[v] 22)) (hte : W2.heap[lc + 1]? = some (.cells #[.int .i64 0] 25))
    (hst : Stp (fun x => x = lc ∨ x = lc + 1) w2 W2) (f : Fr [] W2 W4) (hown : OwnE w2.heap.size W2 v (entsB B k)) (hok : ∀ j, j < k → okB B j) (hk : okB B k)
    (hown1 : w5.ownsRow w2.heap.size 32 11 (.slice (some ⟨g, 0, none⟩) (k + 1) cap) (k + 1) ((entsB B k).flatMap EntV.cells ++ (entB B k).cells)) (hgrow : W4.grownBy w5 v.ownBlock) (hat : v.ownBlock = some g ∨ g = W4.heap.size) (hglt : g < w5.heap.size) :
    ∃ O', Stp (fun b => b = lc ∨ b = lc + 1 ∨ v.ownBlock = some b) W2 (w5.setCell ⟨lc, 0, none⟩ (.slice (some ⟨g, 0, none⟩) (k + 1) cap)) ∧ Grw (fun b => b = lc ∨ b = lc + 1 ∨ v.ownBlock = some b) O' W2 (w5.setCell ⟨lc, 0, none⟩ (.slice (some ⟨g, 0, none⟩) (k + 1) cap)) ∧
      DecInv w2 lc (lc + 1) w2.heap.size B (k + 1) (w5.setCell ⟨lc, 0, none⟩ (.slice (some ⟨g, 0, none⟩) (k + 1) cap)) O' := by
  have h1 := f.at htl (by simp)
  have h2 := f.at hte (by simp)
  have l1 := heap_lt htl; have l2 := heap_lt hte
  have hvb : ∀ b, v.ownBlock = some b → w2.heap.size ≤ b := fun b hb => (hown.lt b hb).1
  have n1 : some lc ≠ v.ownBlock := fun e => by have := hvb lc e.symm; omega
  have n2 : some (lc + 1) ≠ v.ownBlock := fun e => by have := hvb (lc + 1) e.symm; omega
  have h4 : w5.heap[lc]? = some (.cells #[v] 22) := (hgrow.block _ (heap_lt h1) n1).trans h1
  have h5 : w5.heap[lc + 1]? = some (.cells #[.int .i64 0] 25) := (hgrow.block _ (heap_lt h2) n2).trans h2
  have hg2 : w2.heap.size ≤ g := (hown1.lt g rfl).1
  have stg : Stp (fun b => b = lc ∨ b = lc + 1 ∨ v.ownBlock = some b) W2 w5 :=
    ((Stp.of_fr f).mono (fun x hx => by simp at hx)).then (O' := fun b => v.ownBlock = some b) ⟨hgrow.os, hgrow.tape, hgrow.output, hgrow.size, fun b hb hn => hgrow.block b hb (fun e => hn e.symm)⟩ (fun b hb => .inl (.inr (.inr hb)))
  have st := stg.setCell (p := ⟨lc, 0, none⟩) (.inl (.inl rfl)) (.slice (some ⟨g, 0, none⟩) (k + 1) cap)
  have hsz := st.size
  have hfs := f.size
  refine ⟨_, st, fun b hb => ?_, .slice (some ⟨g, 0, none⟩) (k + 1) cap, rfl, ?_, ?_, ?_, fun j hj => ?_, ?_⟩
  · rcases hb with rfl | rfl | h
    · exact ⟨by omega, .inl (.inl rfl)⟩
    · exact ⟨by omega, .inl (.inr (.inl rfl))⟩
    · have hbg : b = g := by simp [Value.ownBlock] at h; exact h.symm
      subst hbg
      refine ⟨by simpa [World.setCell] using hglt, ?_⟩
      rcases hat with h | h
      · exact .inl (.inr (.inr h))
      · right; omega
  · have := heap_setCell_same (i := 0) h4 (.slice (some ⟨g, 0, none⟩) (k + 1) cap)
    simpa using this
  · exact (Below.heap_setCell _ _ _ _ (show lc + 1 ≠ lc by omega)).trans h5
  · unfold OwnE
    rw [entsB_succ, List.flatMap_append, List.length_append, length_entsB]
    refine owns_same (W := w5) (by simpa using hown1) (fun b hb => Below.heap_setCell _ _ _ _ (by simp [Value.ownBlock] at hb; show b ≠ lc; omega))
  · rcases Nat.lt_or_ge j k with h | h
    · exact hok j h
    · obtain rfl : j = k := by omega
      exact hk
  · refine hst.then st (fun b hb => ?_)
    rcases hb with h | h | h
    · exact .inl (.inl h)
    · exact .inl (.inr h)
    · right; exact hvb b h

set_option maxHeartbeats 2000000 in
set_option maxRecDepth 100000 in
theorem decode_any (w : World) (g : Option Addr) (c : Nat) (B : List Int) (ha : BytsAt w g B) (hlc : B.length ≤ c) :
    Calls Try.prog 14 #[.slice g B.length c] w (DecPost w B) := by
  obtain ⟨i0, hi, hz0, hz1, hz2⟩ := info_parts ent_info
  obtain ⟨n, hn⟩ : ∃ n, n = B.length := ⟨_, rfl⟩
  have hl := ha.1
  rw [← hn] at hl hlc ⊢
  have HA := Lib.hid ha; have HN := Lib.hid hn; clear ha hn
  by_cases h12 : (n : Int) % 12 = 0
  · by_cases hlong : (1000 : Int) < (n : Int) / 12
    · have HP := Lib.hid (show DecPost w B (.returned (.tuple #[.slice none 0 0, .int .i64 13])) w from ⟨Fr.refl _ _, .inr (.inl ⟨by have := HN.out; omega, by have := HN.out; omega, rfl⟩)⟩)
      refine (callsIn_wide (n := 3)).1 (callsIn_of_wp_marks Try.func14 rfl trivial (wpIn_wide.2 ?_) rfl)
      simp only [Try.ntmps14, List.size_toArray, List.length_cons, List.length_nil, Nat.reduceAdd, Nat.reduceSub, Array.replicate_succ, Array.replicate_zero, List.push_toArray, List.append_toArray, List.nil_append, List.cons_append]
      go_wp2
      go_step3
      go_wp2
      try rw [Exit.noGoto_ret]
      refine ⟨.tuple #[.slice none 0 0, .int .i64 13], ?_, HP.out⟩
      simp [results, Try.f14, go_sem]
    · obtain ⟨m, hm⟩ : ∃ m : Nat, n = 12 * m := ⟨n / 12, by omega⟩
      have hm1 : m ≤ 1000 := by omega
      have HM := Lib.hid hm
      have hcut : ∃ b o : Nat, (∀ (W : World), Calls Try.prog 20 #[.slice g n c] W (CutPost W b o c m)) ∧ (0 < m → g = some ⟨b, o, none⟩ ∧ ∀ (j : Nat) (x : Int), B[j]? = some x → w.cell? ⟨b, o + j, none⟩ = some (.int .u8 x)) := by
        by_cases h0 : m = 0
        · subst h0
          obtain rfl : n = 0 := by omega
          exact ⟨0, 0, fun W => cut_none_any W c g 0 0, fun h => by omega⟩
        · obtain ⟨b, o, rfl, hc⟩ := HA.out.base (by intro e; rw [e] at HN; have := HN.out; simp at this; omega)
          exact ⟨b, o, fun W => by rw [hm]; exact cut_any W b o m c (by omega) (by omega), fun _ => ⟨rfl, hc⟩⟩
      obtain ⟨b, o, hcut, hcell⟩ := hcut
      have HCUT := Lib.hid hcut; have HCELL := Lib.hid hcell; clear hcut hcell hm
      refine (callsIn_wide (n := 3)).1 (callsIn_of_wp_marks Try.func14 rfl trivial (wpIn_wide.2 ?_) rfl)
      simp only [Try.ntmps14, List.size_toArray, List.length_cons, List.length_nil, Nat.reduceAdd, Nat.reduceSub, Array.replicate_succ, Array.replicate_zero, List.push_toArray, List.append_toArray, List.nil_append, List.cons_append]
      go_wp2_with fail
      go_step3
      go_wp2_with fail
      go_step3
      go_wp2_with fail
      refine (HCUT.out _).mono ?_
      rintro e w2 ⟨v, lb, rfl, rfl, hI, f2, hlt2⟩
      have tl0 := (Stp.of_fr f2).at (heap_alloc_keep (heap_alloc_new w (.cells #[.slice none 0 0] 22)) (.cells #[.int .i64 0] 25)) (by simp)
      have te0 := (Stp.of_fr f2).at (heap_alloc_new (w.alloc (.cells #[.slice none 0 0] 22)) (.cells #[.int .i64 0] 25)) (by simp)
      have F2 := (((Fr.refl [] w).alloc (.cells #[.slice none 0 0] 22)).alloc (.cells #[.int .i64 0] 25)).trans f2
      simp only [World.size_alloc] at hI hlt2 te0
      have HI := Lib.hid hI; have HTL := Lib.hid tl0; have HTE := Lib.hid te0; clear hI tl0 te0 f2
      have hb := F2.size
      have HCELL2 := Lib.hid (fun h0 : 0 < m => And.intro (HCELL.out h0).1 (fun (j : Nat) (x : Int) (hx : B[j]? = some x) => F2.cell ((HCELL.out h0).2 j x hx) (by simp)))
      obtain ⟨lc, hlc2⟩ : ∃ lc, lc = w.heap.size := ⟨_, rfl⟩
      rw [← hlc2] at HI HTL HTE hlt2 hb ⊢
      have HLC := Lib.hid hlc2; clear hlc2
      go_wp2
      refine wp_range (C := fun x => x = lc + 1 + 1) (xs := List.range m) (enc := encC b o c) rfl (fun _ _ => rfl) HI.out (fun x => rfl)
        (DecInv w2 lc (lc + 1) w2.heap.size B) (DecBad w2 lc (lc + 1) B m) (DecInv.stable (Nat.le_refl _)) (fun _ => DecBad.stable (Nat.le_refl _))
        (fun x => x = lc ∨ x = lc + 1 ∨ (Value.slice none 0 0).ownBlock = some x) (fun x hx => by rcases hx with h | h | h; omega; omega; simp [Value.ownBlock] at h)
        (fun x hx h => by rcases h with h | h | h; omega; omega; simp [Value.ownBlock] at h)
        ⟨_, rfl, HTL.out, HTE.out, World.ownsRow_nil _ _ _ _, fun j hj => by omega, Stp.refl _ _⟩ ?round ?done ?stop
      case round =>
        intro l' k x W1 O1 hx
        obtain ⟨hkm, rfl⟩ : k < m ∧ k = x := by
          have h1 := (List.getElem?_eq_some_iff.1 hx)
          obtain ⟨h2, h3⟩ := h1
          rw [List.length_range] at h2
          rw [List.getElem_range] at h3
          exact ⟨h2, h3⟩
        clear hx
        simp only [encC, List.zip_toArray, List.zip_cons_cons, List.zip_nil_right, List.foldl_toArray', List.foldl_cons, List.foldl_nil, List.setIfInBounds_toArray, List.set_cons_zero, List.set_cons_succ]
        gi_wp2
        refine ⟨rfl, ?_⟩
        rintro W2 ⟨v, rfl, htl, hte, hown, hok, hst⟩ hb2 hsz2
        obtain ⟨hg, hcell⟩ := HCELL2.out (by omega)
        have hbc := (HCELL.out (by omega)).2
        have hlen12 : B.length = 12 * m := by rw [← HN.out]; exact HM.out
        have hblt : b < lc := by
          have := World.block_lt_of_cell? w _ (hbc 0 (B.getD 0 0) (by simp [show 0 < B.length by omega]))
          rw [HLC.out]; exact this
        have hby : ByAt W2 b (o + 12 * k) (fun i => B.getD (12 * k + i) 0) := byAt_of hkm hlen12 (fun j x hx => hst.cell (hcell j x hx) (by show ¬ (b = lc ∨ b = lc + 1); omega))
        have hrg := fun i (_ : i < 12) => byte_of HA.out.2.1 (12 * k + i)
        have hOF := of_any W2 b (o + 12 * k) (c - 12 * k) (fun i => B.getD (12 * k + i) 0) hrg hby
        have HK := Lib.hid hok; have HO := Lib.hid hown; have HST := Lib.hid hst; have HT1 := Lib.hid htl; have HT2 := Lib.hid hte
        have hb3 : 0 ≤ B.getD (12 * k + 3) 0 ∧ B.getD (12 * k + 3) 0 ≤ 255 := byte_of HA.out.2.1 _
        have q3 := hby 3 (by omega)
        simp only at q3
        obtain ⟨z3, hz3⟩ : ∃ z3, z3 = B.getD (12 * k + 3) 0 := ⟨_, rfl⟩
        obtain ⟨x, hx⟩ : ∃ x, x = entB B k := ⟨_, rfl⟩
        rw [← hz3] at hb3 q3
        rw [show ofB (fun i => B.getD (12 * k + i) 0) = x from hx.symm] at hOF
        have HOF := Lib.hid hOF; have HZ3 := Lib.hid hz3; have HX := Lib.hid hx
        clear hok hown hst htl hte hrg hby hOF hz3 hx hg hcell hbc hlen12
        gi_wp2_with fail
        refine ⟨trivial, rfl, (CallsIn.inRound l' (callsIn_wide.2 HOF.out)).mono ?_⟩
        rintro e W3 ⟨rfl, f3⟩
        unfold EntV.val
        have q4 : W3.cell? ⟨b, o + 12 * k + 3, none⟩ = some (.int .u8 z3) := f3.cell q3 (by simp)
        have q5 : (W3.alloc (.cells #[.int .i64 x.kind, .int .i64 x.who, .int .i64 x.op, .int .i64 x.dl, .bool x.wait, .bool x.force, .int .i64 x.slot, .int .i64 x.gen, .int .i64 x.stream, .int .i64 x.n, .bool x.good] 32)).cell? ⟨b, o + 12 * k + 3, none⟩ = some (.int .u8 z3) := ((Fr.refl [] W3).alloc (.cells #[.int .i64 x.kind, .int .i64 x.who, .int .i64 x.op, .int .i64 x.dl, .bool x.wait, .bool x.force, .int .i64 x.slot, .int .i64 x.gen, .int .i64 x.stream, .int .i64 x.n, .bool x.good] 32)).cell q4 (by simp)
        have HF3 := Lib.hid f3
        clear q3 q4
        have hl4 : (W3.alloc (.cells #[.int .i64 x.kind, .int .i64 x.who, .int .i64 x.op, .int .i64 x.dl, .bool x.wait, .bool x.force, .int .i64 x.slot, .int .i64 x.gen, .int .i64 x.stream, .int .i64 x.n, .bool x.good] 32)).heap[lc]? = some (.cells #[v] 22) := heap_alloc_keep (f3.at HT1.out (by simp)) _
        have he4 : (W3.alloc (.cells #[.int .i64 x.kind, .int .i64 x.who, .int .i64 x.op, .int .i64 x.dl, .bool x.wait, .bool x.force, .int .i64 x.slot, .int .i64 x.gen, .int .i64 x.stream, .int .i64 x.n, .bool x.good] 32)).heap[lc + 1]? = some (.cells #[.int .i64 0] 25) := heap_alloc_keep (f3.at HT2.out (by simp)) _
        by_cases hz7 : 7 < z3
        · have a1 : (W3.alloc (.cells #[.int .i64 x.kind, .int .i64 x.who, .int .i64 x.op, .int .i64 x.dl, .bool x.wait, .bool x.force, .int .i64 x.slot, .int .i64 x.gen, .int .i64 x.stream, .int .i64 x.n, .bool x.good] 32)).cell? ⟨lc, 0, none⟩ = some v := cell_of hl4 rfl
          have a2 : (W3.alloc (.cells #[.int .i64 x.kind, .int .i64 x.who, .int .i64 x.op, .int .i64 x.dl, .bool x.wait, .bool x.force, .int .i64 x.slot, .int .i64 x.gen, .int .i64 x.stream, .int .i64 x.n, .bool x.good] 32)).frozen? ⟨lc, 0, none⟩ = false := frozen_of hl4
          have a3 : (W3.alloc (.cells #[.int .i64 x.kind, .int .i64 x.who, .int .i64 x.op, .int .i64 x.dl, .bool x.wait, .bool x.force, .int .i64 x.slot, .int .i64 x.gen, .int .i64 x.stream, .int .i64 x.n, .bool x.good] 32)).cell? ⟨lc + 1, 0, none⟩ = some (.int .i64 0) := cell_of he4 rfl
          have a4 : (W3.alloc (.cells #[.int .i64 x.kind, .int .i64 x.who, .int .i64 x.op, .int .i64 x.dl, .bool x.wait, .bool x.force, .int .i64 x.slot, .int .i64 x.gen, .int .i64 x.stream, .int .i64 x.n, .bool x.good] 32)).frozen? ⟨lc + 1, 0, none⟩ = false := frozen_of he4
          have fin := dec_bad_end (k := k) (m := m) (B := B) HT1.out HT2.out HST.out (f3.alloc (.cells #[.int .i64 x.kind, .int .i64 x.who, .int .i64 x.op, .int .i64 x.dl, .bool x.wait, .bool x.force, .int .i64 x.slot, .int .i64 x.gen, .int .i64 x.stream, .int .i64 x.n, .bool x.good] 32)) (fun h => by have := (h k hkm).1; have := HZ3.out; omega)
          have FIN := Lib.hid fin; clear fin hl4 he4
          gi_wp2
          exact FIN.out
        · gi_wp2_with fail
          refine ⟨trivial, rfl, (CallsIn.inRound l' (callsIn_wide.2 (right_any _ x))).mono ?_⟩
          rintro e W5 ⟨rfl, f5⟩
          have hl5 := f5.at hl4 (by simp)
          have he5 := f5.at he4 (by simp)
          have hb7 := f5.at (heap_alloc_new W3 (.cells #[.int .i64 x.kind, .int .i64 x.who, .int .i64 x.op, .int .i64 x.dl, .bool x.wait, .bool x.force, .int .i64 x.slot, .int .i64 x.gen, .int .i64 x.stream, .int .i64 x.n, .bool x.good] 32)) (by simp)
          have f25 := (f3.alloc (.cells #[.int .i64 x.kind, .int .i64 x.who, .int .i64 x.op, .int .i64 x.dl, .bool x.wait, .bool x.force, .int .i64 x.slot, .int .i64 x.gen, .int .i64 x.stream, .int .i64 x.n, .bool x.good] 32)).trans f5
          have a1 : W5.cell? ⟨lc, 0, none⟩ = some v := cell_of hl5 rfl
          have a2 : W5.frozen? ⟨lc, 0, none⟩ = false := frozen_of hl5
          have a3 : W5.cell? ⟨lc + 1, 0, none⟩ = some (.int .i64 0) := cell_of he5 rfl
          have a4 : W5.frozen? ⟨lc + 1, 0, none⟩ = false := frozen_of he5
          by_cases hxok : x.ok
          · rw [decide_eq_true hxok]
            have hok : okB B k := ⟨by have := HZ3.out; omega, by rw [← HX.out]; exact hxok⟩
            have HOK := Lib.hid hok
            have p0 : W5.cell? ⟨W3.heap.size, 0, none⟩ = some (.int .i64 x.kind) := cell_of hb7 rfl
            have p1 : W5.cell? ⟨W3.heap.size, 1, none⟩ = some (.int .i64 x.who) := cell_of hb7 rfl
            have p2 : W5.cell? ⟨W3.heap.size, 2, none⟩ = some (.int .i64 x.op) := cell_of hb7 rfl
            have p3 : W5.cell? ⟨W3.heap.size, 3, none⟩ = some (.int .i64 x.dl) := cell_of hb7 rfl
            have p4 : W5.cell? ⟨W3.heap.size, 4, none⟩ = some (.bool x.wait) := cell_of hb7 rfl
            have p5 : W5.cell? ⟨W3.heap.size, 5, none⟩ = some (.bool x.force) := cell_of hb7 rfl
            have p6 : W5.cell? ⟨W3.heap.size, 6, none⟩ = some (.int .i64 x.slot) := cell_of hb7 rfl
            have p7 : W5.cell? ⟨W3.heap.size, 7, none⟩ = some (.int .i64 x.gen) := cell_of hb7 rfl
            have p8 : W5.cell? ⟨W3.heap.size, 8, none⟩ = some (.int .i64 x.stream) := cell_of hb7 rfl
            have p9 : W5.cell? ⟨W3.heap.size, 9, none⟩ = some (.int .i64 x.n) := cell_of hb7 rfl
            have p10 : W5.cell? ⟨W3.heap.size, 10, none⟩ = some (.bool x.good) := cell_of hb7 rfl
            have hown5 := owns_fr HO.out f25
            rw [length_entsB] at hown5
            have HF25 := Lib.hid f25
            clear hl4 he4 hb7 f25 hxok hok q5
            gi_wp2_with (first | (gi_at_builtin; refine wpListIn_append_lies _ rfl _ _ 22 rfl w2.heap.size 32 i0 _ 11 80 Try.underlying22 hi hz0 hz1 hz2 rfl (by decide) _ k _ rfl (hown5.alloc _) ⟨W5.heap.size, 0, none⟩ 1 1 x.cells rfl rfl (World.news_of_block (heap_alloc_new W5 _)) (by intro u hu; simp only [EntV.cells, List.mem_cons, List.not_mem_nil, or_false] at hu; rcases hu with rfl | rfl | rfl | rfl | rfl | rfl | rfl | rfl | rfl | rfl | rfl <;> rfl) (by decide) (by unfold maxLen; omega) (by omega) (by have := HF25.out.size; have := HST.out.size; rw [World.size_alloc]; omega) ?_))
            intro g5 cap w5 hown1 hgrow hat hglt
            have hgood := dec_good_end (w2 := w2) (W4 := W5.alloc (.cells #[.int .i64 x.kind, .int .i64 x.who, .int .i64 x.op, .int .i64 x.dl, .bool x.wait, .bool x.force, .int .i64 x.slot, .int .i64 x.gen, .int .i64 x.stream, .int .i64 x.n, .bool x.good] 32)) (lc := lc) (k := k) (g := g5) (cap := cap) (B := B) (by omega) HT1.out HT2.out HST.out (HF25.out.alloc (.cells #[.int .i64 x.kind, .int .i64 x.who, .int .i64 x.op, .int .i64 x.dl, .bool x.wait, .bool x.force, .int .i64 x.slot, .int .i64 x.gen, .int .i64 x.stream, .int .i64 x.n, .bool x.good] 32)) HO.out HK.out HOK.out (by rw [← HX.out]; exact hown1) hgrow (by rw [World.size_alloc]; exact hat) hglt
            have n1 : some lc ≠ v.ownBlock := fun e => by have := (HO.out.lt lc e.symm).1; omega
            have n2 : some (lc + 1) ≠ v.ownBlock := fun e => by have := (HO.out.lt (lc + 1) e.symm).1; omega
            have hl6 : w5.heap[lc]? = some (.cells #[v] 22) := (hgrow.block _ (heap_lt (heap_alloc_keep hl5 (.cells #[.int .i64 x.kind, .int .i64 x.who, .int .i64 x.op, .int .i64 x.dl, .bool x.wait, .bool x.force, .int .i64 x.slot, .int .i64 x.gen, .int .i64 x.stream, .int .i64 x.n, .bool x.good] 32))) n1).trans (heap_alloc_keep hl5 (.cells #[.int .i64 x.kind, .int .i64 x.who, .int .i64 x.op, .int .i64 x.dl, .bool x.wait, .bool x.force, .int .i64 x.slot, .int .i64 x.gen, .int .i64 x.stream, .int .i64 x.n, .bool x.good] 32))
            have r1 : w5.cell? ⟨lc, 0, none⟩ = some v := cell_of (i := 0) hl6 rfl
            have r2 : w5.frozen? ⟨lc, 0, none⟩ = false := frozen_of hl6
            have FIN := Lib.hid hgood; clear hgood hat hl5 he5 hl6 n1 n2
            gi_wp2
            exact FIN.out
          · rw [decide_eq_false hxok]
            have fin := dec_bad_end (k := k) (m := m) (B := B) HT1.out HT2.out HST.out f25 (fun h => by have := (h k hkm).2; rw [← HX.out] at this; exact hxok this)
            have FIN := Lib.hid fin; clear fin hl4 he4 hl5 he5 hb7 f25 hxok q5
            gi_wp2
            exact FIN.out
      case done =>
        rintro D W' O' hD ⟨v, rfl, htl, hte, hown, hok, hst⟩ hst2 _ hK hnD
        rw [List.length_range] at hown hok
        have a1 : W'.cell? ⟨lc, 0, none⟩ = some v := cell_of htl rfl
        have a3 : W'.cell? ⟨lc + 1, 0, none⟩ = some (.int .i64 0) := cell_of hte rfl
        have fin : ∀ W'', W''.heap = (W'.putObj D (.deferred none)).heap → W''.os = W'.os → W''.tape = W'.tape → W''.output = W'.output → DecPost w B (.returned (.tuple #[v, .int .i64 0])) W'' := by
          intro W'' hh h1 h2 h3
          have f0 : Fr [] w (W'.putObj D (.deferred none)) := (((Stp.of_fr F2).then hst2 (fun x hx => by right; rcases hx with h | h | h; have := HLC.out; omega; have := HLC.out; omega; simp [Value.ownBlock] at h)).putObj (.inr (by have := HLC.out; omega)) _).to_fr (fun x hx => by simp at hx)
          have ff : Fr [] w W'' := ⟨h1.trans f0.os, h2.trans f0.tape, h3.trans f0.output, by rw [hh]; exact f0.size, fun k hk hn => by rw [hh]; exact f0.block k hk hn⟩
          have hdiv : B.length / 12 = m := by rw [← HN.out, HM.out]; omega
          have hmod : B.length % 12 = 0 := by rw [← HN.out, HM.out]; omega
          have ho : OwnE w2.heap.size W'' v (entsB B m) := owns_same hown (fun b hb => by rw [hh]; exact World.putObj_heap_other (fun e => hnD (.inr (.inr (by rw [← e]; exact hb)))))
          obtain ⟨g', c', hv, he, hc'⟩ := ho.ents
          rw [length_entsB] at hv hc'
          subst hv
          exact ⟨ff, .inr (.inr (.inr ⟨hmod, by omega, by rw [hdiv]; exact hok, g', c', by rw [hdiv], by rw [hdiv]; exact he, by rw [hdiv]; exact hc'⟩))⟩
        have FIN := Lib.hid fin; have HK := Lib.hid hK; clear fin hst2 hst hok hown htl hte hK
        go_wp2
        go_quiet (fail)
        go_wp2
        try rw [Exit.noGoto_ret]
        refine leave_ret_at (.tuple #[v, .int .i64 0]) HK.out ?_ (FIN.out _ rfl rfl rfl rfl)
        simp [results, Try.f14, go_sem]
      case stop =>
        rintro D c' k W' O' hD hk ⟨rfl, rfl, htl, hte, hno, hst⟩ hst2 _ hK hnD
        have a1 : W'.cell? ⟨lc, 0, none⟩ = some (.slice none 0 0) := cell_of htl rfl
        have a3 : W'.cell? ⟨lc + 1, 0, none⟩ = some (.int .i64 12) := cell_of hte rfl
        have fin : ∀ W'', W''.heap = (W'.putObj D (.deferred none)).heap → W''.os = W'.os → W''.tape = W'.tape → W''.output = W'.output → DecPost w B (.returned (.tuple #[.slice none 0 0, .int .i64 12])) W'' := by
          intro W'' hh h1 h2 h3
          have f0 : Fr [] w (W'.putObj D (.deferred none)) := (((Stp.of_fr F2).then hst2 (fun x hx => by right; rcases hx with h | h | h; have := HLC.out; omega; have := HLC.out; omega; simp [Value.ownBlock] at h)).putObj (.inr (by have := HLC.out; omega)) _).to_fr (fun x hx => by simp at hx)
          have ff : Fr [] w W'' := ⟨h1.trans f0.os, h2.trans f0.tape, h3.trans f0.output, by rw [hh]; exact f0.size, fun k hk hn => by rw [hh]; exact f0.block k hk hn⟩
          have hdiv : B.length / 12 = m := by rw [← HN.out, HM.out]; omega
          have hmod : B.length % 12 = 0 := by rw [← HN.out, HM.out]; omega
          exact ⟨ff, .inr (.inr (.inl ⟨hmod, by omega, by rw [hdiv]; exact hno, rfl⟩))⟩
        have FIN := Lib.hid fin; have HK := Lib.hid hK; clear fin hst2 hst hno htl hte hK
        go_wp2
        go_quiet (fail)
        go_wp2
        try rw [Exit.noGoto_ret]
        refine leave_ret_at (.tuple #[.slice none 0 0, .int .i64 12]) HK.out ?_ (FIN.out _ rfl rfl rfl rfl)
        simp [results, Try.f14, go_sem]
  · have HP := Lib.hid (show DecPost w B (.returned (.tuple #[.slice none 0 0, .int .i64 12])) w from ⟨Fr.refl _ _, .inl ⟨by have := HN.out; omega, rfl⟩⟩)
    refine (callsIn_wide (n := 3)).1 (callsIn_of_wp_marks Try.func14 rfl trivial (wpIn_wide.2 ?_) rfl)
    simp only [Try.ntmps14, List.size_toArray, List.length_cons, List.length_nil, Nat.reduceAdd, Nat.reduceSub, Array.replicate_succ, Array.replicate_zero, List.push_toArray, List.append_toArray, List.nil_append, List.cons_append]
    go_wp2
    go_step3
    go_wp2
    try rw [Exit.noGoto_ret]
    refine ⟨.tuple #[.slice none 0 0, .int .i64 12], ?_, HP.out⟩
    simp [results, Try.f14, go_sem]

end Go.Proofs.Ytphnjgkaapfocaa

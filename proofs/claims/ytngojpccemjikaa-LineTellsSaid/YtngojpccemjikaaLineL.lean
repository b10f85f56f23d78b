/- Lists of the call's own, at whatever place of their block: what may be appended to, and cut at the front. -/
import Derived.Test.YtngojpccemjikaaAwake06
import Derived.Laws.AppendOwn
namespace Go.Proofs.Ytngojpccemjikaa
open Go.RowKit Go.Shelf

/-- A list of the call's own, at whatever place of its block. -/
def LstAt (base : Nat) (w : World) (v : Value) (L : List Int) : Prop :=
  (v = .slice none 0 0 ∧ L = []) ∨ ∃ (g off cap : Nat) (cur : Array Value), v = .slice (some ⟨g, off, none⟩) L.length cap ∧ base ≤ g ∧ w.heap[g]? = some (.cells cur 3 (0, 0)) ∧ L.length ≤ cap ∧ cap ≤ maxLen ∧ off + cap ≤ cur.size ∧
    ∀ (j : Nat) (x : Int), L[j]? = some x → cur[off + j]? = some (.int .i64 x)

theorem LstAt.ints {base : Nat} {w : World} {v : Value} {L : List Int} (h : LstAt base w v L) : ∃ (g : Option Addr) (c : Nat), v = .slice g L.length c ∧ IntsAt w g L ∧ L.length ≤ c := by
  rcases h with ⟨rfl, rfl⟩ | ⟨g, off, cap, cur, rfl, hb, hg, h1, h2, h3, h4⟩
  · exact ⟨none, 0, rfl, IntsAt.empty _ _, Nat.le_refl _⟩
  · exact ⟨_, cap, rfl, ⟨by unfold maxLen at h2; omega, fun j x hx => ⟨g, off, rfl, cell_of hg (h4 j x hx)⟩⟩, h1⟩
theorem LstAt.fr {base : Nat} {w w' : World} {v : Value} {L : List Int} (h : LstAt base w v L) (f : Fr [] w w') : LstAt base w' v L := by
  rcases h with h | ⟨g, off, cap, cur, h0, hb, hg, h1⟩
  · exact .inl h
  · exact .inr ⟨g, off, cap, cur, h0, hb, f.at hg (by simp), h1⟩
theorem LstAt.mono {base base' : Nat} {w : World} {v : Value} {L : List Int} (h : LstAt base w v L) (hb : base' ≤ base) : LstAt base' w v L := by
  rcases h with h | ⟨g, off, cap, cur, h0, hbb, hg, h1⟩
  · exact .inl h
  · exact .inr ⟨g, off, cap, cur, h0, by omega, hg, h1⟩
theorem LstAt.of_owns {w : World} {base : Nat} {v : Value} {L : List Int} (h : w.ownsRow base 3 1 v L.length (L.map (Value.int .i64))) : LstAt base w v L := by
  rcases h.2 with ⟨rfl, hn⟩ | ⟨g, cap, cur, rfl, hb, hg, h1, h2, h3, h4⟩
  · exact .inl ⟨rfl, List.eq_nil_of_length_eq_zero hn⟩
  · refine .inr ⟨g, 0, cap, cur, rfl, hb, hg, h1, h2, by omega, fun j x hx => ?_⟩
    have hj : j < L.length := (List.getElem?_eq_some_iff.1 hx).1
    have e := congrArg (fun l => l[j]?) h4
    simp only [Nat.mul_one, List.getElem?_take, if_pos hj, List.getElem?_map, hx, Option.map_some] at e
    rw [Nat.zero_add, ← Array.getElem?_toList]
    exact e
theorem LstAt.tail {base : Nat} {w : World} {g off cap : Nat} {x : Int} {t : List Int} (h : LstAt base w (.slice (some ⟨g, off, none⟩) (t.length + 1) cap) (x :: t)) : LstAt base w (.slice (some ⟨g, off + 1, none⟩) t.length (cap - 1)) t := by
  rcases h with ⟨h, _⟩ | ⟨g', off', cap', cur, h0, hb, hg, h1, h2, h3, h4⟩
  · cases h
  · simp only [List.length_cons, Value.slice.injEq, Option.some.injEq, Addr.mk.injEq, and_true, true_and] at h0
    obtain ⟨⟨rfl, rfl⟩, rfl⟩ := h0
    rw [List.length_cons] at h1
    exact .inr ⟨_, _, _, cur, rfl, hb, hg, by omega, by omega, by omega, fun j y hy => by
      have := h4 (j + 1) y (by simpa using hy)
      rw [show off + 1 + j = off + (j + 1) by omega]; exact this⟩

theorem LstAt.tail0 {base : Nat} {w : World} {g off : Nat} {x : Int} (h : LstAt base w (.slice (some ⟨g, off, none⟩) 1 1) [x]) : LstAt base w (.slice (some ⟨g, off, none⟩) 0 0) [] := by
  rcases h with ⟨h, _⟩ | ⟨g', off', cap', cur, h0, hb, hg, h1, h2, h3, h4⟩
  · cases h
  · simp only [List.length_cons, List.length_nil, Value.slice.injEq, Option.some.injEq, Addr.mk.injEq, and_true] at h0
    obtain ⟨⟨rfl, rfl⟩, _, rfl⟩ := h0
    exact .inr ⟨_, _, 0, cur, rfl, hb, hg, Nat.le_refl _, Nat.zero_le _, by omega, fun j y hy => by simp at hy⟩
theorem run_append_off {P : Program} (w : World) (t ty e : TypeId) (i : TypeInfo) (ht : P.underlying t = some (.slice e)) (hi : P.info? e = some i) (h1s : i.size = 1)
    (g off sLen sCap : Nat) (cur : Array Value) (hg : w.heap[g]? = some (.cells cur e (0, 0)))
    (a : Addr) (c : Nat) (x : Value) (hnews : ∀ j u, [x][j]? = some u → w.cell? (a.add j) = some u) (h1 : x.oneCell' = true)
    (hroom : sLen + 1 ≤ sCap) (hfit : off + sCap ≤ cur.size) :
    (Builtin.append_ #[t, t] ty #[.slice (some ⟨g, off, none⟩) sLen sCap, .slice (some a) 1 c]).run P w =
      .ok (.slice (some ⟨g, off, none⟩) (sLen + 1) sCap) (w.setRow g (cur.toList.take (off + sLen) ++ [x] ++ cur.toList.drop (off + sLen + 1)).toArray) := by
  have hf := run_firstCells_some (P := P) w i.size 1 a 1 c [x] (by simp [h1s]) hnews
  have hst := run_storeCells_at P g (off + sLen) e [x] 0 cur w hg (by simp; omega) (by simpa using h1)
  simp only [Nat.add_zero, List.length_singleton] at hst
  simp [Builtin.append_, run_underlying ht, sizeOf, typeInfo, hi, h1s, Builtin.lenOf, hroom, Addr.add_lit]
  rw [h1s] at hf
  simp [hf, hst]

/-- One more behind a list of the call's own. -/
theorem wpList_append_lst {P : Program} {w : World} {ops : Array Oper} {rest : List Oper} {o : Oper} {a : Act} {Q : Exit → Act → World → Prop} (hgd : o.guard = none) (s x : Operand) (t : TypeId)
    (ho : o.op = .call { callee := .builtin .append, args := #[s, x], argTypes := #[t, t] })
    (i : TypeInfo) (ht : P.underlying t = some (.slice 3)) (hi : P.info? 3 = some i) (hz : i.zero = some (.int .i64 0)) (h1s : i.size = 1) (h8 : i.bytes = 8)
    (base : Nat) (v : Value) (L : List Int) (hs : a.eval s = v) (hL : LstAt base w v L)
    (ad : Addr) (c : Nat) (y : Int) (hx : a.eval x = .slice (some ad) 1 c) (hnews : ∀ j u, [Value.int .i64 y][j]? = some u → w.cell? (ad.add j) = some u)
    (hlen : L.length ≤ 100000) (hbase : base ≤ w.heap.size) (w0 : World) (hw0 : w0.heap.size ≤ base) (f0 : Fr [] w0 w)
    (h : ∀ v' w', LstAt base w' v' (L ++ [y]) → Fr [] w0 w' → wpList P ops Q rest (a.put o.dst v') w') : wpList P ops Q (o :: rest) a w := by
  have key : ∃ v' w', (Builtin.append_ #[t, t] o.type #[v, .slice (some ad) 1 c]).run P w = .ok v' w' ∧ LstAt base w' v' (L ++ [y]) ∧ Fr [] w0 w' := by
    have grown : ∀ (old : Nat), LstAt base (w.drew.alloc (.cells ((L.map (Value.int .i64)).toArray ++ [Value.int .i64 y].toArray ++ Builtin.zeroCells #[.int .i64 0] (grownCap w (L.length + 1) old 3 - (L.length + 1))) 3))
        (.slice (some ⟨w.heap.size, 0, none⟩) (L.length + 1) (grownCap w (L.length + 1) old 3)) (L ++ [y]) := by
      intro old
      have hge := grownCap_ge w (L.length + 1) old 3
      have hcm : grownCap w (L.length + 1) old 3 ≤ maxLen := grownCap_le_maxLen w (L.length + 1) old 3 (by unfold maxLen; omega)
      refine .inr ⟨w.heap.size, 0, _, _, by simp, hbase, heap_alloc_new w.drew _, by simpa using hge, hcm, ?_, fun j z hz => ?_⟩
      · simp [size_zeroCells]; omega
      · have hj : j < L.length + 1 := by have := (List.getElem?_eq_some_iff.1 hz).1; simpa using this
        rw [Nat.zero_add, Array.append_assoc, ← Array.getElem?_toList]
        have e : (L.map (Value.int .i64) ++ [Value.int .i64 y])[j]? = some (.int .i64 z) := by
          rw [show [Value.int .i64 y] = [y].map (Value.int .i64) from rfl, ← List.map_append, List.getElem?_map, hz]; rfl
        simp only [Array.toList_append, ← List.append_assoc]
        rw [List.getElem?_append_left (by simpa using hj)]
        exact e
    have fgrown : ∀ o, Fr [] w0 (w.drew.alloc o) := fun o => f0.drew.alloc o
    rcases hL with ⟨rfl, rfl⟩ | ⟨g, off, cap, cur, rfl, hb, hg, h1, h2, h3, h4⟩
    · have hr := run_append_nil (P := P) w t o.type 3 i _ ht hi hz ad 1 c [.int .i64 y] (by simp [h1s]) hnews (by omega) (by omega) (by omega)
      have hgr := grown 0
      simp only [List.length_nil, Nat.zero_add, List.map_nil, Array.empty_append] at hgr
      exact ⟨_, _, hr, hgr, fgrown _⟩
    · by_cases hroom : L.length + 1 ≤ cap
      · have hr := run_append_off (P := P) w t o.type 3 i ht hi h1s g off L.length cap cur hg ad c (.int .i64 y) hnews rfl hroom h3
        refine ⟨_, _, hr, .inr ⟨g, off, cap, _, by simp, hb, setRow_heap w g cur _ 3 _ hg, by simpa using hroom, h2, ?_, fun j z hz => ?_⟩, ⟨f0.os, f0.tape, f0.output, by simpa [World.setRow] using f0.size, fun k hk hn => ?_⟩⟩
        · simp; omega
        · have hlt : off + L.length < cur.size := by omega
          rw [List.getElem?_toArray, List.append_assoc]
          rcases Nat.lt_or_ge j L.length with hj | hj
          · rw [List.getElem?_append_left hj] at hz
            rw [List.getElem?_append_left (by simp; omega), List.getElem?_take, if_pos (by omega), Array.getElem?_toList]
            exact h4 j z hz
          · have hj2 : j = L.length := by have := (List.getElem?_eq_some_iff.1 hz).1; simp at this; omega
            subst hj2
            simp at hz
            have e0 : (cur.toList.take (off + L.length)).length = off + L.length := by rw [List.length_take, Array.length_toList]; exact Nat.min_eq_left (Nat.le_of_lt hlt)
            rw [List.getElem?_append_right (Nat.le_of_eq e0), e0, Nat.sub_self]
            simp [hz]
        · rw [setRow_other w g k _ (by omega)]
          exact f0.block k hk hn
      · have hr := run_append_grow (P := P) w t o.type 3 i _ ht hi hz ⟨g, off, none⟩ L.length cap (L.map (Value.int .i64)) (by simp [h1s]) (fun j u hu => by
          rw [List.getElem?_map] at hu
          cases hj : L[j]? with
          | none => rw [hj] at hu; cases hu
          | some z =>
            rw [hj] at hu
            simp only [Option.map_some, Option.some.injEq] at hu
            subst hu
            rw [Addr.add_lit]
            exact cell_of hg (h4 j z hj)) ad 1 c [.int .i64 y] (by simp [h1s]) hnews (by omega) (by omega) (growslice_fits (by omega) (by rw [h8]; omega))
        exact ⟨_, _, hr, grown cap, fgrown _⟩
  obtain ⟨v', w', hr, h2, h3⟩ := key
  refine wpList_plain hgd fun _ hK => ?_
  unfold Oper.wp execOp
  simp only [ho, resolve, invoke, builtin, Sem.run_bind, Sem.run_pure, Result.andThen_ok, List.map_toArray, List.map_cons, List.map_nil, hs, hx, hr]
  exact hK _ _ (h v' w' h2 h3)

theorem run_append_zero {P : Program} (w : World) (t ty e : TypeId) (i : TypeInfo) (ht : P.underlying t = some (.slice e)) (hi : P.info? e = some i) (b : Addr) (n cap c : Nat) (hn : n ≤ cap) (g : Option Addr) :
    (Builtin.append_ #[t, t] ty #[.slice (some b) n cap, .slice g 0 c]).run P w = .ok (.slice (some b) n cap) w := by
  cases g <;> simp [Builtin.append_, run_underlying ht, sizeOf, typeInfo, hi, Builtin.lenOf, Builtin.firstCells, loadCells, loadCellsFrom, storeCells, hn]

/-- All of a list behind an empty one of the call's own. -/
theorem wpList_append_all {P : Program} {w : World} {ops : Array Oper} {rest : List Oper} {o : Oper} {a : Act} {Q : Exit → Act → World → Prop} (hgd : o.guard = none) (s x : Operand) (t : TypeId)
    (ho : o.op = .call { callee := .builtin .append, args := #[s, x], argTypes := #[t, t] })
    (i : TypeInfo) (ht : P.underlying t = some (.slice 3)) (hi : P.info? 3 = some i) (hz : i.zero = some (.int .i64 0)) (h1s : i.size = 1) (h8 : i.bytes = 8)
    (base b : Nat) (hs : a.eval s = .slice (some ⟨b, 0, none⟩) 0 0) (hb : w.heap[b]? = some (.cells #[] 3)) (hbb : base ≤ b)
    (g : Option Addr) (c n : Nat) (L : List Int) (hn : n = L.length) (hx : a.eval x = .slice g n c) (hI : IntsAt w g L)
    (hlen : L.length ≤ 100000) (hbase : base ≤ w.heap.size) (w0 : World) (hw0 : w0.heap.size ≤ base) (f0 : Fr [] w0 w)
    (h : ∀ v' w', LstAt base w' v' L → Fr [] w0 w' → wpList P ops Q rest (a.put o.dst v') w') : wpList P ops Q (o :: rest) a w := by
  subst hn
  have key : ∃ v' w', (Builtin.append_ #[t, t] o.type #[.slice (some ⟨b, 0, none⟩) 0 0, .slice g L.length c]).run P w = .ok v' w' ∧ LstAt base w' v' L ∧ Fr [] w0 w' := by
    by_cases hL : L = []
    · subst hL
      exact ⟨_, _, run_append_zero w t o.type 3 i ht hi ⟨b, 0, none⟩ 0 0 c (Nat.le_refl _) g, .inr ⟨b, 0, 0, #[], rfl, hbb, hb, Nat.le_refl _, by unfold maxLen; omega, by simp, fun j y hy => by simp at hy⟩, f0⟩
    · obtain ⟨b', o', rfl, hc⟩ := hI.base hL
      have hown : w.ownsRow base 3 1 (.slice (some ⟨b, 0, none⟩) 0 0) 0 [] := ⟨by simp, .inr ⟨b, 0, #[], rfl, hbb, hb, Nat.le_refl _, by unfold maxLen; omega, by simp, by simp⟩⟩
      obtain ⟨v', w', hr, h2, h3, _⟩ := run_append_own (P := P) w base t o.type 3 i (.int .i64 0) 1 8 ht hi hz h1s h8 rfl (by decide) _ 0 [] hown ⟨b', o', none⟩ L.length c (L.map (Value.int .i64)) (by simp) (fun j u hu => by
        rw [List.getElem?_map] at hu
        cases hj : L[j]? with
        | none => rw [hj] at hu; cases hu
        | some z =>
          rw [hj] at hu
          simp only [Option.map_some, Option.some.injEq] at hu
          subst hu
          rw [Addr.add_lit]
          exact hc j z hj) (fun u hu => by obtain ⟨z, _, rfl⟩ := List.mem_map.1 hu; rfl) (by unfold maxLen; omega) (by omega) hbase
      simp only [Nat.zero_add, List.nil_append] at h2
      exact ⟨v', w', hr, LstAt.of_owns h2, f0.grown h3 (fun k hk => .inr (by simp [Value.ownBlock] at hk; omega))⟩
  obtain ⟨v', w', hr, h2, h3⟩ := key
  refine wpList_plain hgd fun _ hK => ?_
  unfold Oper.wp execOp
  simp only [ho, resolve, invoke, builtin, Sem.run_bind, Sem.run_pure, Result.andThen_ok, List.map_toArray, List.map_cons, List.map_nil, hs, hx, hr]
  exact hK _ _ (h v' w' h2 h3)

/-- A call that tells a list of its own. -/
def LstPost (w : World) (L : List Int) (e : Ending) (w' : World) : Prop := ∃ v, e = .returned v ∧ LstAt w.heap.size w' v L ∧ Fr [] w w'

set_option maxHeartbeats 800000 in
theorem ref_drop_lst (w : World) (g : Option Addr) (c : Nat) (L : List Int) (who : Int) (hl : L.length ≤ 100000) (ha : IntsAt w g L) :
    Calls Try.prog 25 #[.slice g L.length c, .int .i64 who] w (LstPost w (rm L who)) := by
  obtain ⟨i0, hi, hz0, hz1, hz2⟩ := info_parts round_info_int
  by_cases hn : L = []
  · subst hn
    go_enter Try.func25, Try.ntmps25
    go_wp2
    go_loopw [5, 6] (fun s i wr => s = .slice none 0 0 ∧ i = .int .i64 0 ∧ wr = w) (fun _ _ _ => 0)
    case atStart => exact ⟨rfl, rfl, rfl⟩
    case round =>
      obtain ⟨rfl, rfl, rfl⟩ := hrel
      go_wp2
      go_ret
      exact ⟨_, rfl, .inl ⟨rfl, rfl⟩, Fr.refl _ _⟩
  · obtain ⟨ba, oa, rfl, hca⟩ := ha.base hn
    have Ha := Lib.hid hca; clear hca hn
    obtain ⟨len, hlen⟩ : ∃ n, n = L.length := ⟨_, rfl⟩
    rw [← hlen] at hl ⊢
    have HL := Lib.hid hlen; clear hlen ha
    go_enter Try.func25, Try.ntmps25
    go_wp2
    go_loopw [5, 6] (fun s i wr => ∃ (k : Nat) (T : List Int), k ≤ len ∧ i = .int .i64 (k : Int) ∧ T = rm (L.take k) who ∧ T.length ≤ k ∧ wr.ownsRow w.heap.size 3 1 s T.length (T.map (Value.int .i64)) ∧ Fr [] w wr) (fun _ i _ => len - (intOf i).toNat)
    case atStart => exact ⟨0, [], Nat.zero_le _, rfl, rfl, Nat.le_refl _, World.ownsRow_nil _ _ _ _, Fr.refl _ _⟩
    case round =>
      obtain ⟨k, T, hk, rfl, hT, hTk, hown, f⟩ := hrel
      have fs := f.size
      have HT := Lib.hid hT; clear hT
      by_cases hlt : k < len
      · have hx := getElem?_nat (L := L) (k := k) (by rw [← HL.out]; exact hlt)
        have ga := f.cell (Ha.out k _ hx) (by simp)
        generalize L.getD k 0 = x at ga hx
        have HX := Lib.hid hx
        clear hx
        have hlt' : (k : Int) < (len : Int) := by omega
        have hk0 : (0 : Int) ≤ (k : Int) := by omega
        by_cases he : x = who
        · subst he
          go_wp2
          go_roundw
          case rel => exact ⟨k + 1, T, by omega, by go_num, by rw [List.take_add_one, HX.out, rm, List.filter_append, HT.out]; simp [rm], by omega, hown, f⟩
          case measure => simp [intOf]; omega
        · go_wp2_with (first
            | (at_builtin; refine wpList_append_own _ rfl _ _ 22 rfl w.heap.size 3 i0 (.int .i64 0) 1 8 Try.underlying22 hi hz0 hz1 hz2 rfl (by decide) _ _ _ rfl (hown.alloc _) ⟨wr.heap.size, 0, none⟩ 1 1 [.int .i64 x] rfl rfl (cell_one_new _ _ _) (by simp [Value.oneCell']) (by unfold maxLen; omega) (by omega) (by simp; omega) ?_)
            | go_in)
          intro v' w1 hown' hgrow _
          have f1 := grown_step f hown (Nat.le_refl _) hgrow
          have HW := Lib.hid hown'; clear hown'
          have HE := Lib.hid he; clear he
          go_wp2
          go_roundw
          case rel => exact ⟨k + 1, T ++ [x], by omega, by go_num, by rw [List.take_add_one, HX.out, rm, List.filter_append, HT.out]; simp [rm, HE.out], by simp; omega, by simpa using HW.out, f1⟩
          case measure => simp [intOf]; omega
      · have hkN : k = L.length := by rw [← HL.out]; omega
        have HW := Lib.hid hown; have HJ := Lib.hid hkN; clear hown hkN
        go_wp2
        go_ret
        have hw := HW.out
        have ht := HT.out
        rw [HJ.out, List.take_length] at ht
        rw [← ht]
        exact ⟨_, rfl, LstAt.of_owns hw, f⟩

end Go.Proofs.Ytngojpccemjikaa

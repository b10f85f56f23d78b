/- The walk of EntryJoins. -/
import Derived.Test.YtphnjgkaapfocaaAwake13
import Derived.Laws.AppendOwn
namespace Go.Proofs.Ytphnjgkaapfocaa
open Go.RowKit

theorem run_append_zero {P : Program} (w : World) (t ty e : TypeId) (i : TypeInfo) (ht : P.underlying t = some (.slice e)) (hi : P.info? e = some i) (b : Addr) (n cap c : Nat) (hn : n ≤ cap) (g : Option Addr) :
    (Builtin.append_ #[t, t] ty #[.slice (some b) n cap, .slice g 0 c]).run P w = .ok (.slice (some b) n cap) w := by
  cases g <;> simp [Builtin.append_, run_underlying ht, sizeOf, typeInfo, hi, Builtin.lenOf, Builtin.firstCells, loadCells, loadCellsFrom, storeCells, hn]

/-- A list of the call's own that isn't nil. -/
def OwnSome (base : Nat) (w : World) (e : TypeId) (size : Nat) (v : Value) (n : Nat) (xs : List Value) : Prop := w.ownsRow base e size v n xs ∧ ∃ g cap, v = .slice (some ⟨g, 0, none⟩) n cap ∧ n ≤ cap

/-- All of a list behind one of the call's own. -/
theorem wpList_append_more {P : Program} {w : World} {ops : Array Oper} {rest : List Oper} {o : Oper} {a : Act} {Q : Exit → Act → World → Prop} (hgd : o.guard = none) (s x : Operand) (t : TypeId)
    (ho : o.op = .call { callee := .builtin .append, args := #[s, x], argTypes := #[t, t] })
    (e : TypeId) (i : TypeInfo) (z : Value) (size bytes : Nat) (ht : P.underlying t = some (.slice e)) (hi : P.info? e = some i) (hz : i.zero = some z) (hs1 : i.size = size) (hb1 : i.bytes = bytes) (hzs : z.cells.size = size) (hsz : 0 < size)
    (base : Nat) (v : Value) (n : Nat) (xs : List Value) (hs : a.eval s = v) (hown : OwnSome base w e size v n xs)
    (g : Option Addr) (m c : Nat) (news : List Value) (hx : a.eval x = .slice g m c) (hl : news.length = m * size) (hnews : m ≠ 0 → ∃ ad, g = some ad ∧ ∀ j u, news[j]? = some u → w.cell? (ad.add j) = some u) (h1 : ∀ u ∈ news, u.oneCell' = true)
    (h63 : n + m ≤ maxLen) (hbytes : (n + m) * bytes ≤ 140737488355328) (hbase : base ≤ w.heap.size) (w0 : World) (hw0 : w0.heap.size ≤ base) (f0 : Fr [] w0 w)
    (h : ∀ v' w', OwnSome base w' e size v' (n + m) (xs ++ news) → Fr [] w0 w' → wpList P ops Q rest (a.put o.dst v') w') : wpList P ops Q (o :: rest) a w := by
  have key : ∃ v' w', (Builtin.append_ #[t, t] o.type #[v, .slice g m c]).run P w = .ok v' w' ∧ OwnSome base w' e size v' (n + m) (xs ++ news) ∧ Fr [] w0 w' := by
    obtain ⟨hown, gv, cap, rfl, hcap⟩ := hown
    by_cases hm : m = 0
    · subst hm
      have hn0 : news = [] := List.eq_nil_of_length_eq_zero (by simpa using hl)
      subst hn0
      rw [List.append_nil, Nat.add_zero]
      exact ⟨_, _, run_append_zero w t o.type e i ht hi ⟨gv, 0, none⟩ n cap c hcap g, ⟨hown, gv, cap, rfl, hcap⟩, f0⟩
    · obtain ⟨ad, rfl, hc⟩ := hnews hm
      obtain ⟨v', w', hr, h2, h3, h4⟩ := run_append_own (P := P) w base t o.type e i z size bytes ht hi hz hs1 hb1 hzs hsz _ n xs hown ad m c news hl hc h1 h63 hbytes hbase
      refine ⟨v', w', hr, ⟨h2, ?_⟩, f0.grown h3 (fun k hk => .inr (Nat.le_trans hw0 (hown.lt k hk).1))⟩
      rcases h2.2 with ⟨rfl, _⟩ | ⟨g', cap', cur', rfl, _, _, hle, _⟩
      · have := (h4.1 rfl).1; cases this
      · exact ⟨g', cap', rfl, hle⟩
  obtain ⟨v', w', hr, h2, h3⟩ := key
  refine wpList_plain hgd fun _ hK => ?_
  unfold Oper.wp execOp
  simp only [ho, resolve, invoke, builtin, Sem.run_bind, Sem.run_pure, Result.andThen_ok, List.map_toArray, List.map_cons, List.map_nil, hs, hx, hr]
  exact hK _ _ (h v' w' h2 h3)

theorem own_empty (w : World) (e : TypeId) (size : Nat) : OwnSome w.heap.size (w.alloc (.cells #[] e)) e size (.slice (some ⟨w.heap.size, 0, none⟩) 0 0) 0 [] :=
  ⟨⟨by simp, .inr ⟨w.heap.size, 0, #[], rfl, Nat.le_refl _, heap_alloc_new w _, Nat.le_refl _, by unfold maxLen; omega, by simp, by simp⟩⟩, w.heap.size, 0, rfl, Nat.le_refl _⟩
theorem EntsAt.news {w : World} {g : Option Addr} {L : List EntV} (h : EntsAt w g L) (hn : L.length ≠ 0) : ∃ ad, g = some ad ∧ ∀ j u, (L.flatMap EntV.cells)[j]? = some u → w.cell? (ad.add j) = some u := by
  obtain ⟨b, o, rfl, hc⟩ := h.base (by intro e; rw [e] at hn; exact hn rfl)
  refine ⟨_, rfl, fun j u hu => ?_⟩
  have hlen : (L.flatMap EntV.cells).length = L.length * 11 := by
    clear hu hc hn h
    induction L with
    | nil => rfl
    | cons x t ih => rw [List.flatMap_cons, List.length_append, ih]; simp [EntV.cells]; omega
  have hj : j < L.length * 11 := by have := (List.getElem?_eq_some_iff.1 hu).1; omega
  obtain ⟨x, hx⟩ : ∃ x, L[j / 11]? = some x := ⟨_, List.getElem?_eq_getElem (by omega)⟩
  obtain ⟨v, hv⟩ : ∃ v, x.cells[j % 11]? = some v := ⟨_, List.getElem?_eq_getElem (by simp [EntV.cells]; omega)⟩
  have h1 := cells_at L (j / 11) (j % 11) x v hx hv
  rw [show j / 11 * 11 + j % 11 = j by omega, hu] at h1
  cases h1
  have := hc (j / 11) x hx (j % 11) u hv
  rw [Addr.add_lit]
  rw [show o + j / 11 * 11 + j % 11 = o + j by omega] at this
  exact this
theorem cells_len (L : List EntV) : (L.flatMap EntV.cells).length = L.length * 11 := by
  induction L with
  | nil => rfl
  | cons x t ih => rw [List.flatMap_cons, List.length_append, ih]; simp [EntV.cells]; omega
theorem cells_one (L : List EntV) : ∀ u ∈ L.flatMap EntV.cells, u.oneCell' = true := fun u hu => by
  obtain ⟨x, _, hx⟩ := List.mem_flatMap.1 hu
  simp only [EntV.cells, List.mem_cons, List.not_mem_nil, or_false] at hx
  rcases hx with rfl | rfl | rfl | rfl | rfl | rfl | rfl | rfl | rfl | rfl | rfl <;> rfl
theorem BytsAt.news {w : World} {g : Option Addr} {L : List Int} (h : BytsAt w g L) (hn : L.length ≠ 0) : ∃ ad, g = some ad ∧ ∀ j u, (L.map (Value.int .u8))[j]? = some u → w.cell? (ad.add j) = some u := by
  obtain ⟨b, o, rfl, hc⟩ := h.base (by intro e; rw [e] at hn; exact hn rfl)
  refine ⟨_, rfl, fun j u hu => ?_⟩
  rw [List.getElem?_map] at hu
  cases hj : L[j]? with
  | none => rw [hj] at hu; cases hu
  | some z =>
    rw [hj] at hu
    simp only [Option.map_some, Option.some.injEq] at hu
    subst hu
    rw [Addr.add_lit]
    exact hc j z hj

theorem add_str (W : World) (X Y : List Int) (h : X.length + Y.length ≤ 1000000) : (Op.stringOp .add (strOfNums X) (strOfNums Y)).run Try.prog W = .ok (.string (strOfNums (X ++ Y))) W := by
  have h' : ¬ ((9223372036854775807 : Int) < ((strOfNums X).size : Int) + ((strOfNums Y).size : Int)) := by rw [strOfNums_size, strOfNums_size]; omega
  simp [Op.stringOp, h', str_append]
theorem add_str2 (W : World) (X Y : List Int) (h : X.length + Y.length ≤ 1000000) : (binOp .add 9 (.string (strOfNums X)) (.string (strOfNums Y))).run Try.prog W = .ok (.string (strOfNums (X ++ Y))) W := by
  rw [← add_str W X Y h]
  simp [binOp]

set_option maxHeartbeats 8000000 in
set_option maxRecDepth 100000 in
theorem joins_walk (w : World) (g gb : Option Addr) (c cb : Nat) (L M : List EntV) (ha : EntsAt w g L) (hb : EntsAt w gb M) :
    Calls Try.prog 7 #[.slice g L.length c, .slice gb M.length cb] w fun e w' => e = .returned (.bool true) ∧ Fr [] w w' := by
  obtain ⟨i0, hi, hz0, hz1, hz2⟩ := info_parts ent_info
  obtain ⟨i1, hj, hy0, hy1, hy2⟩ := info_parts byte_info
  have hl := ha.1
  have hlb := hb.1
  have HA := Lib.hid ha; have HB := Lib.hid hb; clear ha hb
  obtain ⟨n, hn⟩ : ∃ n, n = L.length := ⟨_, rfl⟩
  obtain ⟨nb, hnb⟩ : ∃ nb, nb = M.length := ⟨_, rfl⟩
  rw [← hn] at hl ⊢
  rw [← hnb] at hlb ⊢
  have HN := Lib.hid hn; have HNB := Lib.hid hnb; clear hn hnb
  go_enter Try.func7, Try.ntmps7
  go_wp2_with fail
  refine (awake_any _).mono ?_
  rintro e w1 ⟨rfl, F1⟩
  by_cases hlen : (30 : Int) < (n : Int)
  · go_wp2
    go_ret
    exact ⟨rfl, F1⟩
  · by_cases hlenb : (30 : Int) < (nb : Int)
    · go_wp2
      go_ret
      exact ⟨rfl, F1⟩
    · have HL1 := Lib.hid (show L.length ≤ 30 by have := HN.out; omega)
      have HL2 := Lib.hid (show M.length ≤ 30 by have := HNB.out; omega)
      go_wp2_with fail
      rw [HN.out]
      refine (encode_any _ _ _ L (HA.out.fr F1 (by simp))).mono ?_
      intro e w2 h2
      obtain ⟨g2, c2, rfl, hE2, -, f2⟩ := enc_val h2
      obtain ⟨X, hX⟩ : ∃ X, X = encB L := ⟨_, rfl⟩
      obtain ⟨ex, hex⟩ : ∃ ex, ex = encE L := ⟨_, rfl⟩
      obtain ⟨nx, hnx⟩ : ∃ nx, nx = X.length := ⟨_, rfl⟩
      have hnxl : nx ≤ 12000 := by rw [hnx, hX]; exact encB_len L (by have := HL1.out; omega)
      rw [← hX] at hE2 ⊢
      rw [← hex, ← hnx, ← HN.out]
      have HX := Lib.hid hX; have HEX := Lib.hid hex; have HNX := Lib.hid hnx; have HE2 := Lib.hid hE2
      have F2 := F1.trans f2
      clear hX hex hnx hE2 h2 F1 f2
      go_wp2_with fail
      rw [HNB.out]
      refine (encode_any _ _ _ M (HB.out.fr F2 (by simp))).mono ?_
      intro e w3 h3
      obtain ⟨g3, c3, rfl, hE3, -, f3⟩ := enc_val h3
      obtain ⟨Y, hY⟩ : ∃ Y, Y = encB M := ⟨_, rfl⟩
      obtain ⟨ey, hey⟩ : ∃ ey, ey = encE M := ⟨_, rfl⟩
      obtain ⟨ny, hny⟩ : ∃ ny, ny = Y.length := ⟨_, rfl⟩
      have hnyl : ny ≤ 12000 := by rw [hny, hY]; exact encB_len M (by have := HL2.out; omega)
      rw [← hY] at hE3 ⊢
      rw [← hey, ← hny, ← HNB.out]
      have HY := Lib.hid hY; have HEY := Lib.hid hey; have HNY := Lib.hid hny; have HE3 := Lib.hid hE3
      have HX3 := Lib.hid (HE2.out.fr f3 (by simp))
      have F3 := Lib.hid (F2.trans f3)
      clear hY hey hny hE3 h3 F2 f3 HE2
      go_wp2_with (first
        | (at_builtin; refine wpList_append_more rfl _ _ 22 rfl 32 i0 _ 11 80 Try.underlying22 hi hz0 hz1 hz2 rfl (by decide) w3.heap.size _ 0 [] rfl (own_empty w3 _ 11) g n c (L.flatMap EntV.cells) rfl (by rw [cells_len, HN.out]) (fun hm => ((HA.out.fr F3.out (by simp)).fr ((Fr.refl [] w3).alloc _) (by simp)).news (by rw [← HN.out]; exact hm)) (cells_one L) (by unfold maxLen; omega) (by omega) (by simp) w3 (Nat.le_refl _) ((Fr.refl [] w3).alloc _) ?_)
        | fail)
      intro v4 w4 hv4 f4
      have HV4 := Lib.hid hv4
      clear hv4
      go_wp2_with (first
        | (at_builtin; refine wpList_append_more rfl _ _ 22 rfl 32 i0 _ 11 80 Try.underlying22 hi hz0 hz1 hz2 rfl (by decide) w3.heap.size _ n (L.flatMap EntV.cells) rfl HV4.out gb nb cb (M.flatMap EntV.cells) rfl (by rw [cells_len, HNB.out]) (fun hm => ((HB.out.fr F3.out (by simp)).fr f4 (by simp)).news (by rw [← HNB.out]; exact hm)) (cells_one M) (by unfold maxLen; omega) (by omega) f4.size w3 (Nat.le_refl _) f4 ?_)
        | fail)
      intro v5 w5 hv5 f5
      have hLM : (L ++ M).length = n + nb := by rw [List.length_append, HN.out, HNB.out]
      obtain ⟨hown5, g5, c5, rfl, hc5⟩ := hv5
      have hE5 : EntsAt w5 (some ⟨g5, 0, none⟩) (L ++ M) := by
        have ho : OwnE w3.heap.size w5 (.slice (some ⟨g5, 0, none⟩) (n + nb) c5) (L ++ M) := by
          unfold OwnE; rw [hLM, List.flatMap_append]; exact hown5
        obtain ⟨g', c', hv, he, _⟩ := ho.ents
        simp only [Value.slice.injEq] at hv
        obtain ⟨rfl, _, _⟩ := hv
        exact he
      have HE5 := Lib.hid hE5
      have HX5 := Lib.hid (HX3.out.fr f5 (by simp)); have HY5 := Lib.hid (HE3.out.fr f5 (by simp))
      have F5 := Lib.hid (F3.out.trans f5)
      obtain ⟨m5, hm5⟩ : ∃ m5, m5 = n + nb := ⟨_, rfl⟩
      rw [← hm5] at hLM hc5 ⊢
      have hm60 : m5 ≤ 60 := by omega
      have HLM := Lib.hid hLM
      clear hown5 hE5 f4 f5 HV4 HX3 HE3 hm5 hLM
      go_wp2_with fail
      have q := encode_any w5 _ c5 (L ++ M) HE5.out
      rw [HLM.out] at q
      refine q.mono ?_
      clear q
      intro e w6 h6
      by_cases hok : ∀ x ∈ L ++ M, x.ok
      · have hokL : ∀ x ∈ L, x.ok := fun x hx => hok x (List.mem_append_left _ hx)
        have hokM : ∀ x ∈ M, x.ok := fun x hx => hok x (List.mem_append_right _ hx)
        have hl1 : L.length ≤ 1000 := by have := HL1.out; omega
        have hl2 : M.length ≤ 1000 := by have := HL2.out; omega
        have hl3 : (L ++ M).length ≤ 1000 := by rw [HLM.out]; omega
        obtain ⟨g6, c6, rfl, hE6, hc6, f6⟩ := enc_yes h6 hl3 hok
        obtain rfl : ex = 0 := by rw [HEX.out]; exact (encB_yes hl1 hokL).2
        obtain rfl : ey = 0 := by rw [HEY.out]; exact (encB_yes hl2 hokM).2
        have hXf : X = forms L := by rw [HX.out]; exact (encB_yes hl1 hokL).1
        have hYf : Y = forms M := by rw [HY.out]; exact (encB_yes hl2 hokM).1
        obtain ⟨Z, hZ⟩ : ∃ Z, Z = forms (L ++ M) := ⟨_, rfl⟩
        obtain ⟨nz, hnz⟩ : ∃ nz, nz = Z.length := ⟨_, rfl⟩
        have hXY : X ++ Y = Z := by rw [hXf, hYf, hZ, forms_append]
        have hnz2 : nz = nx + ny := by rw [hnz, ← hXY, List.length_append, HNX.out, HNY.out]
        rw [← hZ] at hE6 hc6 ⊢
        rw [← hnz] at hc6 ⊢
        have HZ := Lib.hid hZ; have HNZ := Lib.hid hnz; have HXY := Lib.hid hXY; have HNZ2 := Lib.hid hnz2
        have HOK := Lib.hid hok; have H3 := Lib.hid hl3
        have HE6 := Lib.hid hE6
        have HE56 := Lib.hid (HE5.out.fr f6 (by simp)); have HX6 := Lib.hid (HX5.out.fr f6 (by simp)); have HY6 := Lib.hid (HY5.out.fr f6 (by simp))
        have F6 := Lib.hid (F5.out.trans f6)
        have hX8 : ∀ u ∈ X.map (Value.int .u8), u.oneCell' = true := fun u hu => by obtain ⟨z, _, rfl⟩ := List.mem_map.1 hu; rfl
        have hY8 : ∀ u ∈ Y.map (Value.int .u8), u.oneCell' = true := fun u hu => by obtain ⟨z, _, rfl⟩ := List.mem_map.1 hu; rfl
        have HX8 := Lib.hid hX8; have HY8 := Lib.hid hY8
        clear h6 hE6 f6 hok hokL hokM hl1 hl2 hl3 hXf hYf hZ hnz hXY hnz2 HX5 HY5 HE5 hX8 hY8
        go_wp2_with (first
          | (at_builtin; refine wpList_append_more rfl _ _ 24 rfl 5 i1 _ 1 1 Try.underlying24 hj hy0 hy1 hy2 rfl (by decide) w6.heap.size _ 0 [] rfl (own_empty w6 _ 1) g2 nx c2 (X.map (Value.int .u8)) rfl (by rw [List.length_map, ← HNX.out, Nat.mul_one]) (fun hm => (HX6.out.fr ((Fr.refl [] w6).alloc _) (by simp)).news (by rw [← HNX.out]; exact hm)) HX8.out (by unfold maxLen; omega) (by omega) (by simp) w6 (Nat.le_refl _) ((Fr.refl [] w6).alloc _) ?_)
          | fail)
        intro v7 w7 hv7 f7
        have HV7 := Lib.hid hv7
        clear hv7
        go_wp2_with (first
          | (at_builtin; refine wpList_append_more rfl _ _ 24 rfl 5 i1 _ 1 1 Try.underlying24 hj hy0 hy1 hy2 rfl (by decide) w6.heap.size _ nx (X.map (Value.int .u8)) rfl HV7.out g3 ny c3 (Y.map (Value.int .u8)) rfl (by rw [List.length_map, ← HNY.out, Nat.mul_one]) (fun hm => (HY6.out.fr f7 (by simp)).news (by rw [← HNY.out]; exact hm)) HY8.out (by unfold maxLen; omega) (by omega) f7.size w6 (Nat.le_refl _) f7 ?_)
          | fail)
        intro v8 w8 hv8 f8
        obtain ⟨hown8, g8, c8, rfl, hc8⟩ := hv8
        rw [← HNZ2.out] at hown8 hc8 ⊢
        have hE8 : BytsAt w8 (some ⟨g8, 0, none⟩) Z := by
          have ho : OwnB w6.heap.size w8 (.slice (some ⟨g8, 0, none⟩) nz c8) Z := by
            unfold OwnB; rw [← HNZ.out, ← HXY.out, List.map_append]; exact hown8
          obtain ⟨g', c', hv, he, _⟩ := ho.byts HE6.out.2.1
          simp only [Value.slice.injEq] at hv
          obtain ⟨rfl, _, _⟩ := hv
          exact he
        have HE8 := Lib.hid hE8
        have HE68 := Lib.hid (HE6.out.fr f8 (by simp)); have HE58 := Lib.hid (HE56.out.fr f8 (by simp)); have HX8' := Lib.hid (HX6.out.fr f8 (by simp)); have HY8' := Lib.hid (HY6.out.fr f8 (by simp))
        have F8 := Lib.hid (F6.out.trans f8)
        clear hown8 hE8 f7 f8 HV7 HX6 HY6 HE6 HE56 HX8 HY8
        go_wp2_with fail
        have q := decode_any w8 _ c8 Z HE8.out (by rw [← HNZ.out]; exact hc8)
        rw [← HNZ.out, HZ.out] at q
        refine q.mono ?_
        clear q
        intro e w9 h9
        obtain ⟨g9, c9, rfl, hE9, -, f9⟩ := dec_forms h9 H3.out HOK.out
        rw [HLM.out]
        have q1 := conv_any (HE68.out.fr f9 (by simp)) c6
        have q2 := conv_any (HX8'.out.fr f9 (by simp)) c2
        have q3 := conv_any (HY8'.out.fr f9 (by simp)) c3
        have q4 := fun W => add_str W X Y (by have := HNX.out; have := HNY.out; omega)
        have q5 := fun W => add_str2 W X Y (by have := HNX.out; have := HNY.out; omega)
        rw [HXY.out] at q4 q5
        rw [← HNZ.out] at q1
        rw [← HNX.out] at q2
        rw [← HNY.out] at q3
        generalize strOfNums X = sx at q2 q4 q5
        generalize strOfNums Y = sy at q3 q4 q5
        generalize strOfNums Z = sz at q1 q4 q5
        have HE9 := Lib.hid hE9
        have HE59 := Lib.hid (HE58.out.fr f9 (by simp))
        have F9 := Lib.hid (F8.out.trans f9)
        clear h9 hE9 f9 HE68 HE58 HX8' HY8' HE8
        go_wp2_with fail
        have q := fun c' c'' : Nat => same_any w9 g9 (some ⟨g5, 0, none⟩) c' c'' (L ++ M) (L ++ M) HE9.out HE59.out
        rw [HLM.out, decide_eq_true rfl] at q
        refine (q _ _).mono ?_
        clear q
        rintro e w10 ⟨rfl, f10⟩
        have F10 := Lib.hid (F9.out.trans f10)
        clear f10
        go_wp2
        go_ret
        exact ⟨rfl, F10.out⟩
      · have hl3 : (L ++ M).length ≤ 1000 := by rw [HLM.out]; omega
        obtain ⟨rfl, f6⟩ := enc_no h6 hl3 hok
        have F6 := Lib.hid (F5.out.trans f6)
        have hee : ¬ ex = 0 ∨ ¬ ey = 0 := by
          by_cases h1 : ∀ x ∈ L, x.ok
          · right
            rw [HEY.out, (encB_no (by have := HL2.out; omega) (fun h2 => hok (fun x hx => (List.mem_append.1 hx).elim (h1 x) (h2 x)))).2]
            decide
          · left
            rw [HEX.out, (encB_no (by have := HL1.out; omega) h1).2]
            decide
        clear h6 f6 hok hl3
        by_cases hx0 : ex = 0
        · obtain hy0 : ¬ ey = 0 := hee.elim (fun h => (h hx0).elim) id
          subst hx0
          clear hee
          go_wp2
          go_ret
          exact ⟨rfl, F6.out⟩
        · clear hee
          go_wp2
          go_ret
          exact ⟨rfl, F6.out⟩

end Go.Proofs.Ytphnjgkaapfocaa

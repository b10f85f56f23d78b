/- The layer 'entry': entries' bytes. -/
import Derived.Test.YtphnjgkaapfocaaEntF
import Derived.Deep.RegionHeld3
import Derived.Deep.AppendLies
namespace Go.Proofs.Ytphnjgkaapfocaa
open Go.RowKit

theorem byte_info : (Try.prog.info? 5).map (fun i => (i.zero, i.size, i.bytes)) = some (some (.int .u8 0), 1, 1) := by kernel_rfl
theorem info_parts {P : Program} {t : TypeId} {z : Option Value} {s b : Nat} (h : (P.info? t).map (fun i => (i.zero, i.size, i.bytes)) = some (z, s, b)) : ∃ i, P.info? t = some i ∧ i.zero = z ∧ i.size = s ∧ i.bytes = b := by
  cases hi : P.info? t with
  | none => rw [hi] at h; cases h
  | some i =>
    rw [hi] at h
    simp only [Option.map_some, Option.some.injEq, Prod.mk.injEq] at h
    exact ⟨i, rfl, h.1, h.2.1, h.2.2⟩
theorem owns_same {W W' : World} {base e size n : Nat} {v : Value} {xs : List Value} (h : W.ownsRow base e size v n xs) (hs : ∀ b, v.ownBlock = some b → W'.heap[b]? = W.heap[b]?) : W'.ownsRow base e size v n xs := by
  refine ⟨h.1, ?_⟩
  rcases h.2 with hn | ⟨g, cap, cur, rfl, hb, hgg, rest⟩
  · exact .inl hn
  · exact .inr ⟨g, cap, cur, rfl, hb, by rw [hs g rfl]; exact hgg, rest⟩
theorem owns_fr {W W' : World} {base e size n : Nat} {v : Value} {xs : List Value} (h : W.ownsRow base e size v n xs) (f : Fr [] W W') : W'.ownsRow base e size v n xs :=
  owns_same h fun b hb => f.block b (h.lt b hb).2 (by simp)

/-- The bytes of some. -/
def forms (L : List EntV) : List Int := L.flatMap EntV.form
theorem length_forms (L : List EntV) : (forms L).length = 12 * L.length := by
  induction L with
  | nil => rfl
  | cons x t ih => rw [show forms (x :: t) = x.form ++ forms t from List.flatMap_cons, List.length_append, ih]; simp [EntV.form]; omega
theorem forms_snoc (L : List EntV) (x : EntV) : forms (L ++ [x]) = forms L ++ x.form := by simp [forms]
theorem form_bytes {x : EntV} (h : x.ok) : ∀ y ∈ x.form, 0 ≤ y ∧ y ≤ 255 := by
  obtain ⟨⟨k0, k1⟩, ⟨o0, o1⟩, ⟨w0, w1⟩, ⟨s0, s1⟩, ⟨t0, t1⟩, ⟨g0, g1⟩, ⟨d0, d1⟩, ⟨n0, n1⟩⟩ := h
  have hs : 0 ≤ sumV x.wait x.force x.good ∧ sumV x.wait x.force x.good ≤ 7 := by cases x.wait <;> cases x.force <;> cases x.good <;> decide
  intro y hy
  simp only [EntV.form, List.mem_cons, List.not_mem_nil, or_false] at hy
  rcases hy with rfl | rfl | rfl | rfl | rfl | rfl | rfl | rfl | rfl | rfl | rfl | rfl <;> omega
theorem forms_bytes {L : List EntV} (h : ∀ x ∈ L, x.ok) : ∀ y ∈ forms L, 0 ≤ y ∧ y ≤ 255 := fun y hy => by
  obtain ⟨x, hx, hy⟩ := List.mem_flatMap.1 hy
  exact form_bytes (h x hx) y hy
/-- A list of bytes of the call's own. -/
def OwnB (base : Nat) (w : World) (v : Value) (L : List Int) : Prop := w.ownsRow base 5 1 v L.length (L.map (Value.int .u8))
theorem OwnB.byts {base : Nat} {w : World} {v : Value} {L : List Int} (h : OwnB base w v L) (hb : ∀ y ∈ L, 0 ≤ y ∧ y ≤ 255) : ∃ (g : Option Addr) (c : Nat), v = .slice g L.length c ∧ BytsAt w g L ∧ L.length ≤ c := by
  rcases h.2 with ⟨rfl, hn⟩ | ⟨g, cap, cur, rfl, hbg, hg, h1, h2, h3, h4⟩
  · have : L = [] := List.eq_nil_of_length_eq_zero hn
    subst this
    exact ⟨none, 0, rfl, BytsAt.empty _ _, Nat.le_refl _⟩
  · refine ⟨_, cap, rfl, ⟨by unfold maxLen at h2; omega, hb, fun j x hx => ⟨g, 0, rfl, ?_⟩⟩, h1⟩
    have hj : j < L.length := (List.getElem?_eq_some_iff.1 hx).1
    have := World.ownsRow.cellAt h j (by omega)
    rw [Nat.zero_add, this, List.getElem?_map, hx]
    rfl

/-- What Encode leaves: it is too long; one is not right; the bytes. -/
def EncPost (w : World) (L : List EntV) (e : Ending) (w' : World) : Prop :=
  Fr [] w w' ∧ ((1000 < L.length ∧ e = .returned (.tuple #[.slice none 0 0, .int .i64 13])) ∨ (L.length ≤ 1000 ∧ ¬ (∀ x ∈ L, x.ok) ∧ e = .returned (.tuple #[.slice none 0 0, .int .i64 1])) ∨
    (L.length ≤ 1000 ∧ (∀ x ∈ L, x.ok) ∧ ∃ (g : Option Addr) (c : Nat), e = .returned (.tuple #[.slice g (forms L).length c, .int .i64 0]) ∧ BytsAt w' g (forms L) ∧ (forms L).length ≤ c))
theorem take_snocE {α : Type} {L : List α} {k : Nat} {x : α} (h : L[k]? = some x) : L.take (k + 1) = L.take k ++ [x] := by rw [List.take_add_one, h]; rfl
theorem enc_of_own {w w' : World} {base : Nat} {v : Value} {L : List EntV} (f : Fr [] w w') (hl : L.length ≤ 1000) (hok : ∀ x ∈ L, x.ok) (h : OwnB base w' v (forms L)) : EncPost w L (.returned (.tuple #[v, .int .i64 0])) w' := by
  obtain ⟨g, c, rfl, hb, hc⟩ := h.byts (forms_bytes hok)
  exact ⟨f, .inr (.inr ⟨hl, hok, g, c, rfl, hb, hc⟩)⟩
theorem ent_get {L : List EntV} {k : Nat} (h : k < L.length) : ∃ x, L[k]? = some x := ⟨_, List.getElem?_eq_getElem h⟩

theorem u8w (z : Int) (h0 : 0 ≤ z) (h1 : z ≤ 255) : IntKind.u8.wrap z = z := by rw [IntKind.wrap_u8]; omega
theorem u8m (z : Int) : IntKind.u8.wrap z = z % 256 := IntKind.wrap_u8 z

set_option maxHeartbeats 4000000 in
set_option maxRecDepth 100000 in
theorem encode_any (w : World) (g : Option Addr) (c : Nat) (L : List EntV) (ha : EntsAt w g L) :
    Calls Try.prog 10 #[.slice g L.length c] w (EncPost w L) := by
  obtain ⟨i0, hi, hz0, hz1, hz2⟩ := info_parts byte_info
  have hl := ha.1
  have HA := Lib.hid ha; clear ha
  obtain ⟨len, hlen⟩ : ∃ len, len = L.length := ⟨_, rfl⟩
  rw [← hlen] at hl ⊢
  have HLEN := Lib.hid hlen; clear hlen
  by_cases hlong : (1000 : Int) < (len : Int)
  · have HP := Lib.hid (show EncPost w L (.returned (.tuple #[.slice none 0 0, .int .i64 13])) w from ⟨Fr.refl _ _, .inl ⟨by have := HLEN.out; omega, rfl⟩⟩)
    go_enter Try.func10, Try.ntmps10
    go_wp2
    go_ret2
    exact HP.out
  · go_enter Try.func10, Try.ntmps10
    go_wp2
    go_loopw [13, 4] (fun i v wr => ∃ k : Nat, k ≤ len ∧ i = .int .i64 (k : Int) ∧ OwnB w.heap.size wr v (forms (L.take k)) ∧ (∀ x ∈ L.take k, x.ok) ∧ Fr [] w wr) (fun i _ _ => len - (intOf i).toNat)
    case atStart => exact ⟨0, Nat.zero_le _, rfl, World.ownsRow_nil _ _ _ _, by simp, Fr.refl _ _⟩
    case round =>
      obtain ⟨k, hk, rfl, hown, hok, f⟩ := hrel
      have HO := Lib.hid hown; have HK := Lib.hid hok; clear hown hok
      by_cases hlt : k < len
      · obtain ⟨x, hx⟩ := ent_get (L := L) (k := k) (by rw [← HLEN.out]; exact hlt)
        obtain ⟨ba, oa, rfl, hca⟩ := HA.out.base (by intro e; rw [e] at hx; simp at hx)
        have hc := EntCells.of (hca k x hx)
        have hc2 := hc.fr f (by simp)
        clear hc hca
        obtain ⟨c0, c1, c2, c3, c4, c5, c6, c7, c8, c9, c10⟩ := hc2
        have HX := Lib.hid hx; clear hx
        have hlt' : (k : Int) < (len : Int) := by omega
        have hk0 : (0 : Int) ≤ (k : Int) := by omega
        obtain ⟨x, rfl⟩ : ∃ y, y = x := ⟨x, rfl⟩
        have hR := Lib.hid (fun W : World => right_any W x)
        go_wp2_with fail
        refine (right_any _ x).mono ?_
        rintro e w2 ⟨rfl, f2⟩
        have A0 := heap_alloc_new wr (.cells #[.int .i64 x.kind, .int .i64 x.who, .int .i64 x.op, .int .i64 x.dl, .bool x.wait, .bool x.force, .int .i64 x.slot, .int .i64 x.gen, .int .i64 x.stream, .int .i64 x.n, .bool x.good] 32)
        have hb6 := f2.at A0 (by simp)
        have f02 := (f.alloc (.cells #[.int .i64 x.kind, .int .i64 x.who, .int .i64 x.op, .int .i64 x.dl, .bool x.wait, .bool x.force, .int .i64 x.slot, .int .i64 x.gen, .int .i64 x.stream, .int .i64 x.n, .bool x.good] 32)).trans f2
        have F02 := Lib.hid f02
        have HO2 := Lib.hid (owns_fr HO.out (((Fr.refl [] wr).alloc (.cells #[.int .i64 x.kind, .int .i64 x.who, .int .i64 x.op, .int .i64 x.dl, .bool x.wait, .bool x.force, .int .i64 x.slot, .int .i64 x.gen, .int .i64 x.stream, .int .i64 x.n, .bool x.good] 32)).trans f2))
        have hs2 := f2.size
        rw [World.size_alloc] at hs2
        have hv6 : some wr.heap.size ≠ u4.ownBlock := fun e => by have := (HO.out.lt _ e.symm).2; omega
        have hv7 : some w2.heap.size ≠ u4.ownBlock := fun e => by have := (HO.out.lt _ e.symm).2; omega
        clear A0 f2 f02 f HO c0 c1 c2 c3 c4 c5 c6 c7 c8 c9 c10
        by_cases hxok : x.ok
        · rw [decide_eq_true hxok]
          have HXO := Lib.hid hxok
          obtain ⟨⟨e0, e1⟩, ⟨e2, e3⟩, ⟨e4, e5⟩, ⟨e6, e7⟩, ⟨e8, e9⟩, ⟨e10, e11⟩, ⟨e12, e13⟩, ⟨e14, e15⟩⟩ := hxok
          have p0 : w2.cell? ⟨wr.heap.size, 0, none⟩ = some (.int .i64 x.kind) := cell_of hb6 rfl
          have p1 : w2.cell? ⟨wr.heap.size, 1, none⟩ = some (.int .i64 x.who) := cell_of hb6 rfl
          have p2 : w2.cell? ⟨wr.heap.size, 2, none⟩ = some (.int .i64 x.op) := cell_of hb6 rfl
          have p3 : w2.cell? ⟨wr.heap.size, 3, none⟩ = some (.int .i64 x.dl) := cell_of hb6 rfl
          have p4 : w2.cell? ⟨wr.heap.size, 4, none⟩ = some (.bool x.wait) := cell_of hb6 rfl
          have p5 : w2.cell? ⟨wr.heap.size, 5, none⟩ = some (.bool x.force) := cell_of hb6 rfl
          have p6 : w2.cell? ⟨wr.heap.size, 6, none⟩ = some (.int .i64 x.slot) := cell_of hb6 rfl
          have p7 : w2.cell? ⟨wr.heap.size, 7, none⟩ = some (.int .i64 x.gen) := cell_of hb6 rfl
          have p8 : w2.cell? ⟨wr.heap.size, 8, none⟩ = some (.int .i64 x.stream) := cell_of hb6 rfl
          have p9 : w2.cell? ⟨wr.heap.size, 9, none⟩ = some (.int .i64 x.n) := cell_of hb6 rfl
          have p10 : w2.cell? ⟨wr.heap.size, 10, none⟩ = some (.bool x.good) := cell_of hb6 rfl
          go_wp2_with fail
          have B6 := heap_alloc_keep hb6 (.cells #[.int .i64 x.op, .int .i64 x.dl, .bool x.wait, .bool x.force, .int .i64 x.slot, .int .i64 x.gen, .int .i64 x.stream] 30)
          have B7 := heap_alloc_new w2 (.cells #[.int .i64 x.op, .int .i64 x.dl, .bool x.wait, .bool x.force, .int .i64 x.slot, .int .i64 x.gen, .int .i64 x.stream] 30)
          have HO3 := Lib.hid (owns_fr HO2.out ((Fr.refl [] w2).alloc (.cells #[.int .i64 x.op, .int .i64 x.dl, .bool x.wait, .bool x.force, .int .i64 x.slot, .int .i64 x.gen, .int .i64 x.stream] 30)))
          have F3 := Lib.hid (F02.out.alloc (.cells #[.int .i64 x.op, .int .i64 x.dl, .bool x.wait, .bool x.force, .int .i64 x.slot, .int .i64 x.gen, .int .i64 x.stream] 30))
          have hs3 : wr.heap.size + 1 ≤ (w2.alloc (.cells #[.int .i64 x.op, .int .i64 x.dl, .bool x.wait, .bool x.force, .int .i64 x.slot, .int .i64 x.gen, .int .i64 x.stream] 30)).heap.size := by rw [World.size_alloc]; omega
          have hne : wr.heap.size ≠ w2.heap.size := by omega
          have hbw : w.heap.size ≤ (w2.alloc (.cells #[.int .i64 x.op, .int .i64 x.dl, .bool x.wait, .bool x.force, .int .i64 x.slot, .int .i64 x.gen, .int .i64 x.stream] 30)).heap.size := F3.out.size
          clear hs2 p0 p1 p2 p3 p4 p5 p6 p7 p8 p9 p10 hb6 F02 HO2
          generalize w2.alloc (.cells #[.int .i64 x.op, .int .i64 x.dl, .bool x.wait, .bool x.force, .int .i64 x.slot, .int .i64 x.gen, .int .i64 x.stream] 30) = w3 at B6 B7 HO3 F3 hs3 hbw ⊢
          generalize w2.heap.size = b7 at B7 hne hv7 ⊢
          generalize wr.heap.size = b6 at B6 hs3 hne hv6 ⊢
          clear hne
          have p0 : w3.cell? ⟨b6, 0, none⟩ = some (.int .i64 x.kind) := cell_of B6 rfl
          have p1 : w3.cell? ⟨b6, 1, none⟩ = some (.int .i64 x.who) := cell_of B6 rfl
          have p2 : w3.cell? ⟨b6, 2, none⟩ = some (.int .i64 x.op) := cell_of B6 rfl
          have p3 : w3.cell? ⟨b6, 3, none⟩ = some (.int .i64 x.dl) := cell_of B6 rfl
          have p4 : w3.cell? ⟨b6, 4, none⟩ = some (.bool x.wait) := cell_of B6 rfl
          have p5 : w3.cell? ⟨b6, 5, none⟩ = some (.bool x.force) := cell_of B6 rfl
          have p6 : w3.cell? ⟨b6, 6, none⟩ = some (.int .i64 x.slot) := cell_of B6 rfl
          have p7 : w3.cell? ⟨b6, 7, none⟩ = some (.int .i64 x.gen) := cell_of B6 rfl
          have p8 : w3.cell? ⟨b6, 8, none⟩ = some (.int .i64 x.stream) := cell_of B6 rfl
          have p9 : w3.cell? ⟨b6, 9, none⟩ = some (.int .i64 x.n) := cell_of B6 rfl
          have p10 : w3.cell? ⟨b6, 10, none⟩ = some (.bool x.good) := cell_of B6 rfl
          have q0 : w3.cell? ⟨b7, 0, none⟩ = some (.int .i64 x.op) := cell_of B7 rfl
          have q1 : w3.cell? ⟨b7, 1, none⟩ = some (.int .i64 x.dl) := cell_of B7 rfl
          have q2 : w3.cell? ⟨b7, 2, none⟩ = some (.bool x.wait) := cell_of B7 rfl
          have q3 : w3.cell? ⟨b7, 3, none⟩ = some (.bool x.force) := cell_of B7 rfl
          have q4 : w3.cell? ⟨b7, 4, none⟩ = some (.int .i64 x.slot) := cell_of B7 rfl
          have q5 : w3.cell? ⟨b7, 5, none⟩ = some (.int .i64 x.gen) := cell_of B7 rfl
          have q6 : w3.cell? ⟨b7, 6, none⟩ = some (.int .i64 x.stream) := cell_of B7 rfl
          clear B6 B7
          refine wp_region_held_drew (S := fun w' => w'.cell? ⟨b6, 0, none⟩ = some (.int .i64 x.kind) ∧ w'.cell? ⟨b6, 1, none⟩ = some (.int .i64 x.who) ∧ w'.cell? ⟨b6, 2, none⟩ = some (.int .i64 x.op) ∧ w'.cell? ⟨b6, 3, none⟩ = some (.int .i64 x.dl) ∧ w'.cell? ⟨b6, 4, none⟩ = some (.bool x.wait) ∧ w'.cell? ⟨b6, 5, none⟩ = some (.bool x.force) ∧ w'.cell? ⟨b6, 6, none⟩ = some (.int .i64 x.slot) ∧ w'.cell? ⟨b6, 7, none⟩ = some (.int .i64 x.gen) ∧ w'.cell? ⟨b6, 8, none⟩ = some (.int .i64 x.stream) ∧ w'.cell? ⟨b6, 9, none⟩ = some (.int .i64 x.n) ∧ w'.cell? ⟨b6, 10, none⟩ = some (.bool x.good) ∧ w'.cell? ⟨b7, 0, none⟩ = some (.int .i64 x.op) ∧ w'.cell? ⟨b7, 1, none⟩ = some (.int .i64 x.dl) ∧ w'.cell? ⟨b7, 2, none⟩ = some (.bool x.wait) ∧ w'.cell? ⟨b7, 3, none⟩ = some (.bool x.force) ∧ w'.cell? ⟨b7, 4, none⟩ = some (.int .i64 x.slot) ∧ w'.cell? ⟨b7, 5, none⟩ = some (.int .i64 x.gen) ∧ w'.cell? ⟨b7, 6, none⟩ = some (.int .i64 x.stream)) (by kernel_rfl) ⟨p0, p1, p2, p3, p4, p5, p6, p7, p8, p9, p10, q0, q1, q2, q3, q4, q5, q6⟩ (fun hHeld => ?_)
          refine wpAnyH_take (i := 0) (oi := _) (v := ?_) rfl (by kernel_rfl) (by kernel_rfl) (by kernel_rfl) (fun _ _ _ h => h) (Or.inl ⟨by rfl, ?_⟩) (by assumption) ?_
          rotate_left
          · intro w hSw
            try dsimp only at hSw
            try simp only [List.getElem_toArray, List.getElem_cons_zero]
            go_split_ands
            go_simp
            try with_reducible rfl
          try simp only [Act.put, List.getElem_toArray, List.getElem_cons_zero, List.setIfInBounds_toArray, List.set_cons_zero, List.set_cons_succ]
          refine wpAnyH_take (i := 1) (oi := _) (v := ?_) rfl (by kernel_rfl) (by kernel_rfl) (by kernel_rfl) (fun _ _ _ h => h) (Or.inl ⟨by rfl, ?_⟩) (by assumption) ?_
          rotate_left
          · intro w hSw
            try dsimp only at hSw
            try simp only [List.getElem_toArray, List.getElem_cons_succ, List.getElem_cons_zero]
            go_split_ands
            go_simp
            try with_reducible rfl
          try simp only [Act.put, List.getElem_toArray, List.getElem_cons_succ, List.getElem_cons_zero, List.setIfInBounds_toArray, List.set_cons_zero, List.set_cons_succ]
          refine wpAnyH_take (i := 2) (oi := _) (v := ?_) rfl (by kernel_rfl) (by kernel_rfl) (by kernel_rfl) (fun _ _ _ h => h) (Or.inl ⟨by rfl, ?_⟩) (by assumption) ?_
          rotate_left
          · intro w hSw
            try dsimp only at hSw
            try simp only [List.getElem_toArray, List.getElem_cons_succ, List.getElem_cons_zero]
            go_split_ands
            go_simp
            try with_reducible rfl
          try simp only [Act.put, List.getElem_toArray, List.getElem_cons_succ, List.getElem_cons_zero, List.setIfInBounds_toArray, List.set_cons_zero, List.set_cons_succ]
          refine wpAnyH_take (i := 3) (oi := _) (v := ?_) rfl (by kernel_rfl) (by kernel_rfl) (by kernel_rfl) (fun _ _ _ h => h) (Or.inl ⟨by rfl, ?_⟩) (by assumption) ?_
          rotate_left
          · intro w hSw
            try dsimp only at hSw
            try simp only [List.getElem_toArray, List.getElem_cons_succ, List.getElem_cons_zero]
            go_split_ands
            go_simp
            try with_reducible rfl
          try simp only [Act.put, List.getElem_toArray, List.getElem_cons_succ, List.getElem_cons_zero, List.setIfInBounds_toArray, List.set_cons_zero, List.set_cons_succ]
          refine wpAnyH_take (i := 4) (oi := _) (v := ?_) rfl (by kernel_rfl) (by kernel_rfl) (by kernel_rfl) (fun _ _ _ h => h) (Or.inl ⟨by rfl, ?_⟩) (by assumption) ?_
          rotate_left
          · intro w hSw
            try dsimp only at hSw
            try simp only [List.getElem_toArray, List.getElem_cons_succ, List.getElem_cons_zero]
            go_split_ands
            go_simp
            try with_reducible rfl
          try simp only [Act.put, List.getElem_toArray, List.getElem_cons_succ, List.getElem_cons_zero, List.setIfInBounds_toArray, List.set_cons_zero, List.set_cons_succ]
          refine wpAnyH_take (i := 5) (oi := _) (v := ?_) rfl (by kernel_rfl) (by kernel_rfl) (by kernel_rfl) (fun _ _ _ h => h) (Or.inl ⟨by rfl, ?_⟩) (by assumption) ?_
          rotate_left
          · intro w hSw
            try dsimp only at hSw
            try simp only [List.getElem_toArray, List.getElem_cons_succ, List.getElem_cons_zero]
            go_split_ands
            go_simp
            try with_reducible rfl
          try simp only [Act.put, List.getElem_toArray, List.getElem_cons_succ, List.getElem_cons_zero, List.setIfInBounds_toArray, List.set_cons_zero, List.set_cons_succ]
          refine wpAnyH_take (i := 6) (oi := _) (v := ?_) rfl (by kernel_rfl) (by kernel_rfl) (by kernel_rfl) (fun _ _ _ h => h) (Or.inl ⟨by rfl, ?_⟩) (by assumption) ?_
          rotate_left
          · intro w hSw
            try dsimp only at hSw
            try simp only [List.getElem_toArray, List.getElem_cons_succ, List.getElem_cons_zero]
            go_split_ands
            go_simp
            try with_reducible rfl
          try simp only [Act.put, List.getElem_toArray, List.getElem_cons_succ, List.getElem_cons_zero, List.setIfInBounds_toArray, List.set_cons_zero, List.set_cons_succ]
          refine wpAnyH_take (i := 7) (oi := _) (v := ?_) rfl (by kernel_rfl) (by kernel_rfl) (by kernel_rfl) (fun _ _ _ h => h) (Or.inl ⟨by rfl, ?_⟩) (by assumption) ?_
          rotate_left
          · intro w hSw
            try dsimp only at hSw
            try simp only [List.getElem_toArray, List.getElem_cons_succ, List.getElem_cons_zero]
            go_split_ands
            go_simp
            try with_reducible rfl
          try simp only [Act.put, List.getElem_toArray, List.getElem_cons_succ, List.getElem_cons_zero, List.setIfInBounds_toArray, List.set_cons_zero, List.set_cons_succ]
          refine wpAnyH_take (i := 8) (oi := _) (v := ?_) rfl (by kernel_rfl) (by kernel_rfl) (by kernel_rfl) (fun _ _ _ h => h) (Or.inl ⟨by rfl, ?_⟩) (by assumption) ?_
          rotate_left
          · intro w hSw
            try dsimp only at hSw
            try simp only [List.getElem_toArray, List.getElem_cons_succ, List.getElem_cons_zero]
            go_split_ands
            go_simp
            try with_reducible rfl
          try simp only [Act.put, List.getElem_toArray, List.getElem_cons_succ, List.getElem_cons_zero, List.setIfInBounds_toArray, List.set_cons_zero, List.set_cons_succ]
          refine wpAnyH_take (i := 9) (oi := _) (v := ?_) rfl (by kernel_rfl) (by kernel_rfl) (by kernel_rfl) (fun _ _ _ h => h) (Or.inl ⟨by rfl, ?_⟩) (by assumption) ?_
          rotate_left
          · intro w hSw
            try dsimp only at hSw
            try simp only [List.getElem_toArray, List.getElem_cons_succ, List.getElem_cons_zero]
            go_split_ands
            go_simp
            try with_reducible rfl
          try simp only [Act.put, List.getElem_toArray, List.getElem_cons_succ, List.getElem_cons_zero, List.setIfInBounds_toArray, List.set_cons_zero, List.set_cons_succ]
          refine wpAnyH_take (i := 10) (oi := _) (v := ?_) rfl (by kernel_rfl) (by kernel_rfl) (by kernel_rfl) (fun _ _ _ h => h) (Or.inl ⟨by rfl, ?_⟩) (by assumption) ?_
          rotate_left
          · intro w hSw
            try dsimp only at hSw
            try simp only [List.getElem_toArray, List.getElem_cons_succ, List.getElem_cons_zero]
            go_split_ands
            go_simp
            try with_reducible rfl
          try simp only [Act.put, List.getElem_toArray, List.getElem_cons_succ, List.getElem_cons_zero, List.setIfInBounds_toArray, List.set_cons_zero, List.set_cons_succ]
          refine wpAnyH_take (i := 12) (oi := _) (v := ?_) rfl (by kernel_rfl) (by kernel_rfl) (by kernel_rfl) (fun _ _ _ h => h) (Or.inl ⟨by rfl, ?_⟩) (by assumption) ?_
          rotate_left
          · intro w hSw
            try dsimp only at hSw
            try simp only [List.getElem_toArray, List.getElem_cons_succ, List.getElem_cons_zero]
            go_split_ands
            go_simp
            try with_reducible rfl
          try simp only [Act.put, List.getElem_toArray, List.getElem_cons_succ, List.getElem_cons_zero, List.setIfInBounds_toArray, List.set_cons_zero, List.set_cons_succ]
          refine wpAnyH_take (i := 13) (oi := _) (v := ?_) rfl (by kernel_rfl) (by kernel_rfl) (by kernel_rfl) (fun _ _ _ h => h) (Or.inl ⟨by rfl, ?_⟩) (by assumption) ?_
          rotate_left
          · intro w hSw
            try dsimp only at hSw
            try simp only [List.getElem_toArray, List.getElem_cons_succ, List.getElem_cons_zero]
            go_split_ands
            go_simp
            try with_reducible rfl
          try simp only [Act.put, List.getElem_toArray, List.getElem_cons_succ, List.getElem_cons_zero, List.setIfInBounds_toArray, List.set_cons_zero, List.set_cons_succ]
          refine wpAnyH_take (i := 14) (oi := _) (v := ?_) rfl (by kernel_rfl) (by kernel_rfl) (by kernel_rfl) (fun _ _ _ h => h) (Or.inl ⟨by rfl, ?_⟩) (by assumption) ?_
          rotate_left
          · intro w hSw
            try dsimp only at hSw
            try simp only [List.getElem_toArray, List.getElem_cons_succ, List.getElem_cons_zero]
            go_split_ands
            go_simp
            try with_reducible rfl
          try simp only [Act.put, List.getElem_toArray, List.getElem_cons_succ, List.getElem_cons_zero, List.setIfInBounds_toArray, List.set_cons_zero, List.set_cons_succ]
          refine wpAnyH_take (i := 15) (oi := _) (v := ?_) rfl (by kernel_rfl) (by kernel_rfl) (by kernel_rfl) (fun _ _ _ h => h) (Or.inl ⟨by rfl, ?_⟩) (by assumption) ?_
          rotate_left
          · intro w hSw
            try dsimp only at hSw
            try simp only [List.getElem_toArray, List.getElem_cons_succ, List.getElem_cons_zero]
            go_split_ands
            go_simp
            try with_reducible rfl
          try simp only [Act.put, List.getElem_toArray, List.getElem_cons_succ, List.getElem_cons_zero, List.setIfInBounds_toArray, List.set_cons_zero, List.set_cons_succ]
          refine wpAnyH_take (i := 16) (oi := _) (v := ?_) rfl (by kernel_rfl) (by kernel_rfl) (by kernel_rfl) (fun _ _ _ h => h) (Or.inl ⟨by rfl, ?_⟩) (by assumption) ?_
          rotate_left
          · intro w hSw
            try dsimp only at hSw
            try simp only [List.getElem_toArray, List.getElem_cons_succ, List.getElem_cons_zero]
            go_split_ands
            go_simp
            try with_reducible rfl
          try simp only [Act.put, List.getElem_toArray, List.getElem_cons_succ, List.getElem_cons_zero, List.setIfInBounds_toArray, List.set_cons_zero, List.set_cons_succ]
          refine wpAnyH_take (i := 17) (oi := _) (v := ?_) rfl (by kernel_rfl) (by kernel_rfl) (by kernel_rfl) (fun _ _ _ h => h) (Or.inl ⟨by rfl, ?_⟩) (by assumption) ?_
          rotate_left
          · intro w hSw
            try dsimp only at hSw
            try simp only [List.getElem_toArray, List.getElem_cons_succ, List.getElem_cons_zero]
            go_split_ands
            go_simp
            try with_reducible rfl
          try simp only [Act.put, List.getElem_toArray, List.getElem_cons_succ, List.getElem_cons_zero, List.setIfInBounds_toArray, List.set_cons_zero, List.set_cons_succ]
          refine wpAnyH_take (i := 18) (oi := _) (v := ?_) rfl (by kernel_rfl) (by kernel_rfl) (by kernel_rfl) (fun _ _ _ h => h) (Or.inl ⟨by rfl, ?_⟩) (by assumption) ?_
          rotate_left
          · intro w hSw
            try dsimp only at hSw
            try simp only [List.getElem_toArray, List.getElem_cons_succ, List.getElem_cons_zero]
            go_split_ands
            go_simp
            try with_reducible rfl
          try simp only [Act.put, List.getElem_toArray, List.getElem_cons_succ, List.getElem_cons_zero, List.setIfInBounds_toArray, List.set_cons_zero, List.set_cons_succ]
          refine wpAnyH_take (i := 19) (oi := _) (v := ?_) rfl (by kernel_rfl) (by kernel_rfl) (by kernel_rfl) (fun _ _ _ h => h) (Or.inl ⟨by rfl, ?_⟩) (by assumption) ?_
          rotate_left
          · intro w hSw
            try dsimp only at hSw
            try simp only [List.getElem_toArray, List.getElem_cons_succ, List.getElem_cons_zero]
            go_split_ands
            go_simp
            try with_reducible rfl
          try simp only [Act.put, List.getElem_toArray, List.getElem_cons_succ, List.getElem_cons_zero, List.setIfInBounds_toArray, List.set_cons_zero, List.set_cons_succ]
          refine wpAnyH_take (i := 20) (oi := _) (v := ?_) rfl (by kernel_rfl) (by kernel_rfl) (by kernel_rfl) (fun _ _ _ h => h) (Or.inl ⟨by rfl, ?_⟩) (by assumption) ?_
          rotate_left
          · intro w hSw
            try dsimp only at hSw
            try simp only [List.getElem_toArray, List.getElem_cons_succ, List.getElem_cons_zero]
            go_split_ands
            go_simp
            try with_reducible rfl
          try simp only [Act.put, List.getElem_toArray, List.getElem_cons_succ, List.getElem_cons_zero, List.setIfInBounds_toArray, List.set_cons_zero, List.set_cons_succ]
          refine wpAnyH_take (i := 21) (oi := _) (v := ?_) rfl (by kernel_rfl) (by kernel_rfl) (by kernel_rfl) (fun _ _ _ h => h) (Or.inl ⟨by rfl, ?_⟩) (by assumption) ?_
          rotate_left
          · intro w hSw
            try dsimp only at hSw
            try simp only [List.getElem_toArray, List.getElem_cons_succ, List.getElem_cons_zero]
            go_split_ands
            go_simp
            try with_reducible rfl
          try simp only [Act.put, List.getElem_toArray, List.getElem_cons_succ, List.getElem_cons_zero, List.setIfInBounds_toArray, List.set_cons_zero, List.set_cons_succ]
          refine wpAnyH_take (i := 22) (oi := _) (v := ?_) rfl (by kernel_rfl) (by kernel_rfl) (by kernel_rfl) (fun _ _ _ h => h) (Or.inl ⟨by rfl, ?_⟩) (by assumption) ?_
          rotate_left
          · intro w hSw
            try dsimp only at hSw
            try simp only [List.getElem_toArray, List.getElem_cons_succ, List.getElem_cons_zero]
            go_split_ands
            go_simp
            try with_reducible rfl
          try simp only [Act.put, List.getElem_toArray, List.getElem_cons_succ, List.getElem_cons_zero, List.setIfInBounds_toArray, List.set_cons_zero, List.set_cons_succ]
          refine wpAnyH_take (i := 23) (oi := _) (v := ?_) rfl (by kernel_rfl) (by kernel_rfl) (by kernel_rfl) (fun _ _ _ h => h) (Or.inl ⟨by rfl, ?_⟩) (by assumption) ?_
          rotate_left
          · intro w hSw
            try dsimp only at hSw
            try simp only [List.getElem_toArray, List.getElem_cons_succ, List.getElem_cons_zero]
            go_split_ands
            go_simp
            try with_reducible rfl
          try simp only [Act.put, List.getElem_toArray, List.getElem_cons_succ, List.getElem_cons_zero, List.setIfInBounds_toArray, List.set_cons_zero, List.set_cons_succ]
          refine wpAnyH_take (i := 24) (oi := _) (v := ?_) rfl (by kernel_rfl) (by kernel_rfl) (by kernel_rfl) (fun _ _ _ h => h) (Or.inl ⟨by rfl, ?_⟩) (by assumption) ?_
          rotate_left
          · intro w hSw
            try dsimp only at hSw
            try simp only [List.getElem_toArray, List.getElem_cons_succ, List.getElem_cons_zero]
            go_split_ands
            go_simp
            try with_reducible rfl
          try simp only [Act.put, List.getElem_toArray, List.getElem_cons_succ, List.getElem_cons_zero, List.setIfInBounds_toArray, List.set_cons_zero, List.set_cons_succ]
          refine wpAnyH_take (i := 25) (oi := _) (v := ?_) rfl (by kernel_rfl) (by kernel_rfl) (by kernel_rfl) (fun _ _ _ h => h) (Or.inl ⟨by rfl, ?_⟩) (by assumption) ?_
          rotate_left
          · intro w hSw
            try dsimp only at hSw
            try simp only [List.getElem_toArray, List.getElem_cons_succ, List.getElem_cons_zero]
            go_split_ands
            go_simp
            try with_reducible rfl
          try simp only [Act.put, List.getElem_toArray, List.getElem_cons_succ, List.getElem_cons_zero, List.setIfInBounds_toArray, List.set_cons_zero, List.set_cons_succ]
          refine wpAnyH_take (i := 26) (oi := _) (v := ?_) rfl (by kernel_rfl) (by kernel_rfl) (by kernel_rfl) (fun _ _ _ h => h) (Or.inl ⟨by rfl, ?_⟩) (by assumption) ?_
          rotate_left
          · intro w hSw
            try dsimp only at hSw
            try simp only [List.getElem_toArray, List.getElem_cons_succ, List.getElem_cons_zero]
            go_split_ands
            go_simp
            try with_reducible rfl
          try simp only [Act.put, List.getElem_toArray, List.getElem_cons_succ, List.getElem_cons_zero, List.setIfInBounds_toArray, List.set_cons_zero, List.set_cons_succ]
          refine wpAnyH_take (i := 27) (oi := _) (v := ?_) rfl (by kernel_rfl) (by kernel_rfl) (by kernel_rfl) (fun _ _ _ h => h) (Or.inl ⟨by rfl, ?_⟩) (by assumption) ?_
          rotate_left
          · intro w hSw
            try dsimp only at hSw
            try simp only [List.getElem_toArray, List.getElem_cons_succ, List.getElem_cons_zero]
            go_split_ands
            go_simp
            try with_reducible rfl
          try simp only [Act.put, List.getElem_toArray, List.getElem_cons_succ, List.getElem_cons_zero, List.setIfInBounds_toArray, List.set_cons_zero, List.set_cons_succ]
          refine wpAnyH_take (i := 28) (oi := _) (v := ?_) rfl (by kernel_rfl) (by kernel_rfl) (by kernel_rfl) (fun _ _ _ h => h) (Or.inl ⟨by rfl, ?_⟩) (by assumption) ?_
          rotate_left
          · intro w hSw
            try dsimp only at hSw
            try simp only [List.getElem_toArray, List.getElem_cons_succ, List.getElem_cons_zero]
            go_split_ands
            go_simp
            try with_reducible rfl
          try simp only [Act.put, List.getElem_toArray, List.getElem_cons_succ, List.getElem_cons_zero, List.setIfInBounds_toArray, List.set_cons_zero, List.set_cons_succ]
          refine wpAnyH_take (i := 29) (oi := _) (v := ?_) rfl (by kernel_rfl) (by kernel_rfl) (by kernel_rfl) (fun _ _ _ h => h) (Or.inl ⟨by rfl, ?_⟩) (by assumption) ?_
          rotate_left
          · intro w hSw
            try dsimp only at hSw
            try simp only [List.getElem_toArray, List.getElem_cons_succ, List.getElem_cons_zero]
            go_split_ands
            go_simp
            try with_reducible rfl
          try simp only [Act.put, List.getElem_toArray, List.getElem_cons_succ, List.getElem_cons_zero, List.setIfInBounds_toArray, List.set_cons_zero, List.set_cons_succ]
          refine wpAnyH_take (i := 30) (oi := _) (v := ?_) rfl (by kernel_rfl) (by kernel_rfl) (by kernel_rfl) (fun _ _ _ h => h) (Or.inl ⟨by rfl, ?_⟩) (by assumption) ?_
          rotate_left
          · intro w hSw
            try dsimp only at hSw
            try simp only [List.getElem_toArray, List.getElem_cons_succ, List.getElem_cons_zero]
            go_split_ands
            go_simp
            try with_reducible rfl
          try simp only [Act.put, List.getElem_toArray, List.getElem_cons_succ, List.getElem_cons_zero, List.setIfInBounds_toArray, List.set_cons_zero, List.set_cons_succ]
          refine wpAnyH_take (i := 31) (oi := _) (v := ?_) rfl (by kernel_rfl) (by kernel_rfl) (by kernel_rfl) (fun _ _ _ h => h) (Or.inl ⟨by rfl, ?_⟩) (by assumption) ?_
          rotate_left
          · intro w hSw
            try dsimp only at hSw
            try simp only [List.getElem_toArray, List.getElem_cons_succ, List.getElem_cons_zero]
            go_split_ands
            go_simp
            try with_reducible rfl
          try simp only [Act.put, List.getElem_toArray, List.getElem_cons_succ, List.getElem_cons_zero, List.setIfInBounds_toArray, List.set_cons_zero, List.set_cons_succ]
          refine wpAnyH_take (i := 32) (oi := _) (v := ?_) rfl (by kernel_rfl) (by kernel_rfl) (by kernel_rfl) (fun _ _ _ h => h) (Or.inl ⟨by rfl, ?_⟩) (by assumption) ?_
          rotate_left
          · intro w hSw
            try dsimp only at hSw
            try simp only [List.getElem_toArray, List.getElem_cons_succ, List.getElem_cons_zero]
            go_split_ands
            go_simp
            try with_reducible rfl
          try simp only [Act.put, List.getElem_toArray, List.getElem_cons_succ, List.getElem_cons_zero, List.setIfInBounds_toArray, List.set_cons_zero, List.set_cons_succ]
          refine wpAnyH_take (i := 33) (oi := _) (v := ?_) rfl (by kernel_rfl) (by kernel_rfl) (by kernel_rfl) (fun _ _ _ h => h) (Or.inl ⟨by rfl, ?_⟩) (by assumption) ?_
          rotate_left
          · intro w hSw
            try dsimp only at hSw
            try simp only [List.getElem_toArray, List.getElem_cons_succ, List.getElem_cons_zero]
            go_split_ands
            go_simp
            try with_reducible rfl
          try simp only [Act.put, List.getElem_toArray, List.getElem_cons_succ, List.getElem_cons_zero, List.setIfInBounds_toArray, List.set_cons_zero, List.set_cons_succ]
          refine wpAnyH_take (i := 34) (oi := _) (v := ?_) rfl (by kernel_rfl) (by kernel_rfl) (by kernel_rfl) (fun _ _ _ h => h) (Or.inl ⟨by rfl, ?_⟩) (by assumption) ?_
          rotate_left
          · intro w hSw
            try dsimp only at hSw
            try simp only [List.getElem_toArray, List.getElem_cons_succ, List.getElem_cons_zero]
            go_split_ands
            go_simp
            try with_reducible rfl
          try simp only [Act.put, List.getElem_toArray, List.getElem_cons_succ, List.getElem_cons_zero, List.setIfInBounds_toArray, List.set_cons_zero, List.set_cons_succ]
          refine wpAnyH_take (i := 35) (oi := _) (v := ?_) rfl (by kernel_rfl) (by kernel_rfl) (by kernel_rfl) (fun _ _ _ h => h) (Or.inl ⟨by rfl, ?_⟩) (by assumption) ?_
          rotate_left
          · intro w hSw
            try dsimp only at hSw
            try simp only [List.getElem_toArray, List.getElem_cons_succ, List.getElem_cons_zero]
            go_split_ands
            go_simp
            try with_reducible rfl
          try simp only [Act.put, List.getElem_toArray, List.getElem_cons_succ, List.getElem_cons_zero, List.setIfInBounds_toArray, List.set_cons_zero, List.set_cons_succ]
          refine wpAnyH_take (i := 36) (oi := _) (v := ?_) rfl (by kernel_rfl) (by kernel_rfl) (by kernel_rfl) (fun _ _ _ h => h) (Or.inl ⟨by rfl, ?_⟩) (by assumption) ?_
          rotate_left
          · intro w hSw
            try dsimp only at hSw
            try simp only [List.getElem_toArray, List.getElem_cons_succ, List.getElem_cons_zero]
            go_split_ands
            go_simp
            try with_reducible rfl
          try simp only [Act.put, List.getElem_toArray, List.getElem_cons_succ, List.getElem_cons_zero, List.setIfInBounds_toArray, List.set_cons_zero, List.set_cons_succ]
          refine wpAnyH_take (i := 37) (oi := _) (v := ?_) rfl (by kernel_rfl) (by kernel_rfl) (by kernel_rfl) (fun _ _ _ h => h) (Or.inl ⟨by rfl, ?_⟩) (by assumption) ?_
          rotate_left
          · intro w hSw
            try dsimp only at hSw
            try simp only [List.getElem_toArray, List.getElem_cons_succ, List.getElem_cons_zero]
            go_split_ands
            go_simp
            try with_reducible rfl
          try simp only [Act.put, List.getElem_toArray, List.getElem_cons_succ, List.getElem_cons_zero, List.setIfInBounds_toArray, List.set_cons_zero, List.set_cons_succ]
          refine wpAnyH_take (i := 38) (oi := _) (v := ?_) rfl (by kernel_rfl) (by kernel_rfl) (by kernel_rfl) (fun _ _ _ h => h) (Or.inl ⟨by rfl, ?_⟩) (by assumption) ?_
          rotate_left
          · intro w hSw
            try dsimp only at hSw
            try simp only [List.getElem_toArray, List.getElem_cons_succ, List.getElem_cons_zero]
            go_split_ands
            go_simp
            try with_reducible rfl
          try simp only [Act.put, List.getElem_toArray, List.getElem_cons_succ, List.getElem_cons_zero, List.setIfInBounds_toArray, List.set_cons_zero, List.set_cons_succ]
          refine wpAnyH_ready (rs := [11]) (by kernel_rfl) (by simp) ?_
          refine AllReadyH.cons (o := _) rfl (fun K hK => ?_) AllReadyH.nil
          simp only [List.getElem_toArray, List.getElem_cons_succ, List.getElem_cons_zero]
          go_simp
          refine (sum_any _ x).mono ?_
          rintro e w4 ⟨rfl, f4⟩
          go_wp2_with fail
          refine hK.out _ _ ⟨f4.cell p0 (by simp), f4.cell p1 (by simp), f4.cell p2 (by simp), f4.cell p3 (by simp), f4.cell p4 (by simp), f4.cell p5 (by simp), f4.cell p6 (by simp), f4.cell p7 (by simp), f4.cell p8 (by simp), f4.cell p9 (by simp), f4.cell p10 (by simp), f4.cell q0 (by simp), f4.cell q1 (by simp), f4.cell q2 (by simp), f4.cell q3 (by simp), f4.cell q4 (by simp), f4.cell q5 (by simp), f4.cell q6 (by simp)⟩ (fun hHeld => ?_)
          clear hK K
          try simp only [Act.put, List.getElem_toArray, List.getElem_cons_succ, List.getElem_cons_zero, List.setIfInBounds_toArray, List.set_cons_zero, List.set_cons_succ]
          refine wpAnyH_ready (rs := [39]) (by kernel_rfl) (by simp) ?_
          refine AllReadyH.cons (o := _) rfl (fun K hK => ?_) AllReadyH.nil
          simp only [List.getElem_toArray, List.getElem_cons_succ, List.getElem_cons_zero]
          go_simp
          have hsm : 0 ≤ sumV x.wait x.force x.good ∧ sumV x.wait x.force x.good ≤ 7 := by cases x.wait <;> cases x.force <;> cases x.good <;> decide
          rw [u8w x.kind e0 (by omega), u8w x.who e4 e5, u8w x.op e2 (by omega), u8w x.slot e6 e7, u8w x.stream e8 e9, u8w (x.gen / 256) (by omega) (by omega), u8w (x.dl / 256) (by omega) (by omega), u8w (x.n / 256) (by omega) (by omega), u8m x.gen, u8m x.dl, u8m x.n]
          refine hK.out _ _ ⟨((Fr.refl [] w4).alloc _).cell (f4.cell p0 (by simp)) (by simp), ((Fr.refl [] w4).alloc _).cell (f4.cell p1 (by simp)) (by simp), ((Fr.refl [] w4).alloc _).cell (f4.cell p2 (by simp)) (by simp), ((Fr.refl [] w4).alloc _).cell (f4.cell p3 (by simp)) (by simp), ((Fr.refl [] w4).alloc _).cell (f4.cell p4 (by simp)) (by simp), ((Fr.refl [] w4).alloc _).cell (f4.cell p5 (by simp)) (by simp), ((Fr.refl [] w4).alloc _).cell (f4.cell p6 (by simp)) (by simp), ((Fr.refl [] w4).alloc _).cell (f4.cell p7 (by simp)) (by simp), ((Fr.refl [] w4).alloc _).cell (f4.cell p8 (by simp)) (by simp), ((Fr.refl [] w4).alloc _).cell (f4.cell p9 (by simp)) (by simp), ((Fr.refl [] w4).alloc _).cell (f4.cell p10 (by simp)) (by simp), ((Fr.refl [] w4).alloc _).cell (f4.cell q0 (by simp)) (by simp), ((Fr.refl [] w4).alloc _).cell (f4.cell q1 (by simp)) (by simp), ((Fr.refl [] w4).alloc _).cell (f4.cell q2 (by simp)) (by simp), ((Fr.refl [] w4).alloc _).cell (f4.cell q3 (by simp)) (by simp), ((Fr.refl [] w4).alloc _).cell (f4.cell q4 (by simp)) (by simp), ((Fr.refl [] w4).alloc _).cell (f4.cell q5 (by simp)) (by simp), ((Fr.refl [] w4).alloc _).cell (f4.cell q6 (by simp)) (by simp)⟩ (fun hHeld => ?_)
          clear hK K
          try simp only [Act.put, List.getElem_toArray, List.getElem_cons_succ, List.getElem_cons_zero, List.setIfInBounds_toArray, List.set_cons_zero, List.set_cons_succ]
          refine wpAnyH_ready (rs := [40]) (by kernel_rfl) (by simp) ?_
          refine AllReadyH.cons (o := _) rfl (fun K hK => ?_) AllReadyH.nil
          simp only [List.getElem_toArray, List.getElem_cons_succ, List.getElem_cons_zero]
          rw [if_pos (by rfl)]
          have HO4 := owns_fr HO3.out ((((Fr.refl [] w3).drew.trans f4).alloc (.cells (x.form.map (Value.int .u8)).toArray 5)))
          have hlf := length_forms (L.take k)
          have hlk : (L.take k).length ≤ 1000 := by rw [List.length_take]; have := HLEN.out; omega
          have F4 := (F3.out.drew.trans f4).alloc (.cells (x.form.map (Value.int .u8)).toArray 5)
          refine wp_append_own _ _ _ 24 rfl w.heap.size 5 i0 (.int .u8 0) 1 1 Try.underlying24 hi hz0 hz1 hz2 rfl (by decide) _ _ _ rfl HO4 ⟨w4.heap.size, 0, none⟩ 12 12 (x.form.map (Value.int .u8)) rfl rfl (World.news_of_block (heap_alloc_new w4 _)) (fun u hu => by obtain ⟨z, _, rfl⟩ := List.mem_map.1 hu; rfl) (by unfold maxLen; omega) (by omega) F4.size ?_
          intro v5 w5 hown5 hgrow _
          refine hK.out _ _ ⟨hgrow.cell (((Fr.refl [] w4).alloc _).cell (f4.cell p0 (by simp)) (by simp)) hv6, hgrow.cell (((Fr.refl [] w4).alloc _).cell (f4.cell p1 (by simp)) (by simp)) hv6, hgrow.cell (((Fr.refl [] w4).alloc _).cell (f4.cell p2 (by simp)) (by simp)) hv6, hgrow.cell (((Fr.refl [] w4).alloc _).cell (f4.cell p3 (by simp)) (by simp)) hv6, hgrow.cell (((Fr.refl [] w4).alloc _).cell (f4.cell p4 (by simp)) (by simp)) hv6, hgrow.cell (((Fr.refl [] w4).alloc _).cell (f4.cell p5 (by simp)) (by simp)) hv6, hgrow.cell (((Fr.refl [] w4).alloc _).cell (f4.cell p6 (by simp)) (by simp)) hv6, hgrow.cell (((Fr.refl [] w4).alloc _).cell (f4.cell p7 (by simp)) (by simp)) hv6, hgrow.cell (((Fr.refl [] w4).alloc _).cell (f4.cell p8 (by simp)) (by simp)) hv6, hgrow.cell (((Fr.refl [] w4).alloc _).cell (f4.cell p9 (by simp)) (by simp)) hv6, hgrow.cell (((Fr.refl [] w4).alloc _).cell (f4.cell p10 (by simp)) (by simp)) hv6, hgrow.cell (((Fr.refl [] w4).alloc _).cell (f4.cell q0 (by simp)) (by simp)) hv7, hgrow.cell (((Fr.refl [] w4).alloc _).cell (f4.cell q1 (by simp)) (by simp)) hv7, hgrow.cell (((Fr.refl [] w4).alloc _).cell (f4.cell q2 (by simp)) (by simp)) hv7, hgrow.cell (((Fr.refl [] w4).alloc _).cell (f4.cell q3 (by simp)) (by simp)) hv7, hgrow.cell (((Fr.refl [] w4).alloc _).cell (f4.cell q4 (by simp)) (by simp)) hv7, hgrow.cell (((Fr.refl [] w4).alloc _).cell (f4.cell q5 (by simp)) (by simp)) hv7, hgrow.cell (((Fr.refl [] w4).alloc _).cell (f4.cell q6 (by simp)) (by simp)) hv7⟩ (fun hHeld => ?_)
          clear hK K
          try simp only [Act.put, List.getElem_toArray, List.getElem_cons_succ, List.getElem_cons_zero, List.setIfInBounds_toArray, List.set_cons_zero, List.set_cons_succ]
          refine wpAnyH_take (i := 41) (oi := _) (v := ?_) rfl (by kernel_rfl) (by kernel_rfl) (by kernel_rfl) (fun _ _ _ h => h) (Or.inl ⟨by rfl, ?_⟩) (by assumption) ?_
          rotate_left
          · intro w hSw
            try dsimp only at hSw
            try simp only [List.getElem_toArray, List.getElem_cons_succ, List.getElem_cons_zero]
            go_split_ands
            go_simp
            try with_reducible rfl
          try simp only [Act.put, List.getElem_toArray, List.getElem_cons_succ, List.getElem_cons_zero, List.setIfInBounds_toArray, List.set_cons_zero, List.set_cons_succ]
          refine wpAnyH_done (by kernel_rfl) ?_ _
          have hT : OwnB w.heap.size w5 v5 (forms (L.take (k + 1))) := by rw [take_snocE HX.out, forms_snoc]; unfold OwnB; rw [List.length_append, List.map_append]; exact hown5
          have hKK : ∀ y ∈ L.take (k + 1), y.ok := fun y hy => by rw [take_snocE HX.out, List.mem_append, List.mem_singleton] at hy; rcases hy with hy | rfl; exact HK.out y hy; exact HXO.out
          have hF5 : Fr [] w w5 := F4.grown hgrow (fun k hk => .inr (HO4.lt k hk).1)
          have HT := Lib.hid hT; have HKK := Lib.hid hKK; have HF5 := Lib.hid hF5
          clear hT hKK hF5 hgrow hown5 HO4 F4 hHeld
          go_wp2
          go_roundw
          case rel => exact ⟨k + 1, by omega, by go_num, HT.out, HKK.out, HF5.out⟩
          case measure => simp [intOf]; omega
        · rw [decide_eq_false hxok]
          have HP := Lib.hid (show EncPost w L (.returned (.tuple #[.slice none 0 0, .int .i64 1])) w2 from ⟨F02.out, .inr (.inl ⟨by have := HLEN.out; omega, fun h => hxok (h x (List.mem_of_getElem? HX.out)), rfl⟩)⟩)
          clear hxok
          go_wp2
          go_ret2
          exact HP.out
      · have hkL : L.take k = L := List.take_of_length_le (by have := HLEN.out; omega)
        have HP := HO.out
        have HQ := HK.out
        rw [hkL] at HP HQ
        have HF := Lib.hid (enc_of_own f (by have := HLEN.out; omega) HQ HP)
        clear HP HQ hkL
        go_wp2
        go_ret2
        exact HF.out

end Go.Proofs.Ytphnjgkaapfocaa

/- The document's memory of a pool (coachhouseref14.Made): a small conf, and words, as many as its cells. -/
import Derived.Test.YtnjoefanafjniaaTwS
import Derived.Deep.RegionHeld3
import Derived.Deep.OwnRows
namespace Go.Proofs.Ytnjoefanafjniaa
open Go.RowKit

/-- Small numbers that lie in a slice. -/
def ByAt (w : World) (g : Option Addr) (n : Nat) : Prop := ∀ j, j < n → ∃ (b o : Nat) (x : Int), g = some ⟨b, o, none⟩ ∧ w.cell? ⟨b, o + j, none⟩ = some (.int .u8 x) ∧ 0 ≤ x ∧ x ≤ 255
/-- Slots that lie in a slice. -/
def SlAt (w : World) (g : Option Addr) (n : Nat) : Prop := ∀ j, j < n → ∃ (b o : Nat) (s : SlotV), g = some ⟨b, o, none⟩ ∧ ∀ (i : Nat) (v : Value), s.cells[i]? = some v → w.cell? ⟨b, o + j * 9 + i, none⟩ = some v
/-- What is given: small numbers, slots, first cells, pins. -/
structure GivV where
  a : Int
  b : Int
  c : Int
  d : Int
  e : Int
  gs : Option Addr
  ns : Nat
  cs : Nat
  gf : Option Addr
  nf : Nat
  cf : Nat
  gp : Option Addr
  np : Nat
  cp : Nat
def GivV.val (g : GivV) : Value := .agg #[.int .u8 g.a, .int .u8 g.b, .int .u8 g.c, .int .u8 g.d, .int .u8 g.e, .slice g.gs g.ns g.cs, .slice g.gf g.nf g.cf, .slice g.gp g.np g.cp]
def GivV.right (w : World) (g : GivV) : Prop := (0 ≤ g.a ∧ g.a ≤ 255) ∧ (0 ≤ g.b ∧ g.b ≤ 255) ∧ (0 ≤ g.c ∧ g.c ≤ 255) ∧ (0 ≤ g.d ∧ g.d ≤ 255) ∧ (0 ≤ g.e ∧ g.e ≤ 255) ∧ SlAt w g.gs g.ns ∧ ByAt w g.gf g.nf ∧ ByAt w g.gp g.np ∧
  g.ns ≤ 9223372036854775807 ∧ g.nf ≤ 9223372036854775807 ∧ g.np ≤ 9223372036854775807
/-- A row of n numbers at block q. -/
def RowAt (w : World) (q n : Nat) : Prop := ∃ cur : Array Value, w.heap[q]? = some (.cells cur 3 (0, 0)) ∧ cur.size = n ∧ ∀ i, i < n → ∃ x : Int, cur[i]? = some (.int .i64 x)
theorem RowAt.fr {w w' : World} {q n : Nat} (h : RowAt w q n) (f : Fr [] w w') : RowAt w' q n := by obtain ⟨cur, h1, h2, h3⟩ := h; exact ⟨cur, f.at h1 (by simp), h2, h3⟩
theorem RowAt.put {w : World} {q n : Nat} (h : RowAt w q n) (i : Nat) (x : Int) : RowAt (w.setCell ⟨q, i, none⟩ (.int .i64 x)) q n := by
  obtain ⟨cur, h1, h2, h3⟩ := h
  refine ⟨_, heap_setCell_same h1 _, by simpa using h2, fun j hj => ?_⟩
  rw [Array.getElem?_setIfInBounds]
  split
  · split
    · exact ⟨x, rfl⟩
    · rename_i hlt; rename_i e; subst e; exact absurd (by omega) hlt
  · exact h3 j hj
theorem RowAt.cell {w : World} {q n : Nat} (h : RowAt w q n) {i : Nat} (hi : i < n) : (∃ x : Int, w.cell? ⟨q, i, none⟩ = some (.int .i64 x)) ∧ w.frozen? ⟨q, i, none⟩ = false := by
  obtain ⟨cur, h1, h2, h3⟩ := h
  obtain ⟨x, hx⟩ := h3 i hi
  exact ⟨⟨x, cell_of h1 hx⟩, frozen_of h1⟩
theorem RowAt.ints {w : World} {q n : Nat} (h : RowAt w q n) (hn : n ≤ 1000) : ∃ L : List Int, L.length = n ∧ IntsAt w (some ⟨q, 0, none⟩) L := by
  obtain ⟨cur, h1, h2, h3⟩ := h
  obtain ⟨L, hL, hp⟩ : ∃ L : List Int, L.length = n ∧ ∀ (j : Nat) (x : Int), L[j]? = some x → cur[j]? = some (.int .i64 x) := by
    have : ∀ m, m ≤ n → ∃ L : List Int, L.length = m ∧ ∀ (j : Nat) (x : Int), L[j]? = some x → cur[j]? = some (.int .i64 x) := by
      intro m
      induction m with
      | zero => intro _; exact ⟨[], rfl, fun j x hx => by simp at hx⟩
      | succ m ih =>
        intro hm
        obtain ⟨L, hL, hp⟩ := ih (by omega)
        obtain ⟨x, hx⟩ := h3 m (by omega)
        refine ⟨L ++ [x], by simp [hL], fun j y hy => ?_⟩
        rw [List.getElem?_append] at hy
        split at hy
        · exact hp j y hy
        · rename_i hge
          have hj : j = m := by have := (List.getElem?_eq_some_iff.1 hy).1; simp at this; omega
          subst hj
          rw [hL, Nat.sub_self] at hy
          simp at hy
          subst hy; exact hx
    exact this n (Nat.le_refl _)
  exact ⟨L, hL, by omega, fun j x hx => ⟨q, 0, rfl, by rw [Nat.zero_add]; exact cell_of h1 (hp j x hx)⟩⟩
/-- What Made leaves: a small conf, and words. -/
def MadePost (w : World) (e : Ending) (w' : World) : Prop := ∃ (c : ConfV) (q n : Nat), e = .returned (.tuple #[c.val, .slice (some ⟨q, 0, none⟩) n n]) ∧ c.small ∧ (n : Int) = c.cells ∧ w.heap.size ≤ q ∧ RowAt w' q n ∧ Fr [] w w'

def mkW (W : World) (n : Nat) : World := W.alloc (.cells (madeCells #[Value.int .i64 0] n) 3)
theorem madeRow (w : World) (n : Nat) : RowAt (mkW w n) w.heap.size n :=
  ⟨_, heap_alloc_new w _, by simp [size_madeCells], fun i hi => ⟨0, by unfold madeCells; rw [Array.getElem?_map, Array.getElem?_range, if_pos hi]; simp [Nat.mod_one]⟩⟩

/-- What lies there while words are made. -/
structure MadeSt (w : World) (G : Array Value) (b4 q n : Nat) (C : Array Value) (wr : World) : Prop where
  g : wr.heap[w.heap.size]? = some (.cells G 27)
  r : wr.heap[w.heap.size + 1]? = some (.cells #[.int .i64 0, .int .i64 0, .int .i64 0, .int .i64 0, .int .i64 0] 31)
  c : wr.heap[b4]? = some (.cells C 31)
  row : RowAt wr q n
  hq : w.heap.size + 1 < q ∧ b4 < q
  f : Fr [] w wr
theorem MadeSt.fr {w : World} {G C : Array Value} {b4 q n : Nat} {wr w' : World} (h : MadeSt w G b4 q n C wr) (f : Fr [] wr w') : MadeSt w G b4 q n C w' :=
  ⟨f.at h.g (by simp), f.at h.r (by simp), f.at h.c (by simp), h.row.fr f, h.hq, h.f.trans f⟩
theorem MadeSt.put {w : World} {G C : Array Value} {b4 q n : Nat} {wr : World} (h : MadeSt w G b4 q n C wr) (i : Nat) (x : Int) : MadeSt w G b4 q n C (wr.setCell ⟨q, i, none⟩ (.int .i64 x)) :=
  ⟨heap_setCell_ne h.g (by have := h.hq; show w.heap.size ≠ q; omega) _, heap_setCell_ne h.r (by have := h.hq; show w.heap.size + 1 ≠ q; omega) _, heap_setCell_ne h.c (by have := h.hq; show b4 ≠ q; omega) _, h.row.put i x, h.hq, h.f.setCell (.inr (by have := h.hq; show w.heap.size ≤ q; omega)) _⟩
theorem MadeSt.drew {w : World} {G C : Array Value} {b4 q n : Nat} {wr : World} (h : MadeSt w G b4 q n C wr) : MadeSt w G b4 q n C wr.drew := h.fr (Fr.refl [] wr).drew

def endW (wr : World) (b : Nat) (x0 x1 x2 x3 x4 : Value) : World := ((((wr.setCell ⟨b, 0, none⟩ x0).setCell ⟨b, 1, none⟩ x1).setCell ⟨b, 2, none⟩ x2).setCell ⟨b, 3, none⟩ x3).setCell ⟨b, 4, none⟩ x4
theorem made_end {w : World} {G C : Array Value} {b4 q n : Nat} {wr : World} (h : MadeSt w G b4 q n C wr) (x0 x1 x2 x3 x4 : Value) :
    (endW wr (w.heap.size + 1) x0 x1 x2 x3 x4).heap[w.heap.size + 1]? = some (.cells #[x0, x1, x2, x3, x4] 31) ∧ RowAt (endW wr (w.heap.size + 1) x0 x1 x2 x3 x4) q n ∧ Fr [] w (endW wr (w.heap.size + 1) x0 x1 x2 x3 x4) := by
  have hq := h.hq
  refine ⟨?_, ?_, ?_⟩
  · have h0 := heap_setCell_same (i := 0) h.r x0
    have h1 := heap_setCell_same (i := 1) h0 x1
    have h2 := heap_setCell_same (i := 2) h1 x2
    have h3 := heap_setCell_same (i := 3) h2 x3
    have h4 := heap_setCell_same (i := 4) h3 x4
    exact h4
  · obtain ⟨cur, r1, r2, r3⟩ := h.row
    refine ⟨cur, ?_, r2, r3⟩
    have hne : q ≠ w.heap.size + 1 := by omega
    exact heap_setCell_ne (heap_setCell_ne (heap_setCell_ne (heap_setCell_ne (heap_setCell_ne r1 hne _) hne _) hne _) hne _) hne _
  · have hle : ([] : List Nat) = [] := rfl
    exact ((((h.f.setCell (.inr (by show w.heap.size ≤ w.heap.size + 1; omega)) _).setCell (.inr (by show w.heap.size ≤ w.heap.size + 1; omega)) _).setCell (.inr (by show w.heap.size ≤ w.heap.size + 1; omega)) _).setCell (.inr (by show w.heap.size ≤ w.heap.size + 1; omega)) _).setCell (.inr (by show w.heap.size ≤ w.heap.size + 1; omega)) _

set_option maxHeartbeats 8000000 in
set_option maxRecDepth 100000 in
theorem made_any (w : World) (g : GivV) (hg : g.right w) : Calls Try.prog 9 #[g.val] w (MadePost w) := by
  obtain ⟨a, b, c, d, e, gs, ns, cs, gf, nf, cf, gp, np, cp⟩ := g
  obtain ⟨ha, hb, hc, hd, he, hS, hF, hP, ls, lf, lp⟩ := hg
  simp only at ha hb hc hd he hS hF hP ls lf lp
  unfold GivV.val
  have HS := Lib.hid hS; have HFF := Lib.hid hF; have HPP := Lib.hid hP; clear hS hF hP
  have hconf := Lib.hid (fun W : World => rconf_any W a b c d e ha hb hc hd he)
  clear ha hb hc hd he
  have hbk := heap_alloc_new w (.cells #[.int .u8 a, .int .u8 b, .int .u8 c, .int .u8 d, .int .u8 e, .slice gs ns cs, .slice gf nf cf, .slice gp np cp] 27)
  have HBK := Lib.hid hbk; clear hbk
  go_enter Try.func9, Try.ntmps9
  go_wp2_with fail
  refine (hconf.out _).mono ?_
  rintro en w1 ⟨cv, rfl, hsm, f1⟩
  have hb1 := f1.at (heap_alloc_keep HBK.out (.cells #[.int .i64 0, .int .i64 0, .int .i64 0, .int .i64 0, .int .i64 0] 31)) (by simp)
  have hb2 := f1.at (heap_alloc_new (w.alloc (.cells #[.int .u8 a, .int .u8 b, .int .u8 c, .int .u8 d, .int .u8 e, .slice gs ns cs, .slice gf nf cf, .slice gp np cp] 27)) (.cells #[.int .i64 0, .int .i64 0, .int .i64 0, .int .i64 0, .int .i64 0] 31)) (by simp)
  rw [World.size_alloc] at hb2
  have F1 := (((Fr.refl [] w).alloc (.cells #[.int .u8 a, .int .u8 b, .int .u8 c, .int .u8 d, .int .u8 e, .slice gs ns cs, .slice gf nf cf, .slice gp np cp] 27)).alloc (.cells #[.int .i64 0, .int .i64 0, .int .i64 0, .int .i64 0, .int .i64 0] 31)).trans f1
  have hs1 := f1.size
  simp only [World.size_alloc] at hs1
  have HCE := Lib.hid (fun W : World => rcells_any W cv hsm)
  have HSM := Lib.hid hsm
  obtain ⟨wo, sl, st, wa, us⟩ := cv
  obtain ⟨⟨a0, a1⟩, ⟨b0, b1⟩, -⟩ := hsm
  unfold ConfV.val at HCE ⊢
  simp only at HCE a0 a1 b0 b1
  obtain ⟨n, hn⟩ : ∃ n : Nat, ConfV.cells ⟨wo, sl, st, wa, us⟩ = (n : Int) := ⟨(ConfV.cells ⟨wo, sl, st, wa, us⟩).toNat, by unfold ConfV.cells; simp only; omega⟩
  have hn1 : 3 + 2 * wo + sl = (n : Int) := hn
  have HN := Lib.hid hn
  rw [hn] at HCE
  have hmk : ∀ W : World, (Instr.makeSlice 32 (.int .i64 (n : Int)) (.int .i64 (n : Int))).run Try.prog W = .ok (.slice (some ⟨W.heap.size, 0, none⟩) n n) (mkW W n) := run_make_row' (P := Try.prog) 32 3 (.int .i64 0) 8 Try.underlying32 info_int rfl .i64 .i64 n (by omega) (by omega)
  have HB1 := Lib.hid hb1; have HB2 := Lib.hid hb2; have HF1 := Lib.hid F1
  clear hn f1 hb1 hb2 F1
  go_wp2_with fail
  refine (HCE.out _).mono ?_
  rintro en w2 ⟨rfl, f2⟩
  obtain ⟨GX, hGX⟩ : ∃ GX : Array Value, GX = #[.int .u8 a, .int .u8 b, .int .u8 c, .int .u8 d, .int .u8 e, .slice gs ns cs, .slice gf nf cf, .slice gp np cp] := ⟨_, rfl⟩
  have HGX := Lib.hid hGX
  have hst : MadeSt w GX w1.heap.size w2.heap.size n #[.int .i64 wo, .int .i64 sl, .int .i64 st, .int .i64 wa, .int .i64 us] (mkW w2 n) := by
    have f12 := ((Fr.refl [] w1).alloc (.cells #[.int .i64 wo, .int .i64 sl, .int .i64 st, .int .i64 wa, .int .i64 us] 31)).trans f2
    have hs2 := f2.size
    rw [World.size_alloc] at hs2
    exact ⟨by rw [hGX]; exact heap_alloc_keep (f12.at HB1.out (by simp)) _, heap_alloc_keep (f12.at HB2.out (by simp)) _, heap_alloc_keep (f2.at (heap_alloc_new w1 _) (by simp)) _, madeRow w2 n, ⟨by omega, by omega⟩, (HF1.out.trans f12).alloc _⟩
  have HST := Lib.hid hst
  obtain ⟨b4, hb4⟩ : ∃ b4, b4 = w1.heap.size := ⟨_, rfl⟩
  rw [← hb4] at HST
  rw [← hb4]
  clear hst f2 hs1 hb4 hGX
  have g5 : (mkW w2 n).cell? ⟨w.heap.size, 5, none⟩ = some (.slice gs ns cs) := cell_of HST.out.g (by rw [HGX.out]; rfl)
  have g6 : (mkW w2 n).cell? ⟨w.heap.size, 6, none⟩ = some (.slice gf nf cf) := cell_of HST.out.g (by rw [HGX.out]; rfl)
  have g7 : (mkW w2 n).cell? ⟨w.heap.size, 7, none⟩ = some (.slice gp np cp) := cell_of HST.out.g (by rw [HGX.out]; rfl)
  have k0 : (mkW w2 n).cell? ⟨b4, 0, none⟩ = some (.int .i64 wo) := cell_of HST.out.c rfl
  have k1 : (mkW w2 n).cell? ⟨b4, 1, none⟩ = some (.int .i64 sl) := cell_of HST.out.c rfl
  have k2 : (mkW w2 n).cell? ⟨b4, 2, none⟩ = some (.int .i64 st) := cell_of HST.out.c rfl
  have k3 : (mkW w2 n).cell? ⟨b4, 3, none⟩ = some (.int .i64 wa) := cell_of HST.out.c rfl
  have k4 : (mkW w2 n).cell? ⟨b4, 4, none⟩ = some (.int .i64 us) := cell_of HST.out.c rfl
  have rq0 := (HST.out.row.cell (i := 0) (by omega)); have rq2 := (HST.out.row.cell (i := 2) (by omega))
  obtain ⟨⟨z0, u0⟩, v0⟩ := rq0
  obtain ⟨⟨z2, u2⟩, v2⟩ := rq2
  by_cases hnf : (nf : Int) = 2
  · obtain ⟨fb, fo, x0, rfl, cf0, l0, h0⟩ := HFF.out 0 (by omega)
    obtain ⟨fb', fo', x1, e1, cf1, l1, h1⟩ := HFF.out 1 (by omega)
    simp only [Option.some.injEq, Addr.mk.injEq, and_true] at e1
    obtain ⟨rfl, rfl⟩ := e1
    rw [Nat.add_zero] at cf0
    have y0 := HST.out.f.cell cf0 (by simp)
    have HST4 := Lib.hid (HST.out.put 0 (x0 % 3))
    have HST5 := Lib.hid (HST4.out.put 2 x1)
    have y6 := cell_of (i := 6) (v := .slice (some ⟨fb, fo, none⟩) nf cf) HST4.out.g (by rw [HGX.out]; rfl)
    have y1 := HST4.out.f.cell cf1 (by simp)
    obtain ⟨⟨z2', w20⟩, w21⟩ := HST4.out.row.cell (i := 2) (by omega)
    have hq0 : 0 ≤ x0 % 3 ∧ x0 % 3 ≤ 2 := by omega
    clear cf0 cf1 HFF
    go_wp2_with fail
    go_loopw [6] (fun i wr => ∃ k : Nat, k ≤ 4 ∧ i = .int .i64 (k : Int) ∧ MadeSt w GX b4 w2.heap.size n #[.int .i64 wo, .int .i64 sl, .int .i64 st, .int .i64 wa, .int .i64 us] wr) (fun i _ => 5 - (intOf i).toNat)
    case atStart => exact ⟨0, by omega, rfl, HST5.out⟩
    case round =>
      clear g5 g6 g7 k0 k1 k2 k3 k4 u0 v0 u2 v2 y0 y6 y1 w20 w21 hmk
      obtain ⟨k, hk, rfl, hM⟩ := hrel
      have HM := Lib.hid hM; clear hM
      have g5 : wr.cell? ⟨w.heap.size, 5, none⟩ = some (.slice gs ns cs) := cell_of HM.out.g (by rw [HGX.out]; rfl)
      have g7 : wr.cell? ⟨w.heap.size, 7, none⟩ = some (.slice gp np cp) := cell_of HM.out.g (by rw [HGX.out]; rfl)
      have k0 : wr.cell? ⟨b4, 0, none⟩ = some (.int .i64 wo) := cell_of HM.out.c rfl
      have k1 : wr.cell? ⟨b4, 1, none⟩ = some (.int .i64 sl) := cell_of HM.out.c rfl
      have k2 : wr.cell? ⟨b4, 2, none⟩ = some (.int .i64 st) := cell_of HM.out.c rfl
      have k3 : wr.cell? ⟨b4, 3, none⟩ = some (.int .i64 wa) := cell_of HM.out.c rfl
      have k4 : wr.cell? ⟨b4, 4, none⟩ = some (.int .i64 us) := cell_of HM.out.c rfl
      by_cases hkw : (k : Int) < wo
      · by_cases hkp : (k : Int) < (np : Int)
        · obtain ⟨pb, po, x, rfl, cfx, lx, hx⟩ := HPP.out k (by omega)
          have cx := HM.out.f.cell cfx (by simp)
          have vx : IntKind.i64.wrap x = x := by rw [IntKind.wrap_i64]; omega
          have i1 : 0 ≤ 3 + (k : Int) := by omega
          have i2 : 3 + (k : Int) < (n : Int) := by omega
          have i3 : (3 + (k : Int)).toNat = 3 + k := by omega
          have hk0 : (0 : Int) ≤ (k : Int) := by omega
          go_wp2_with fail
          refine wp_region_held_drew (S := fun w' => w'.cell? ⟨b4, 0, none⟩ = some (.int .i64 wo) ∧ w'.cell? ⟨b4, 1, none⟩ = some (.int .i64 sl) ∧ w'.cell? ⟨b4, 2, none⟩ = some (.int .i64 st) ∧ w'.cell? ⟨b4, 3, none⟩ = some (.int .i64 wa) ∧ w'.cell? ⟨b4, 4, none⟩ = some (.int .i64 us) ∧ w'.cell? ⟨w.heap.size, 7, none⟩ = some (.slice (some ⟨pb, po, none⟩) np cp) ∧ w'.cell? ⟨pb, po + k, none⟩ = some (.int .u8 x)) (by kernel_rfl) ⟨k0, k1, k2, k3, k4, g7, cx⟩ (fun hHeld => ?_)
          refine wpAnyH_take (i := 0) (oi := _) (v := ?_) rfl (by kernel_rfl) (by kernel_rfl) (by kernel_rfl) (fun _ _ _ h => h) (Or.inl ⟨by rfl, ?_⟩) (by assumption) ?_
          rotate_left
          · intro w hSw
            try dsimp only at hSw
            try simp only [List.getElem_toArray, List.getElem_cons_zero]
            go_split_ands
            go_simp
            try with_reducible rfl
          try simp only [Act.put, List.getElem_toArray, List.getElem_cons_zero, List.setIfInBounds_toArray, List.set_cons_zero, List.set_cons_succ]
          refine wpAnyH_take (i := 1) (oi := _) (v := ?_) rfl (by kernel_rfl) (by kernel_rfl) (by kernel_rfl) (fun _ _ _ h => h) (Or.inl ⟨by rfl, ?_⟩) (by assumption) ?_
          rotate_left
          · intro w hSw
            try dsimp only at hSw
            try simp only [List.getElem_toArray, List.getElem_cons_succ, List.getElem_cons_zero]
            go_split_ands
            go_simp
            try with_reducible rfl
          try simp only [Act.put, List.getElem_toArray, List.getElem_cons_succ, List.getElem_cons_zero, List.setIfInBounds_toArray, List.set_cons_zero, List.set_cons_succ]
          refine wpAnyH_take (i := 2) (oi := _) (v := ?_) rfl (by kernel_rfl) (by kernel_rfl) (by kernel_rfl) (fun _ _ _ h => h) (Or.inl ⟨by rfl, ?_⟩) (by assumption) ?_
          rotate_left
          · intro w hSw
            try dsimp only at hSw
            try simp only [List.getElem_toArray, List.getElem_cons_succ, List.getElem_cons_zero]
            go_split_ands
            go_simp
            try with_reducible rfl
          try simp only [Act.put, List.getElem_toArray, List.getElem_cons_succ, List.getElem_cons_zero, List.setIfInBounds_toArray, List.set_cons_zero, List.set_cons_succ]
          refine wpAnyH_take (i := 4) (oi := _) (v := ?_) rfl (by kernel_rfl) (by kernel_rfl) (by kernel_rfl) (fun _ _ _ h => h) (Or.inl ⟨by rfl, ?_⟩) (by assumption) ?_
          rotate_left
          · intro w hSw
            try dsimp only at hSw
            try simp only [List.getElem_toArray, List.getElem_cons_succ, List.getElem_cons_zero]
            go_split_ands
            go_simp
            try with_reducible rfl
          try simp only [Act.put, List.getElem_toArray, List.getElem_cons_succ, List.getElem_cons_zero, List.setIfInBounds_toArray, List.set_cons_zero, List.set_cons_succ]
          refine wpAnyH_take (i := 5) (oi := _) (v := ?_) rfl (by kernel_rfl) (by kernel_rfl) (by kernel_rfl) (fun _ _ _ h => h) (Or.inl ⟨by rfl, ?_⟩) (by assumption) ?_
          rotate_left
          · intro w hSw
            try dsimp only at hSw
            try simp only [List.getElem_toArray, List.getElem_cons_succ, List.getElem_cons_zero]
            go_split_ands
            go_simp
            try with_reducible rfl
          try simp only [Act.put, List.getElem_toArray, List.getElem_cons_succ, List.getElem_cons_zero, List.setIfInBounds_toArray, List.set_cons_zero, List.set_cons_succ]
          refine wpAnyH_take (i := 6) (oi := _) (v := ?_) rfl (by kernel_rfl) (by kernel_rfl) (by kernel_rfl) (fun _ _ _ h => h) (Or.inl ⟨by rfl, ?_⟩) (by assumption) ?_
          rotate_left
          · intro w hSw
            try dsimp only at hSw
            try simp only [List.getElem_toArray, List.getElem_cons_succ, List.getElem_cons_zero]
            go_split_ands
            go_simp
            try with_reducible rfl
          try simp only [Act.put, List.getElem_toArray, List.getElem_cons_succ, List.getElem_cons_zero, List.setIfInBounds_toArray, List.set_cons_zero, List.set_cons_succ]
          refine wpAnyH_take (i := 7) (oi := _) (v := ?_) rfl (by kernel_rfl) (by kernel_rfl) (by kernel_rfl) (fun _ _ _ h => h) (Or.inl ⟨by rfl, ?_⟩) (by assumption) ?_
          rotate_left
          · intro w hSw
            try dsimp only at hSw
            try simp only [List.getElem_toArray, List.getElem_cons_succ, List.getElem_cons_zero]
            go_split_ands
            go_simp
            try with_reducible rfl
          try simp only [Act.put, List.getElem_toArray, List.getElem_cons_succ, List.getElem_cons_zero, List.setIfInBounds_toArray, List.set_cons_zero, List.set_cons_succ]
          refine wpAnyH_take (i := 8) (oi := _) (v := ?_) rfl (by kernel_rfl) (by kernel_rfl) (by kernel_rfl) (fun _ _ _ h => h) (Or.inl ⟨by rfl, ?_⟩) (by assumption) ?_
          rotate_left
          · intro w hSw
            try dsimp only at hSw
            try simp only [List.getElem_toArray, List.getElem_cons_succ, List.getElem_cons_zero]
            go_split_ands
            go_simp
            try with_reducible rfl
          try simp only [Act.put, List.getElem_toArray, List.getElem_cons_succ, List.getElem_cons_zero, List.setIfInBounds_toArray, List.set_cons_zero, List.set_cons_succ]
          refine wpAnyH_take (i := 9) (oi := _) (v := ?_) rfl (by kernel_rfl) (by kernel_rfl) (by kernel_rfl) (fun _ _ _ h => h) (Or.inl ⟨by rfl, ?_⟩) (by assumption) ?_
          rotate_left
          · intro w hSw
            try dsimp only at hSw
            try simp only [List.getElem_toArray, List.getElem_cons_succ, List.getElem_cons_zero]
            go_split_ands
            go_simp
            try with_reducible rfl
          try simp only [Act.put, List.getElem_toArray, List.getElem_cons_succ, List.getElem_cons_zero, List.setIfInBounds_toArray, List.set_cons_zero, List.set_cons_succ]
          refine wpAnyH_ready (rs := [3]) (by kernel_rfl) (by simp) ?_
          refine AllReadyH.cons (o := _) rfl (fun K hK => ?_) AllReadyH.nil
          simp only [List.getElem_toArray, List.getElem_cons_succ, List.getElem_cons_zero]
          go_simp
          refine (rpin_any _ ⟨wo, sl, st, wa, us⟩ k HSM.out (by omega) hkw).mono ?_
          rintro en w5 ⟨rfl, f5⟩
          have HM2 := Lib.hid (HM.out.drew.fr f5)
          obtain ⟨⟨z9, u9⟩, v9⟩ := HM2.out.row.cell (i := 3 + k) (by omega)
          go_wp2_with fail
          refine hK.out _ _ ⟨f5.cell k0 (by simp), f5.cell k1 (by simp), f5.cell k2 (by simp), f5.cell k3 (by simp), f5.cell k4 (by simp), f5.cell g7 (by simp), f5.cell cx (by simp)⟩ (fun hHeld => ?_)
          clear hK K
          try simp only [Act.put, List.getElem_toArray, List.getElem_cons_succ, List.getElem_cons_zero, List.setIfInBounds_toArray, List.set_cons_zero, List.set_cons_succ]
          refine wpAnyH_take (i := 10) (oi := _) (v := ?_) rfl (by kernel_rfl) (by kernel_rfl) (by kernel_rfl) (fun _ _ _ h => h) (Or.inl ⟨by rfl, ?_⟩) (by assumption) ?_
          rotate_left
          · intro w hSw
            try dsimp only at hSw
            try simp only [List.getElem_toArray, List.getElem_cons_succ, List.getElem_cons_zero]
            go_split_ands
            go_simp
            try with_reducible rfl
          try simp only [Act.put, List.getElem_toArray, List.getElem_cons_succ, List.getElem_cons_zero, List.setIfInBounds_toArray, List.set_cons_zero, List.set_cons_succ]
          refine wpAnyH_ready (rs := [11]) (by kernel_rfl) (by simp) ?_
          refine AllReadyH.cons (o := _) rfl (fun K hK => ?_) AllReadyH.nil
          simp only [List.getElem_toArray, List.getElem_cons_succ, List.getElem_cons_zero]
          go_simp
          have HM3 := Lib.hid (HM2.out.put (3 + k) x)
          refine hK.out _ _ ⟨cell_of HM3.out.c rfl, cell_of HM3.out.c rfl, cell_of HM3.out.c rfl, cell_of HM3.out.c rfl, cell_of HM3.out.c rfl, cell_of HM3.out.g (by rw [HGX.out]; rfl), HM3.out.f.cell cfx (by simp)⟩ (fun hHeld => ?_)
          clear hK K hHeld
          try simp only [Act.put, List.getElem_toArray, List.getElem_cons_succ, List.getElem_cons_zero, List.setIfInBounds_toArray, List.set_cons_zero, List.set_cons_succ]
          refine wpAnyH_done (by kernel_rfl) ?_ _
          go_wp2
          go_roundw
          case rel => exact ⟨k + 1, by omega, by go_num, HM3.out⟩
          case measure => simp [intOf]; omega
        · have HM0 := HM
          go_wp2
          clear HM g5 g7 k0 k1 k2 k3 k4
          go_loopw [7] (fun i wr => ∃ k : Nat, k ≤ 5 ∧ i = .int .i64 (k : Int) ∧ MadeSt w GX b4 w2.heap.size n #[.int .i64 wo, .int .i64 sl, .int .i64 st, .int .i64 wa, .int .i64 us] wr) (fun i _ => 6 - (intOf i).toNat)
          case atStart => exact ⟨0, by omega, rfl, HM0.out⟩
          case round =>
            obtain ⟨k, hk, rfl, hM⟩ := hrel
            have HM := Lib.hid hM; clear hM
            have g5 : wr.cell? ⟨w.heap.size, 5, none⟩ = some (.slice gs ns cs) := cell_of HM.out.g (by rw [HGX.out]; rfl)
            have g7 : wr.cell? ⟨w.heap.size, 7, none⟩ = some (.slice gp np cp) := cell_of HM.out.g (by rw [HGX.out]; rfl)
            have k0 : wr.cell? ⟨b4, 0, none⟩ = some (.int .i64 wo) := cell_of HM.out.c rfl
            have k1 : wr.cell? ⟨b4, 1, none⟩ = some (.int .i64 sl) := cell_of HM.out.c rfl
            have k2 : wr.cell? ⟨b4, 2, none⟩ = some (.int .i64 st) := cell_of HM.out.c rfl
            have k3 : wr.cell? ⟨b4, 3, none⟩ = some (.int .i64 wa) := cell_of HM.out.c rfl
            have k4 : wr.cell? ⟨b4, 4, none⟩ = some (.int .i64 us) := cell_of HM.out.c rfl
            by_cases hks : (k : Int) < sl
            · by_cases hkp : (k : Int) < (ns : Int)
              · obtain ⟨sb, so, s, rfl, cfs⟩ := HS.out k (by omega)
                have s0 : wr.cell? ⟨sb, so + k * 9, none⟩ = some (.int .i64 s.state) := HM.out.f.cell (cfs 0 _ rfl) (by simp)
                have s1 : wr.cell? ⟨sb, so + k * 9 + 1, none⟩ = some (.int .i64 s.own) := HM.out.f.cell (cfs 1 _ rfl) (by simp)
                have s2 : wr.cell? ⟨sb, so + k * 9 + 2, none⟩ = some (.int .i64 s.streams) := HM.out.f.cell (cfs 2 _ rfl) (by simp)
                have s3 : wr.cell? ⟨sb, so + k * 9 + 3, none⟩ = some (.bool s.broken) := HM.out.f.cell (cfs 3 _ rfl) (by simp)
                have s4 : wr.cell? ⟨sb, so + k * 9 + 4, none⟩ = some (.bool s.marked) := HM.out.f.cell (cfs 4 _ rfl) (by simp)
                have s5 : wr.cell? ⟨sb, so + k * 9 + 5, none⟩ = some (.int .i64 s.uses) := HM.out.f.cell (cfs 5 _ rfl) (by simp)
                have s6 : wr.cell? ⟨sb, so + k * 9 + 6, none⟩ = some (.int .i64 s.gen) := HM.out.f.cell (cfs 6 _ rfl) (by simp)
                have s7 : wr.cell? ⟨sb, so + k * 9 + 7, none⟩ = some (.int .i64 s.epoch) := HM.out.f.cell (cfs 7 _ rfl) (by simp)
                have s8 : wr.cell? ⟨sb, so + k * 9 + 8, none⟩ = some (.int .i64 s.version) := HM.out.f.cell (cfs 8 _ rfl) (by simp)
                obtain ⟨j9, hj9⟩ : ∃ j9 : Nat, 3 + 2 * wo + (k : Int) = (j9 : Int) := ⟨(3 + 2 * wo + (k : Int)).toNat, by omega⟩
                have hj1 : (j9 : Int) < (n : Int) := by omega
                have hk0 : (0 : Int) ≤ (k : Int) := by omega
                go_wp2_with fail
                refine wp_region_held_drew (S := fun w' => w'.cell? ⟨b4, 0, none⟩ = some (.int .i64 wo) ∧ w'.cell? ⟨b4, 1, none⟩ = some (.int .i64 sl) ∧ w'.cell? ⟨b4, 2, none⟩ = some (.int .i64 st) ∧ w'.cell? ⟨b4, 3, none⟩ = some (.int .i64 wa) ∧ w'.cell? ⟨b4, 4, none⟩ = some (.int .i64 us) ∧ w'.cell? ⟨w.heap.size, 5, none⟩ = some (.slice (some ⟨sb, so, none⟩) ns cs) ∧ w'.cell? ⟨sb, so + k * 9, none⟩ = some (.int .i64 s.state) ∧ w'.cell? ⟨sb, so + k * 9 + 1, none⟩ = some (.int .i64 s.own) ∧ w'.cell? ⟨sb, so + k * 9 + 2, none⟩ = some (.int .i64 s.streams) ∧ w'.cell? ⟨sb, so + k * 9 + 3, none⟩ = some (.bool s.broken) ∧ w'.cell? ⟨sb, so + k * 9 + 4, none⟩ = some (.bool s.marked) ∧ w'.cell? ⟨sb, so + k * 9 + 5, none⟩ = some (.int .i64 s.uses) ∧ w'.cell? ⟨sb, so + k * 9 + 6, none⟩ = some (.int .i64 s.gen) ∧ w'.cell? ⟨sb, so + k * 9 + 7, none⟩ = some (.int .i64 s.epoch) ∧ w'.cell? ⟨sb, so + k * 9 + 8, none⟩ = some (.int .i64 s.version)) (by kernel_rfl) ⟨k0, k1, k2, k3, k4, g5, s0, s1, s2, s3, s4, s5, s6, s7, s8⟩ (fun hHeld => ?_)
                refine wpAnyH_take (i := 0) (oi := _) (v := ?_) rfl (by kernel_rfl) (by kernel_rfl) (by kernel_rfl) (fun _ _ _ h => h) (Or.inl ⟨by rfl, ?_⟩) (by assumption) ?_
                rotate_left
                · intro w hSw
                  try dsimp only at hSw
                  try simp only [List.getElem_toArray, List.getElem_cons_zero]
                  go_split_ands
                  go_simp
                  try with_reducible rfl
                try simp only [Act.put, List.getElem_toArray, List.getElem_cons_zero, List.setIfInBounds_toArray, List.set_cons_zero, List.set_cons_succ]
                refine wpAnyH_take (i := 1) (oi := _) (v := ?_) rfl (by kernel_rfl) (by kernel_rfl) (by kernel_rfl) (fun _ _ _ h => h) (Or.inl ⟨by rfl, ?_⟩) (by assumption) ?_
                rotate_left
                · intro w hSw
                  try dsimp only at hSw
                  try simp only [List.getElem_toArray, List.getElem_cons_succ, List.getElem_cons_zero]
                  go_split_ands
                  go_simp
                  try with_reducible rfl
                try simp only [Act.put, List.getElem_toArray, List.getElem_cons_succ, List.getElem_cons_zero, List.setIfInBounds_toArray, List.set_cons_zero, List.set_cons_succ]
                refine wpAnyH_take (i := 2) (oi := _) (v := ?_) rfl (by kernel_rfl) (by kernel_rfl) (by kernel_rfl) (fun _ _ _ h => h) (Or.inl ⟨by rfl, ?_⟩) (by assumption) ?_
                rotate_left
                · intro w hSw
                  try dsimp only at hSw
                  try simp only [List.getElem_toArray, List.getElem_cons_succ, List.getElem_cons_zero]
                  go_split_ands
                  go_simp
                  try with_reducible rfl
                try simp only [Act.put, List.getElem_toArray, List.getElem_cons_succ, List.getElem_cons_zero, List.setIfInBounds_toArray, List.set_cons_zero, List.set_cons_succ]
                refine wpAnyH_take (i := 4) (oi := _) (v := ?_) rfl (by kernel_rfl) (by kernel_rfl) (by kernel_rfl) (fun _ _ _ h => h) (Or.inl ⟨by rfl, ?_⟩) (by assumption) ?_
                rotate_left
                · intro w hSw
                  try dsimp only at hSw
                  try simp only [List.getElem_toArray, List.getElem_cons_succ, List.getElem_cons_zero]
                  go_split_ands
                  go_simp
                  try with_reducible rfl
                try simp only [Act.put, List.getElem_toArray, List.getElem_cons_succ, List.getElem_cons_zero, List.setIfInBounds_toArray, List.set_cons_zero, List.set_cons_succ]
                refine wpAnyH_take (i := 5) (oi := _) (v := ?_) rfl (by kernel_rfl) (by kernel_rfl) (by kernel_rfl) (fun _ _ _ h => h) (Or.inl ⟨by rfl, ?_⟩) (by assumption) ?_
                rotate_left
                · intro w hSw
                  try dsimp only at hSw
                  try simp only [List.getElem_toArray, List.getElem_cons_succ, List.getElem_cons_zero]
                  go_split_ands
                  go_simp
                  try with_reducible rfl
                try simp only [Act.put, List.getElem_toArray, List.getElem_cons_succ, List.getElem_cons_zero, List.setIfInBounds_toArray, List.set_cons_zero, List.set_cons_succ]
                refine wpAnyH_take (i := 6) (oi := _) (v := ?_) rfl (by kernel_rfl) (by kernel_rfl) (by kernel_rfl) (fun _ _ _ h => h) (Or.inl ⟨by rfl, ?_⟩) (by assumption) ?_
                rotate_left
                · intro w hSw
                  try dsimp only at hSw
                  try simp only [List.getElem_toArray, List.getElem_cons_succ, List.getElem_cons_zero]
                  go_split_ands
                  go_simp
                  try with_reducible rfl
                try simp only [Act.put, List.getElem_toArray, List.getElem_cons_succ, List.getElem_cons_zero, List.setIfInBounds_toArray, List.set_cons_zero, List.set_cons_succ]
                refine wpAnyH_take (i := 7) (oi := _) (v := ?_) rfl (by kernel_rfl) (by kernel_rfl) (by kernel_rfl) (fun _ _ _ h => h) (Or.inl ⟨by rfl, ?_⟩) (by assumption) ?_
                rotate_left
                · intro w hSw
                  try dsimp only at hSw
                  try simp only [List.getElem_toArray, List.getElem_cons_succ, List.getElem_cons_zero]
                  go_split_ands
                  go_simp
                  try with_reducible rfl
                try simp only [Act.put, List.getElem_toArray, List.getElem_cons_succ, List.getElem_cons_zero, List.setIfInBounds_toArray, List.set_cons_zero, List.set_cons_succ]
                refine wpAnyH_take (i := 8) (oi := _) (v := ?_) rfl (by kernel_rfl) (by kernel_rfl) (by kernel_rfl) (fun _ _ _ h => h) (Or.inl ⟨by rfl, ?_⟩) (by assumption) ?_
                rotate_left
                · intro w hSw
                  try dsimp only at hSw
                  try simp only [List.getElem_toArray, List.getElem_cons_succ, List.getElem_cons_zero]
                  go_split_ands
                  go_simp
                  try with_reducible rfl
                try simp only [Act.put, List.getElem_toArray, List.getElem_cons_succ, List.getElem_cons_zero, List.setIfInBounds_toArray, List.set_cons_zero, List.set_cons_succ]
                refine wpAnyH_ready (rs := [3]) (by kernel_rfl) (by simp) ?_
                refine AllReadyH.cons (o := _) rfl (fun K hK => ?_) AllReadyH.nil
                simp only [List.getElem_toArray, List.getElem_cons_succ, List.getElem_cons_zero]
                go_simp
                refine (rslot_any _ ⟨wo, sl, st, wa, us⟩ k HSM.out (by omega) hks).mono ?_
                unfold ConfV.slot
                simp only
                rintro en w5 ⟨rfl, f5⟩
                have HM2 := Lib.hid (HM.out.drew.fr f5)
                go_wp2_with fail
                refine hK.out _ _ ⟨f5.cell k0 (by simp), f5.cell k1 (by simp), f5.cell k2 (by simp), f5.cell k3 (by simp), f5.cell k4 (by simp), f5.cell g5 (by simp), f5.cell s0 (by simp), f5.cell s1 (by simp), f5.cell s2 (by simp), f5.cell s3 (by simp), f5.cell s4 (by simp), f5.cell s5 (by simp), f5.cell s6 (by simp), f5.cell s7 (by simp), f5.cell s8 (by simp)⟩ (fun hHeld => ?_)
                clear hK K
                try simp only [Act.put, List.getElem_toArray, List.getElem_cons_succ, List.getElem_cons_zero, List.setIfInBounds_toArray, List.set_cons_zero, List.set_cons_succ]
                refine wpAnyH_ready (rs := [9]) (by kernel_rfl) (by simp) ?_
                refine AllReadyH.cons (o := _) rfl (fun K hK => ?_) AllReadyH.nil
                simp only [List.getElem_toArray, List.getElem_cons_succ, List.getElem_cons_zero]
                go_simp
                refine (sword_any _ s).mono ?_
                rintro en w6 ⟨⟨x, rfl⟩, f6⟩
                have HM3 := Lib.hid (HM2.out.fr f6)
                obtain ⟨⟨z9, u9⟩, v9⟩ := HM3.out.row.cell (i := j9) (by omega)
                go_wp2_with fail
                refine hK.out _ _ ⟨cell_of HM3.out.c rfl, cell_of HM3.out.c rfl, cell_of HM3.out.c rfl, cell_of HM3.out.c rfl, cell_of HM3.out.c rfl, cell_of HM3.out.g (by rw [HGX.out]; rfl), HM3.out.f.cell (cfs 0 _ rfl) (by simp), HM3.out.f.cell (cfs 1 _ rfl) (by simp), HM3.out.f.cell (cfs 2 _ rfl) (by simp), HM3.out.f.cell (cfs 3 _ rfl) (by simp), HM3.out.f.cell (cfs 4 _ rfl) (by simp), HM3.out.f.cell (cfs 5 _ rfl) (by simp), HM3.out.f.cell (cfs 6 _ rfl) (by simp), HM3.out.f.cell (cfs 7 _ rfl) (by simp), HM3.out.f.cell (cfs 8 _ rfl) (by simp)⟩ (fun hHeld => ?_)
                clear hK K
                try simp only [Act.put, List.getElem_toArray, List.getElem_cons_succ, List.getElem_cons_zero, List.setIfInBounds_toArray, List.set_cons_zero, List.set_cons_succ]
                refine wpAnyH_take (i := 10) (oi := _) (v := ?_) rfl (by kernel_rfl) (by kernel_rfl) (by kernel_rfl) (fun _ _ _ h => h) (Or.inl ⟨by rfl, ?_⟩) (by assumption) ?_
                rotate_left
                · intro w hSw
                  try dsimp only at hSw
                  try simp only [List.getElem_toArray, List.getElem_cons_succ, List.getElem_cons_zero]
                  go_split_ands
                  go_simp
                  try with_reducible rfl
                try simp only [Act.put, List.getElem_toArray, List.getElem_cons_succ, List.getElem_cons_zero, List.setIfInBounds_toArray, List.set_cons_zero, List.set_cons_succ]
                refine wpAnyH_ready (rs := [11]) (by kernel_rfl) (by simp) ?_
                refine AllReadyH.cons (o := _) rfl (fun K hK => ?_) AllReadyH.nil
                simp only [List.getElem_toArray, List.getElem_cons_succ, List.getElem_cons_zero]
                go_simp
                have HM4 := Lib.hid (HM3.out.put j9 x)
                refine hK.out _ _ ⟨cell_of HM4.out.c rfl, cell_of HM4.out.c rfl, cell_of HM4.out.c rfl, cell_of HM4.out.c rfl, cell_of HM4.out.c rfl, cell_of HM4.out.g (by rw [HGX.out]; rfl), HM4.out.f.cell (cfs 0 _ rfl) (by simp), HM4.out.f.cell (cfs 1 _ rfl) (by simp), HM4.out.f.cell (cfs 2 _ rfl) (by simp), HM4.out.f.cell (cfs 3 _ rfl) (by simp), HM4.out.f.cell (cfs 4 _ rfl) (by simp), HM4.out.f.cell (cfs 5 _ rfl) (by simp), HM4.out.f.cell (cfs 6 _ rfl) (by simp), HM4.out.f.cell (cfs 7 _ rfl) (by simp), HM4.out.f.cell (cfs 8 _ rfl) (by simp)⟩ (fun hHeld => ?_)
                clear hK K hHeld
                try simp only [Act.put, List.getElem_toArray, List.getElem_cons_succ, List.getElem_cons_zero, List.setIfInBounds_toArray, List.set_cons_zero, List.set_cons_succ]
                refine wpAnyH_done (by kernel_rfl) ?_ _
                go_wp2
                go_roundw
                case rel => exact ⟨k + 1, by omega, by go_num, HM4.out⟩
                case measure => simp [intOf]; omega
              · skip
                have e0 : wr.cell? ⟨w.heap.size + 1, 0, none⟩ = some (.int .i64 0) := cell_of HM.out.r rfl
                have e1 : wr.cell? ⟨w.heap.size + 1, 1, none⟩ = some (.int .i64 0) := cell_of HM.out.r rfl
                have e2 : wr.cell? ⟨w.heap.size + 1, 2, none⟩ = some (.int .i64 0) := cell_of HM.out.r rfl
                have e3 : wr.cell? ⟨w.heap.size + 1, 3, none⟩ = some (.int .i64 0) := cell_of HM.out.r rfl
                have e4 : wr.cell? ⟨w.heap.size + 1, 4, none⟩ = some (.int .i64 0) := cell_of HM.out.r rfl
                have f0 : ∀ i, wr.frozen? ⟨w.heap.size + 1, i, none⟩ = false := fun i => frozen_of HM.out.r
                go_wp2
                have hend := made_end HM.out (.int .i64 wo) (.int .i64 sl) (.int .i64 st) (.int .i64 wa) (.int .i64 us)
                obtain ⟨hbk, hrow, hfr⟩ := hend
                unfold endW at hbk hrow hfr
                generalize ((((wr.setCell ⟨w.heap.size + 1, 0, none⟩ (.int .i64 wo)).setCell ⟨w.heap.size + 1, 1, none⟩ (.int .i64 sl)).setCell ⟨w.heap.size + 1, 2, none⟩ (.int .i64 st)).setCell ⟨w.heap.size + 1, 3, none⟩ (.int .i64 wa)).setCell ⟨w.heap.size + 1, 4, none⟩ (.int .i64 us) = W9 at hbk hrow hfr ⊢
                have m0 : W9.cell? ⟨w.heap.size + 1, 0, none⟩ = some (.int .i64 wo) := cell_of hbk rfl
                have m1 : W9.cell? ⟨w.heap.size + 1, 1, none⟩ = some (.int .i64 sl) := cell_of hbk rfl
                have m2 : W9.cell? ⟨w.heap.size + 1, 2, none⟩ = some (.int .i64 st) := cell_of hbk rfl
                have m3 : W9.cell? ⟨w.heap.size + 1, 3, none⟩ = some (.int .i64 wa) := cell_of hbk rfl
                have m4 : W9.cell? ⟨w.heap.size + 1, 4, none⟩ = some (.int .i64 us) := cell_of hbk rfl
                refine bodyPost_ret (v := .tuple #[ConfV.val ⟨wo, sl, st, wa, us⟩, .slice (some ⟨w2.heap.size, 0, none⟩) n n]) ?_ rfl ⟨⟨wo, sl, st, wa, us⟩, w2.heap.size, n, rfl, HSM.out, HN.out.symm, by have := HM.out.hq; omega, hrow, hfr⟩
                simp [results, Try.f9, go_sem, m0, m1, m2, m3, m4]
                rfl
            · skip
              have e0 : wr.cell? ⟨w.heap.size + 1, 0, none⟩ = some (.int .i64 0) := cell_of HM.out.r rfl
              have e1 : wr.cell? ⟨w.heap.size + 1, 1, none⟩ = some (.int .i64 0) := cell_of HM.out.r rfl
              have e2 : wr.cell? ⟨w.heap.size + 1, 2, none⟩ = some (.int .i64 0) := cell_of HM.out.r rfl
              have e3 : wr.cell? ⟨w.heap.size + 1, 3, none⟩ = some (.int .i64 0) := cell_of HM.out.r rfl
              have e4 : wr.cell? ⟨w.heap.size + 1, 4, none⟩ = some (.int .i64 0) := cell_of HM.out.r rfl
              have f0 : ∀ i, wr.frozen? ⟨w.heap.size + 1, i, none⟩ = false := fun i => frozen_of HM.out.r
              go_wp2
              have hend := made_end HM.out (.int .i64 wo) (.int .i64 sl) (.int .i64 st) (.int .i64 wa) (.int .i64 us)
              obtain ⟨hbk, hrow, hfr⟩ := hend
              unfold endW at hbk hrow hfr
              generalize ((((wr.setCell ⟨w.heap.size + 1, 0, none⟩ (.int .i64 wo)).setCell ⟨w.heap.size + 1, 1, none⟩ (.int .i64 sl)).setCell ⟨w.heap.size + 1, 2, none⟩ (.int .i64 st)).setCell ⟨w.heap.size + 1, 3, none⟩ (.int .i64 wa)).setCell ⟨w.heap.size + 1, 4, none⟩ (.int .i64 us) = W9 at hbk hrow hfr ⊢
              have m0 : W9.cell? ⟨w.heap.size + 1, 0, none⟩ = some (.int .i64 wo) := cell_of hbk rfl
              have m1 : W9.cell? ⟨w.heap.size + 1, 1, none⟩ = some (.int .i64 sl) := cell_of hbk rfl
              have m2 : W9.cell? ⟨w.heap.size + 1, 2, none⟩ = some (.int .i64 st) := cell_of hbk rfl
              have m3 : W9.cell? ⟨w.heap.size + 1, 3, none⟩ = some (.int .i64 wa) := cell_of hbk rfl
              have m4 : W9.cell? ⟨w.heap.size + 1, 4, none⟩ = some (.int .i64 us) := cell_of hbk rfl
              refine bodyPost_ret (v := .tuple #[ConfV.val ⟨wo, sl, st, wa, us⟩, .slice (some ⟨w2.heap.size, 0, none⟩) n n]) ?_ rfl ⟨⟨wo, sl, st, wa, us⟩, w2.heap.size, n, rfl, HSM.out, HN.out.symm, by have := HM.out.hq; omega, hrow, hfr⟩
              simp [results, Try.f9, go_sem, m0, m1, m2, m3, m4]
              rfl
      · have HM0 := HM
        go_wp2
        clear HM g5 g7 k0 k1 k2 k3 k4
        go_loopw [7] (fun i wr => ∃ k : Nat, k ≤ 5 ∧ i = .int .i64 (k : Int) ∧ MadeSt w GX b4 w2.heap.size n #[.int .i64 wo, .int .i64 sl, .int .i64 st, .int .i64 wa, .int .i64 us] wr) (fun i _ => 6 - (intOf i).toNat)
        case atStart => exact ⟨0, by omega, rfl, HM0.out⟩
        case round =>
          obtain ⟨k, hk, rfl, hM⟩ := hrel
          have HM := Lib.hid hM; clear hM
          have g5 : wr.cell? ⟨w.heap.size, 5, none⟩ = some (.slice gs ns cs) := cell_of HM.out.g (by rw [HGX.out]; rfl)
          have g7 : wr.cell? ⟨w.heap.size, 7, none⟩ = some (.slice gp np cp) := cell_of HM.out.g (by rw [HGX.out]; rfl)
          have k0 : wr.cell? ⟨b4, 0, none⟩ = some (.int .i64 wo) := cell_of HM.out.c rfl
          have k1 : wr.cell? ⟨b4, 1, none⟩ = some (.int .i64 sl) := cell_of HM.out.c rfl
          have k2 : wr.cell? ⟨b4, 2, none⟩ = some (.int .i64 st) := cell_of HM.out.c rfl
          have k3 : wr.cell? ⟨b4, 3, none⟩ = some (.int .i64 wa) := cell_of HM.out.c rfl
          have k4 : wr.cell? ⟨b4, 4, none⟩ = some (.int .i64 us) := cell_of HM.out.c rfl
          by_cases hks : (k : Int) < sl
          · by_cases hkp : (k : Int) < (ns : Int)
            · obtain ⟨sb, so, s, rfl, cfs⟩ := HS.out k (by omega)
              have s0 : wr.cell? ⟨sb, so + k * 9, none⟩ = some (.int .i64 s.state) := HM.out.f.cell (cfs 0 _ rfl) (by simp)
              have s1 : wr.cell? ⟨sb, so + k * 9 + 1, none⟩ = some (.int .i64 s.own) := HM.out.f.cell (cfs 1 _ rfl) (by simp)
              have s2 : wr.cell? ⟨sb, so + k * 9 + 2, none⟩ = some (.int .i64 s.streams) := HM.out.f.cell (cfs 2 _ rfl) (by simp)
              have s3 : wr.cell? ⟨sb, so + k * 9 + 3, none⟩ = some (.bool s.broken) := HM.out.f.cell (cfs 3 _ rfl) (by simp)
              have s4 : wr.cell? ⟨sb, so + k * 9 + 4, none⟩ = some (.bool s.marked) := HM.out.f.cell (cfs 4 _ rfl) (by simp)
              have s5 : wr.cell? ⟨sb, so + k * 9 + 5, none⟩ = some (.int .i64 s.uses) := HM.out.f.cell (cfs 5 _ rfl) (by simp)
              have s6 : wr.cell? ⟨sb, so + k * 9 + 6, none⟩ = some (.int .i64 s.gen) := HM.out.f.cell (cfs 6 _ rfl) (by simp)
              have s7 : wr.cell? ⟨sb, so + k * 9 + 7, none⟩ = some (.int .i64 s.epoch) := HM.out.f.cell (cfs 7 _ rfl) (by simp)
              have s8 : wr.cell? ⟨sb, so + k * 9 + 8, none⟩ = some (.int .i64 s.version) := HM.out.f.cell (cfs 8 _ rfl) (by simp)
              obtain ⟨j9, hj9⟩ : ∃ j9 : Nat, 3 + 2 * wo + (k : Int) = (j9 : Int) := ⟨(3 + 2 * wo + (k : Int)).toNat, by omega⟩
              have hj1 : (j9 : Int) < (n : Int) := by omega
              have hk0 : (0 : Int) ≤ (k : Int) := by omega
              go_wp2_with fail
              refine wp_region_held_drew (S := fun w' => w'.cell? ⟨b4, 0, none⟩ = some (.int .i64 wo) ∧ w'.cell? ⟨b4, 1, none⟩ = some (.int .i64 sl) ∧ w'.cell? ⟨b4, 2, none⟩ = some (.int .i64 st) ∧ w'.cell? ⟨b4, 3, none⟩ = some (.int .i64 wa) ∧ w'.cell? ⟨b4, 4, none⟩ = some (.int .i64 us) ∧ w'.cell? ⟨w.heap.size, 5, none⟩ = some (.slice (some ⟨sb, so, none⟩) ns cs) ∧ w'.cell? ⟨sb, so + k * 9, none⟩ = some (.int .i64 s.state) ∧ w'.cell? ⟨sb, so + k * 9 + 1, none⟩ = some (.int .i64 s.own) ∧ w'.cell? ⟨sb, so + k * 9 + 2, none⟩ = some (.int .i64 s.streams) ∧ w'.cell? ⟨sb, so + k * 9 + 3, none⟩ = some (.bool s.broken) ∧ w'.cell? ⟨sb, so + k * 9 + 4, none⟩ = some (.bool s.marked) ∧ w'.cell? ⟨sb, so + k * 9 + 5, none⟩ = some (.int .i64 s.uses) ∧ w'.cell? ⟨sb, so + k * 9 + 6, none⟩ = some (.int .i64 s.gen) ∧ w'.cell? ⟨sb, so + k * 9 + 7, none⟩ = some (.int .i64 s.epoch) ∧ w'.cell? ⟨sb, so + k * 9 + 8, none⟩ = some (.int .i64 s.version)) (by kernel_rfl) ⟨k0, k1, k2, k3, k4, g5, s0, s1, s2, s3, s4, s5, s6, s7, s8⟩ (fun hHeld => ?_)
              refine wpAnyH_take (i := 0) (oi := _) (v := ?_) rfl (by kernel_rfl) (by kernel_rfl) (by kernel_rfl) (fun _ _ _ h => h) (Or.inl ⟨by rfl, ?_⟩) (by assumption) ?_
              rotate_left
              · intro w hSw
                try dsimp only at hSw
                try simp only [List.getElem_toArray, List.getElem_cons_zero]
                go_split_ands
                go_simp
                try with_reducible rfl
              try simp only [Act.put, List.getElem_toArray, List.getElem_cons_zero, List.setIfInBounds_toArray, List.set_cons_zero, List.set_cons_succ]
              refine wpAnyH_take (i := 1) (oi := _) (v := ?_) rfl (by kernel_rfl) (by kernel_rfl) (by kernel_rfl) (fun _ _ _ h => h) (Or.inl ⟨by rfl, ?_⟩) (by assumption) ?_
              rotate_left
              · intro w hSw
                try dsimp only at hSw
                try simp only [List.getElem_toArray, List.getElem_cons_succ, List.getElem_cons_zero]
                go_split_ands
                go_simp
                try with_reducible rfl
              try simp only [Act.put, List.getElem_toArray, List.getElem_cons_succ, List.getElem_cons_zero, List.setIfInBounds_toArray, List.set_cons_zero, List.set_cons_succ]
              refine wpAnyH_take (i := 2) (oi := _) (v := ?_) rfl (by kernel_rfl) (by kernel_rfl) (by kernel_rfl) (fun _ _ _ h => h) (Or.inl ⟨by rfl, ?_⟩) (by assumption) ?_
              rotate_left
              · intro w hSw
                try dsimp only at hSw
                try simp only [List.getElem_toArray, List.getElem_cons_succ, List.getElem_cons_zero]
                go_split_ands
                go_simp
                try with_reducible rfl
              try simp only [Act.put, List.getElem_toArray, List.getElem_cons_succ, List.getElem_cons_zero, List.setIfInBounds_toArray, List.set_cons_zero, List.set_cons_succ]
              refine wpAnyH_take (i := 4) (oi := _) (v := ?_) rfl (by kernel_rfl) (by kernel_rfl) (by kernel_rfl) (fun _ _ _ h => h) (Or.inl ⟨by rfl, ?_⟩) (by assumption) ?_
              rotate_left
              · intro w hSw
                try dsimp only at hSw
                try simp only [List.getElem_toArray, List.getElem_cons_succ, List.getElem_cons_zero]
                go_split_ands
                go_simp
                try with_reducible rfl
              try simp only [Act.put, List.getElem_toArray, List.getElem_cons_succ, List.getElem_cons_zero, List.setIfInBounds_toArray, List.set_cons_zero, List.set_cons_succ]
              refine wpAnyH_take (i := 5) (oi := _) (v := ?_) rfl (by kernel_rfl) (by kernel_rfl) (by kernel_rfl) (fun _ _ _ h => h) (Or.inl ⟨by rfl, ?_⟩) (by assumption) ?_
              rotate_left
              · intro w hSw
                try dsimp only at hSw
                try simp only [List.getElem_toArray, List.getElem_cons_succ, List.getElem_cons_zero]
                go_split_ands
                go_simp
                try with_reducible rfl
              try simp only [Act.put, List.getElem_toArray, List.getElem_cons_succ, List.getElem_cons_zero, List.setIfInBounds_toArray, List.set_cons_zero, List.set_cons_succ]
              refine wpAnyH_take (i := 6) (oi := _) (v := ?_) rfl (by kernel_rfl) (by kernel_rfl) (by kernel_rfl) (fun _ _ _ h => h) (Or.inl ⟨by rfl, ?_⟩) (by assumption) ?_
              rotate_left
              · intro w hSw
                try dsimp only at hSw
                try simp only [List.getElem_toArray, List.getElem_cons_succ, List.getElem_cons_zero]
                go_split_ands
                go_simp
                try with_reducible rfl
              try simp only [Act.put, List.getElem_toArray, List.getElem_cons_succ, List.getElem_cons_zero, List.setIfInBounds_toArray, List.set_cons_zero, List.set_cons_succ]
              refine wpAnyH_take (i := 7) (oi := _) (v := ?_) rfl (by kernel_rfl) (by kernel_rfl) (by kernel_rfl) (fun _ _ _ h => h) (Or.inl ⟨by rfl, ?_⟩) (by assumption) ?_
              rotate_left
              · intro w hSw
                try dsimp only at hSw
                try simp only [List.getElem_toArray, List.getElem_cons_succ, List.getElem_cons_zero]
                go_split_ands
                go_simp
                try with_reducible rfl
              try simp only [Act.put, List.getElem_toArray, List.getElem_cons_succ, List.getElem_cons_zero, List.setIfInBounds_toArray, List.set_cons_zero, List.set_cons_succ]
              refine wpAnyH_take (i := 8) (oi := _) (v := ?_) rfl (by kernel_rfl) (by kernel_rfl) (by kernel_rfl) (fun _ _ _ h => h) (Or.inl ⟨by rfl, ?_⟩) (by assumption) ?_
              rotate_left
              · intro w hSw
                try dsimp only at hSw
                try simp only [List.getElem_toArray, List.getElem_cons_succ, List.getElem_cons_zero]
                go_split_ands
                go_simp
                try with_reducible rfl
              try simp only [Act.put, List.getElem_toArray, List.getElem_cons_succ, List.getElem_cons_zero, List.setIfInBounds_toArray, List.set_cons_zero, List.set_cons_succ]
              refine wpAnyH_ready (rs := [3]) (by kernel_rfl) (by simp) ?_
              refine AllReadyH.cons (o := _) rfl (fun K hK => ?_) AllReadyH.nil
              simp only [List.getElem_toArray, List.getElem_cons_succ, List.getElem_cons_zero]
              go_simp
              refine (rslot_any _ ⟨wo, sl, st, wa, us⟩ k HSM.out (by omega) hks).mono ?_
              unfold ConfV.slot
              simp only
              rintro en w5 ⟨rfl, f5⟩
              have HM2 := Lib.hid (HM.out.drew.fr f5)
              go_wp2_with fail
              refine hK.out _ _ ⟨f5.cell k0 (by simp), f5.cell k1 (by simp), f5.cell k2 (by simp), f5.cell k3 (by simp), f5.cell k4 (by simp), f5.cell g5 (by simp), f5.cell s0 (by simp), f5.cell s1 (by simp), f5.cell s2 (by simp), f5.cell s3 (by simp), f5.cell s4 (by simp), f5.cell s5 (by simp), f5.cell s6 (by simp), f5.cell s7 (by simp), f5.cell s8 (by simp)⟩ (fun hHeld => ?_)
              clear hK K
              try simp only [Act.put, List.getElem_toArray, List.getElem_cons_succ, List.getElem_cons_zero, List.setIfInBounds_toArray, List.set_cons_zero, List.set_cons_succ]
              refine wpAnyH_ready (rs := [9]) (by kernel_rfl) (by simp) ?_
              refine AllReadyH.cons (o := _) rfl (fun K hK => ?_) AllReadyH.nil
              simp only [List.getElem_toArray, List.getElem_cons_succ, List.getElem_cons_zero]
              go_simp
              refine (sword_any _ s).mono ?_
              rintro en w6 ⟨⟨x, rfl⟩, f6⟩
              have HM3 := Lib.hid (HM2.out.fr f6)
              obtain ⟨⟨z9, u9⟩, v9⟩ := HM3.out.row.cell (i := j9) (by omega)
              go_wp2_with fail
              refine hK.out _ _ ⟨cell_of HM3.out.c rfl, cell_of HM3.out.c rfl, cell_of HM3.out.c rfl, cell_of HM3.out.c rfl, cell_of HM3.out.c rfl, cell_of HM3.out.g (by rw [HGX.out]; rfl), HM3.out.f.cell (cfs 0 _ rfl) (by simp), HM3.out.f.cell (cfs 1 _ rfl) (by simp), HM3.out.f.cell (cfs 2 _ rfl) (by simp), HM3.out.f.cell (cfs 3 _ rfl) (by simp), HM3.out.f.cell (cfs 4 _ rfl) (by simp), HM3.out.f.cell (cfs 5 _ rfl) (by simp), HM3.out.f.cell (cfs 6 _ rfl) (by simp), HM3.out.f.cell (cfs 7 _ rfl) (by simp), HM3.out.f.cell (cfs 8 _ rfl) (by simp)⟩ (fun hHeld => ?_)
              clear hK K
              try simp only [Act.put, List.getElem_toArray, List.getElem_cons_succ, List.getElem_cons_zero, List.setIfInBounds_toArray, List.set_cons_zero, List.set_cons_succ]
              refine wpAnyH_take (i := 10) (oi := _) (v := ?_) rfl (by kernel_rfl) (by kernel_rfl) (by kernel_rfl) (fun _ _ _ h => h) (Or.inl ⟨by rfl, ?_⟩) (by assumption) ?_
              rotate_left
              · intro w hSw
                try dsimp only at hSw
                try simp only [List.getElem_toArray, List.getElem_cons_succ, List.getElem_cons_zero]
                go_split_ands
                go_simp
                try with_reducible rfl
              try simp only [Act.put, List.getElem_toArray, List.getElem_cons_succ, List.getElem_cons_zero, List.setIfInBounds_toArray, List.set_cons_zero, List.set_cons_succ]
              refine wpAnyH_ready (rs := [11]) (by kernel_rfl) (by simp) ?_
              refine AllReadyH.cons (o := _) rfl (fun K hK => ?_) AllReadyH.nil
              simp only [List.getElem_toArray, List.getElem_cons_succ, List.getElem_cons_zero]
              go_simp
              have HM4 := Lib.hid (HM3.out.put j9 x)
              refine hK.out _ _ ⟨cell_of HM4.out.c rfl, cell_of HM4.out.c rfl, cell_of HM4.out.c rfl, cell_of HM4.out.c rfl, cell_of HM4.out.c rfl, cell_of HM4.out.g (by rw [HGX.out]; rfl), HM4.out.f.cell (cfs 0 _ rfl) (by simp), HM4.out.f.cell (cfs 1 _ rfl) (by simp), HM4.out.f.cell (cfs 2 _ rfl) (by simp), HM4.out.f.cell (cfs 3 _ rfl) (by simp), HM4.out.f.cell (cfs 4 _ rfl) (by simp), HM4.out.f.cell (cfs 5 _ rfl) (by simp), HM4.out.f.cell (cfs 6 _ rfl) (by simp), HM4.out.f.cell (cfs 7 _ rfl) (by simp), HM4.out.f.cell (cfs 8 _ rfl) (by simp)⟩ (fun hHeld => ?_)
              clear hK K hHeld
              try simp only [Act.put, List.getElem_toArray, List.getElem_cons_succ, List.getElem_cons_zero, List.setIfInBounds_toArray, List.set_cons_zero, List.set_cons_succ]
              refine wpAnyH_done (by kernel_rfl) ?_ _
              go_wp2
              go_roundw
              case rel => exact ⟨k + 1, by omega, by go_num, HM4.out⟩
              case measure => simp [intOf]; omega
            · skip
              have e0 : wr.cell? ⟨w.heap.size + 1, 0, none⟩ = some (.int .i64 0) := cell_of HM.out.r rfl
              have e1 : wr.cell? ⟨w.heap.size + 1, 1, none⟩ = some (.int .i64 0) := cell_of HM.out.r rfl
              have e2 : wr.cell? ⟨w.heap.size + 1, 2, none⟩ = some (.int .i64 0) := cell_of HM.out.r rfl
              have e3 : wr.cell? ⟨w.heap.size + 1, 3, none⟩ = some (.int .i64 0) := cell_of HM.out.r rfl
              have e4 : wr.cell? ⟨w.heap.size + 1, 4, none⟩ = some (.int .i64 0) := cell_of HM.out.r rfl
              have f0 : ∀ i, wr.frozen? ⟨w.heap.size + 1, i, none⟩ = false := fun i => frozen_of HM.out.r
              go_wp2
              have hend := made_end HM.out (.int .i64 wo) (.int .i64 sl) (.int .i64 st) (.int .i64 wa) (.int .i64 us)
              obtain ⟨hbk, hrow, hfr⟩ := hend
              unfold endW at hbk hrow hfr
              generalize ((((wr.setCell ⟨w.heap.size + 1, 0, none⟩ (.int .i64 wo)).setCell ⟨w.heap.size + 1, 1, none⟩ (.int .i64 sl)).setCell ⟨w.heap.size + 1, 2, none⟩ (.int .i64 st)).setCell ⟨w.heap.size + 1, 3, none⟩ (.int .i64 wa)).setCell ⟨w.heap.size + 1, 4, none⟩ (.int .i64 us) = W9 at hbk hrow hfr ⊢
              have m0 : W9.cell? ⟨w.heap.size + 1, 0, none⟩ = some (.int .i64 wo) := cell_of hbk rfl
              have m1 : W9.cell? ⟨w.heap.size + 1, 1, none⟩ = some (.int .i64 sl) := cell_of hbk rfl
              have m2 : W9.cell? ⟨w.heap.size + 1, 2, none⟩ = some (.int .i64 st) := cell_of hbk rfl
              have m3 : W9.cell? ⟨w.heap.size + 1, 3, none⟩ = some (.int .i64 wa) := cell_of hbk rfl
              have m4 : W9.cell? ⟨w.heap.size + 1, 4, none⟩ = some (.int .i64 us) := cell_of hbk rfl
              refine bodyPost_ret (v := .tuple #[ConfV.val ⟨wo, sl, st, wa, us⟩, .slice (some ⟨w2.heap.size, 0, none⟩) n n]) ?_ rfl ⟨⟨wo, sl, st, wa, us⟩, w2.heap.size, n, rfl, HSM.out, HN.out.symm, by have := HM.out.hq; omega, hrow, hfr⟩
              simp [results, Try.f9, go_sem, m0, m1, m2, m3, m4]
              rfl
          · skip
            have e0 : wr.cell? ⟨w.heap.size + 1, 0, none⟩ = some (.int .i64 0) := cell_of HM.out.r rfl
            have e1 : wr.cell? ⟨w.heap.size + 1, 1, none⟩ = some (.int .i64 0) := cell_of HM.out.r rfl
            have e2 : wr.cell? ⟨w.heap.size + 1, 2, none⟩ = some (.int .i64 0) := cell_of HM.out.r rfl
            have e3 : wr.cell? ⟨w.heap.size + 1, 3, none⟩ = some (.int .i64 0) := cell_of HM.out.r rfl
            have e4 : wr.cell? ⟨w.heap.size + 1, 4, none⟩ = some (.int .i64 0) := cell_of HM.out.r rfl
            have f0 : ∀ i, wr.frozen? ⟨w.heap.size + 1, i, none⟩ = false := fun i => frozen_of HM.out.r
            go_wp2
            have hend := made_end HM.out (.int .i64 wo) (.int .i64 sl) (.int .i64 st) (.int .i64 wa) (.int .i64 us)
            obtain ⟨hbk, hrow, hfr⟩ := hend
            unfold endW at hbk hrow hfr
            generalize ((((wr.setCell ⟨w.heap.size + 1, 0, none⟩ (.int .i64 wo)).setCell ⟨w.heap.size + 1, 1, none⟩ (.int .i64 sl)).setCell ⟨w.heap.size + 1, 2, none⟩ (.int .i64 st)).setCell ⟨w.heap.size + 1, 3, none⟩ (.int .i64 wa)).setCell ⟨w.heap.size + 1, 4, none⟩ (.int .i64 us) = W9 at hbk hrow hfr ⊢
            have m0 : W9.cell? ⟨w.heap.size + 1, 0, none⟩ = some (.int .i64 wo) := cell_of hbk rfl
            have m1 : W9.cell? ⟨w.heap.size + 1, 1, none⟩ = some (.int .i64 sl) := cell_of hbk rfl
            have m2 : W9.cell? ⟨w.heap.size + 1, 2, none⟩ = some (.int .i64 st) := cell_of hbk rfl
            have m3 : W9.cell? ⟨w.heap.size + 1, 3, none⟩ = some (.int .i64 wa) := cell_of hbk rfl
            have m4 : W9.cell? ⟨w.heap.size + 1, 4, none⟩ = some (.int .i64 us) := cell_of hbk rfl
            refine bodyPost_ret (v := .tuple #[ConfV.val ⟨wo, sl, st, wa, us⟩, .slice (some ⟨w2.heap.size, 0, none⟩) n n]) ?_ rfl ⟨⟨wo, sl, st, wa, us⟩, w2.heap.size, n, rfl, HSM.out, HN.out.symm, by have := HM.out.hq; omega, hrow, hfr⟩
            simp [results, Try.f9, go_sem, m0, m1, m2, m3, m4]
            rfl
  · have HST5 := HST
    have hnf2 : ((nf : Int) == 2) = false := by simpa using hnf
    go_wp2_with fail
    go_loopw [6] (fun i wr => ∃ k : Nat, k ≤ 4 ∧ i = .int .i64 (k : Int) ∧ MadeSt w GX b4 w2.heap.size n #[.int .i64 wo, .int .i64 sl, .int .i64 st, .int .i64 wa, .int .i64 us] wr) (fun i _ => 5 - (intOf i).toNat)
    case atStart => exact ⟨0, by omega, rfl, HST5.out⟩
    case round =>
      clear g5 g6 g7 k0 k1 k2 k3 k4 u0 v0 u2 v2 hmk
      obtain ⟨k, hk, rfl, hM⟩ := hrel
      have HM := Lib.hid hM; clear hM
      have g5 : wr.cell? ⟨w.heap.size, 5, none⟩ = some (.slice gs ns cs) := cell_of HM.out.g (by rw [HGX.out]; rfl)
      have g7 : wr.cell? ⟨w.heap.size, 7, none⟩ = some (.slice gp np cp) := cell_of HM.out.g (by rw [HGX.out]; rfl)
      have k0 : wr.cell? ⟨b4, 0, none⟩ = some (.int .i64 wo) := cell_of HM.out.c rfl
      have k1 : wr.cell? ⟨b4, 1, none⟩ = some (.int .i64 sl) := cell_of HM.out.c rfl
      have k2 : wr.cell? ⟨b4, 2, none⟩ = some (.int .i64 st) := cell_of HM.out.c rfl
      have k3 : wr.cell? ⟨b4, 3, none⟩ = some (.int .i64 wa) := cell_of HM.out.c rfl
      have k4 : wr.cell? ⟨b4, 4, none⟩ = some (.int .i64 us) := cell_of HM.out.c rfl
      by_cases hkw : (k : Int) < wo
      · by_cases hkp : (k : Int) < (np : Int)
        · obtain ⟨pb, po, x, rfl, cfx, lx, hx⟩ := HPP.out k (by omega)
          have cx := HM.out.f.cell cfx (by simp)
          have vx : IntKind.i64.wrap x = x := by rw [IntKind.wrap_i64]; omega
          have i1 : 0 ≤ 3 + (k : Int) := by omega
          have i2 : 3 + (k : Int) < (n : Int) := by omega
          have i3 : (3 + (k : Int)).toNat = 3 + k := by omega
          have hk0 : (0 : Int) ≤ (k : Int) := by omega
          go_wp2_with fail
          refine wp_region_held_drew (S := fun w' => w'.cell? ⟨b4, 0, none⟩ = some (.int .i64 wo) ∧ w'.cell? ⟨b4, 1, none⟩ = some (.int .i64 sl) ∧ w'.cell? ⟨b4, 2, none⟩ = some (.int .i64 st) ∧ w'.cell? ⟨b4, 3, none⟩ = some (.int .i64 wa) ∧ w'.cell? ⟨b4, 4, none⟩ = some (.int .i64 us) ∧ w'.cell? ⟨w.heap.size, 7, none⟩ = some (.slice (some ⟨pb, po, none⟩) np cp) ∧ w'.cell? ⟨pb, po + k, none⟩ = some (.int .u8 x)) (by kernel_rfl) ⟨k0, k1, k2, k3, k4, g7, cx⟩ (fun hHeld => ?_)
          refine wpAnyH_take (i := 0) (oi := _) (v := ?_) rfl (by kernel_rfl) (by kernel_rfl) (by kernel_rfl) (fun _ _ _ h => h) (Or.inl ⟨by rfl, ?_⟩) (by assumption) ?_
          rotate_left
          · intro w hSw
            try dsimp only at hSw
            try simp only [List.getElem_toArray, List.getElem_cons_zero]
            go_split_ands
            go_simp
            try with_reducible rfl
          try simp only [Act.put, List.getElem_toArray, List.getElem_cons_zero, List.setIfInBounds_toArray, List.set_cons_zero, List.set_cons_succ]
          refine wpAnyH_take (i := 1) (oi := _) (v := ?_) rfl (by kernel_rfl) (by kernel_rfl) (by kernel_rfl) (fun _ _ _ h => h) (Or.inl ⟨by rfl, ?_⟩) (by assumption) ?_
          rotate_left
          · intro w hSw
            try dsimp only at hSw
            try simp only [List.getElem_toArray, List.getElem_cons_succ, List.getElem_cons_zero]
            go_split_ands
            go_simp
            try with_reducible rfl
          try simp only [Act.put, List.getElem_toArray, List.getElem_cons_succ, List.getElem_cons_zero, List.setIfInBounds_toArray, List.set_cons_zero, List.set_cons_succ]
          refine wpAnyH_take (i := 2) (oi := _) (v := ?_) rfl (by kernel_rfl) (by kernel_rfl) (by kernel_rfl) (fun _ _ _ h => h) (Or.inl ⟨by rfl, ?_⟩) (by assumption) ?_
          rotate_left
          · intro w hSw
            try dsimp only at hSw
            try simp only [List.getElem_toArray, List.getElem_cons_succ, List.getElem_cons_zero]
            go_split_ands
            go_simp
            try with_reducible rfl
          try simp only [Act.put, List.getElem_toArray, List.getElem_cons_succ, List.getElem_cons_zero, List.setIfInBounds_toArray, List.set_cons_zero, List.set_cons_succ]
          refine wpAnyH_take (i := 4) (oi := _) (v := ?_) rfl (by kernel_rfl) (by kernel_rfl) (by kernel_rfl) (fun _ _ _ h => h) (Or.inl ⟨by rfl, ?_⟩) (by assumption) ?_
          rotate_left
          · intro w hSw
            try dsimp only at hSw
            try simp only [List.getElem_toArray, List.getElem_cons_succ, List.getElem_cons_zero]
            go_split_ands
            go_simp
            try with_reducible rfl
          try simp only [Act.put, List.getElem_toArray, List.getElem_cons_succ, List.getElem_cons_zero, List.setIfInBounds_toArray, List.set_cons_zero, List.set_cons_succ]
          refine wpAnyH_take (i := 5) (oi := _) (v := ?_) rfl (by kernel_rfl) (by kernel_rfl) (by kernel_rfl) (fun _ _ _ h => h) (Or.inl ⟨by rfl, ?_⟩) (by assumption) ?_
          rotate_left
          · intro w hSw
            try dsimp only at hSw
            try simp only [List.getElem_toArray, List.getElem_cons_succ, List.getElem_cons_zero]
            go_split_ands
            go_simp
            try with_reducible rfl
          try simp only [Act.put, List.getElem_toArray, List.getElem_cons_succ, List.getElem_cons_zero, List.setIfInBounds_toArray, List.set_cons_zero, List.set_cons_succ]
          refine wpAnyH_take (i := 6) (oi := _) (v := ?_) rfl (by kernel_rfl) (by kernel_rfl) (by kernel_rfl) (fun _ _ _ h => h) (Or.inl ⟨by rfl, ?_⟩) (by assumption) ?_
          rotate_left
          · intro w hSw
            try dsimp only at hSw
            try simp only [List.getElem_toArray, List.getElem_cons_succ, List.getElem_cons_zero]
            go_split_ands
            go_simp
            try with_reducible rfl
          try simp only [Act.put, List.getElem_toArray, List.getElem_cons_succ, List.getElem_cons_zero, List.setIfInBounds_toArray, List.set_cons_zero, List.set_cons_succ]
          refine wpAnyH_take (i := 7) (oi := _) (v := ?_) rfl (by kernel_rfl) (by kernel_rfl) (by kernel_rfl) (fun _ _ _ h => h) (Or.inl ⟨by rfl, ?_⟩) (by assumption) ?_
          rotate_left
          · intro w hSw
            try dsimp only at hSw
            try simp only [List.getElem_toArray, List.getElem_cons_succ, List.getElem_cons_zero]
            go_split_ands
            go_simp
            try with_reducible rfl
          try simp only [Act.put, List.getElem_toArray, List.getElem_cons_succ, List.getElem_cons_zero, List.setIfInBounds_toArray, List.set_cons_zero, List.set_cons_succ]
          refine wpAnyH_take (i := 8) (oi := _) (v := ?_) rfl (by kernel_rfl) (by kernel_rfl) (by kernel_rfl) (fun _ _ _ h => h) (Or.inl ⟨by rfl, ?_⟩) (by assumption) ?_
          rotate_left
          · intro w hSw
            try dsimp only at hSw
            try simp only [List.getElem_toArray, List.getElem_cons_succ, List.getElem_cons_zero]
            go_split_ands
            go_simp
            try with_reducible rfl
          try simp only [Act.put, List.getElem_toArray, List.getElem_cons_succ, List.getElem_cons_zero, List.setIfInBounds_toArray, List.set_cons_zero, List.set_cons_succ]
          refine wpAnyH_take (i := 9) (oi := _) (v := ?_) rfl (by kernel_rfl) (by kernel_rfl) (by kernel_rfl) (fun _ _ _ h => h) (Or.inl ⟨by rfl, ?_⟩) (by assumption) ?_
          rotate_left
          · intro w hSw
            try dsimp only at hSw
            try simp only [List.getElem_toArray, List.getElem_cons_succ, List.getElem_cons_zero]
            go_split_ands
            go_simp
            try with_reducible rfl
          try simp only [Act.put, List.getElem_toArray, List.getElem_cons_succ, List.getElem_cons_zero, List.setIfInBounds_toArray, List.set_cons_zero, List.set_cons_succ]
          refine wpAnyH_ready (rs := [3]) (by kernel_rfl) (by simp) ?_
          refine AllReadyH.cons (o := _) rfl (fun K hK => ?_) AllReadyH.nil
          simp only [List.getElem_toArray, List.getElem_cons_succ, List.getElem_cons_zero]
          go_simp
          refine (rpin_any _ ⟨wo, sl, st, wa, us⟩ k HSM.out (by omega) hkw).mono ?_
          rintro en w5 ⟨rfl, f5⟩
          have HM2 := Lib.hid (HM.out.drew.fr f5)
          obtain ⟨⟨z9, u9⟩, v9⟩ := HM2.out.row.cell (i := 3 + k) (by omega)
          go_wp2_with fail
          refine hK.out _ _ ⟨f5.cell k0 (by simp), f5.cell k1 (by simp), f5.cell k2 (by simp), f5.cell k3 (by simp), f5.cell k4 (by simp), f5.cell g7 (by simp), f5.cell cx (by simp)⟩ (fun hHeld => ?_)
          clear hK K
          try simp only [Act.put, List.getElem_toArray, List.getElem_cons_succ, List.getElem_cons_zero, List.setIfInBounds_toArray, List.set_cons_zero, List.set_cons_succ]
          refine wpAnyH_take (i := 10) (oi := _) (v := ?_) rfl (by kernel_rfl) (by kernel_rfl) (by kernel_rfl) (fun _ _ _ h => h) (Or.inl ⟨by rfl, ?_⟩) (by assumption) ?_
          rotate_left
          · intro w hSw
            try dsimp only at hSw
            try simp only [List.getElem_toArray, List.getElem_cons_succ, List.getElem_cons_zero]
            go_split_ands
            go_simp
            try with_reducible rfl
          try simp only [Act.put, List.getElem_toArray, List.getElem_cons_succ, List.getElem_cons_zero, List.setIfInBounds_toArray, List.set_cons_zero, List.set_cons_succ]
          refine wpAnyH_ready (rs := [11]) (by kernel_rfl) (by simp) ?_
          refine AllReadyH.cons (o := _) rfl (fun K hK => ?_) AllReadyH.nil
          simp only [List.getElem_toArray, List.getElem_cons_succ, List.getElem_cons_zero]
          go_simp
          have HM3 := Lib.hid (HM2.out.put (3 + k) x)
          refine hK.out _ _ ⟨cell_of HM3.out.c rfl, cell_of HM3.out.c rfl, cell_of HM3.out.c rfl, cell_of HM3.out.c rfl, cell_of HM3.out.c rfl, cell_of HM3.out.g (by rw [HGX.out]; rfl), HM3.out.f.cell cfx (by simp)⟩ (fun hHeld => ?_)
          clear hK K hHeld
          try simp only [Act.put, List.getElem_toArray, List.getElem_cons_succ, List.getElem_cons_zero, List.setIfInBounds_toArray, List.set_cons_zero, List.set_cons_succ]
          refine wpAnyH_done (by kernel_rfl) ?_ _
          go_wp2
          go_roundw
          case rel => exact ⟨k + 1, by omega, by go_num, HM3.out⟩
          case measure => simp [intOf]; omega
        · have HM0 := HM
          go_wp2
          clear HM g5 g7 k0 k1 k2 k3 k4
          go_loopw [7] (fun i wr => ∃ k : Nat, k ≤ 5 ∧ i = .int .i64 (k : Int) ∧ MadeSt w GX b4 w2.heap.size n #[.int .i64 wo, .int .i64 sl, .int .i64 st, .int .i64 wa, .int .i64 us] wr) (fun i _ => 6 - (intOf i).toNat)
          case atStart => exact ⟨0, by omega, rfl, HM0.out⟩
          case round =>
            obtain ⟨k, hk, rfl, hM⟩ := hrel
            have HM := Lib.hid hM; clear hM
            have g5 : wr.cell? ⟨w.heap.size, 5, none⟩ = some (.slice gs ns cs) := cell_of HM.out.g (by rw [HGX.out]; rfl)
            have g7 : wr.cell? ⟨w.heap.size, 7, none⟩ = some (.slice gp np cp) := cell_of HM.out.g (by rw [HGX.out]; rfl)
            have k0 : wr.cell? ⟨b4, 0, none⟩ = some (.int .i64 wo) := cell_of HM.out.c rfl
            have k1 : wr.cell? ⟨b4, 1, none⟩ = some (.int .i64 sl) := cell_of HM.out.c rfl
            have k2 : wr.cell? ⟨b4, 2, none⟩ = some (.int .i64 st) := cell_of HM.out.c rfl
            have k3 : wr.cell? ⟨b4, 3, none⟩ = some (.int .i64 wa) := cell_of HM.out.c rfl
            have k4 : wr.cell? ⟨b4, 4, none⟩ = some (.int .i64 us) := cell_of HM.out.c rfl
            by_cases hks : (k : Int) < sl
            · by_cases hkp : (k : Int) < (ns : Int)
              · obtain ⟨sb, so, s, rfl, cfs⟩ := HS.out k (by omega)
                have s0 : wr.cell? ⟨sb, so + k * 9, none⟩ = some (.int .i64 s.state) := HM.out.f.cell (cfs 0 _ rfl) (by simp)
                have s1 : wr.cell? ⟨sb, so + k * 9 + 1, none⟩ = some (.int .i64 s.own) := HM.out.f.cell (cfs 1 _ rfl) (by simp)
                have s2 : wr.cell? ⟨sb, so + k * 9 + 2, none⟩ = some (.int .i64 s.streams) := HM.out.f.cell (cfs 2 _ rfl) (by simp)
                have s3 : wr.cell? ⟨sb, so + k * 9 + 3, none⟩ = some (.bool s.broken) := HM.out.f.cell (cfs 3 _ rfl) (by simp)
                have s4 : wr.cell? ⟨sb, so + k * 9 + 4, none⟩ = some (.bool s.marked) := HM.out.f.cell (cfs 4 _ rfl) (by simp)
                have s5 : wr.cell? ⟨sb, so + k * 9 + 5, none⟩ = some (.int .i64 s.uses) := HM.out.f.cell (cfs 5 _ rfl) (by simp)
                have s6 : wr.cell? ⟨sb, so + k * 9 + 6, none⟩ = some (.int .i64 s.gen) := HM.out.f.cell (cfs 6 _ rfl) (by simp)
                have s7 : wr.cell? ⟨sb, so + k * 9 + 7, none⟩ = some (.int .i64 s.epoch) := HM.out.f.cell (cfs 7 _ rfl) (by simp)
                have s8 : wr.cell? ⟨sb, so + k * 9 + 8, none⟩ = some (.int .i64 s.version) := HM.out.f.cell (cfs 8 _ rfl) (by simp)
                obtain ⟨j9, hj9⟩ : ∃ j9 : Nat, 3 + 2 * wo + (k : Int) = (j9 : Int) := ⟨(3 + 2 * wo + (k : Int)).toNat, by omega⟩
                have hj1 : (j9 : Int) < (n : Int) := by omega
                have hk0 : (0 : Int) ≤ (k : Int) := by omega
                go_wp2_with fail
                refine wp_region_held_drew (S := fun w' => w'.cell? ⟨b4, 0, none⟩ = some (.int .i64 wo) ∧ w'.cell? ⟨b4, 1, none⟩ = some (.int .i64 sl) ∧ w'.cell? ⟨b4, 2, none⟩ = some (.int .i64 st) ∧ w'.cell? ⟨b4, 3, none⟩ = some (.int .i64 wa) ∧ w'.cell? ⟨b4, 4, none⟩ = some (.int .i64 us) ∧ w'.cell? ⟨w.heap.size, 5, none⟩ = some (.slice (some ⟨sb, so, none⟩) ns cs) ∧ w'.cell? ⟨sb, so + k * 9, none⟩ = some (.int .i64 s.state) ∧ w'.cell? ⟨sb, so + k * 9 + 1, none⟩ = some (.int .i64 s.own) ∧ w'.cell? ⟨sb, so + k * 9 + 2, none⟩ = some (.int .i64 s.streams) ∧ w'.cell? ⟨sb, so + k * 9 + 3, none⟩ = some (.bool s.broken) ∧ w'.cell? ⟨sb, so + k * 9 + 4, none⟩ = some (.bool s.marked) ∧ w'.cell? ⟨sb, so + k * 9 + 5, none⟩ = some (.int .i64 s.uses) ∧ w'.cell? ⟨sb, so + k * 9 + 6, none⟩ = some (.int .i64 s.gen) ∧ w'.cell? ⟨sb, so + k * 9 + 7, none⟩ = some (.int .i64 s.epoch) ∧ w'.cell? ⟨sb, so + k * 9 + 8, none⟩ = some (.int .i64 s.version)) (by kernel_rfl) ⟨k0, k1, k2, k3, k4, g5, s0, s1, s2, s3, s4, s5, s6, s7, s8⟩ (fun hHeld => ?_)
                refine wpAnyH_take (i := 0) (oi := _) (v := ?_) rfl (by kernel_rfl) (by kernel_rfl) (by kernel_rfl) (fun _ _ _ h => h) (Or.inl ⟨by rfl, ?_⟩) (by assumption) ?_
                rotate_left
                · intro w hSw
                  try dsimp only at hSw
                  try simp only [List.getElem_toArray, List.getElem_cons_zero]
                  go_split_ands
                  go_simp
                  try with_reducible rfl
                try simp only [Act.put, List.getElem_toArray, List.getElem_cons_zero, List.setIfInBounds_toArray, List.set_cons_zero, List.set_cons_succ]
                refine wpAnyH_take (i := 1) (oi := _) (v := ?_) rfl (by kernel_rfl) (by kernel_rfl) (by kernel_rfl) (fun _ _ _ h => h) (Or.inl ⟨by rfl, ?_⟩) (by assumption) ?_
                rotate_left
                · intro w hSw
                  try dsimp only at hSw
                  try simp only [List.getElem_toArray, List.getElem_cons_succ, List.getElem_cons_zero]
                  go_split_ands
                  go_simp
                  try with_reducible rfl
                try simp only [Act.put, List.getElem_toArray, List.getElem_cons_succ, List.getElem_cons_zero, List.setIfInBounds_toArray, List.set_cons_zero, List.set_cons_succ]
                refine wpAnyH_take (i := 2) (oi := _) (v := ?_) rfl (by kernel_rfl) (by kernel_rfl) (by kernel_rfl) (fun _ _ _ h => h) (Or.inl ⟨by rfl, ?_⟩) (by assumption) ?_
                rotate_left
                · intro w hSw
                  try dsimp only at hSw
                  try simp only [List.getElem_toArray, List.getElem_cons_succ, List.getElem_cons_zero]
                  go_split_ands
                  go_simp
                  try with_reducible rfl
                try simp only [Act.put, List.getElem_toArray, List.getElem_cons_succ, List.getElem_cons_zero, List.setIfInBounds_toArray, List.set_cons_zero, List.set_cons_succ]
                refine wpAnyH_take (i := 4) (oi := _) (v := ?_) rfl (by kernel_rfl) (by kernel_rfl) (by kernel_rfl) (fun _ _ _ h => h) (Or.inl ⟨by rfl, ?_⟩) (by assumption) ?_
                rotate_left
                · intro w hSw
                  try dsimp only at hSw
                  try simp only [List.getElem_toArray, List.getElem_cons_succ, List.getElem_cons_zero]
                  go_split_ands
                  go_simp
                  try with_reducible rfl
                try simp only [Act.put, List.getElem_toArray, List.getElem_cons_succ, List.getElem_cons_zero, List.setIfInBounds_toArray, List.set_cons_zero, List.set_cons_succ]
                refine wpAnyH_take (i := 5) (oi := _) (v := ?_) rfl (by kernel_rfl) (by kernel_rfl) (by kernel_rfl) (fun _ _ _ h => h) (Or.inl ⟨by rfl, ?_⟩) (by assumption) ?_
                rotate_left
                · intro w hSw
                  try dsimp only at hSw
                  try simp only [List.getElem_toArray, List.getElem_cons_succ, List.getElem_cons_zero]
                  go_split_ands
                  go_simp
                  try with_reducible rfl
                try simp only [Act.put, List.getElem_toArray, List.getElem_cons_succ, List.getElem_cons_zero, List.setIfInBounds_toArray, List.set_cons_zero, List.set_cons_succ]
                refine wpAnyH_take (i := 6) (oi := _) (v := ?_) rfl (by kernel_rfl) (by kernel_rfl) (by kernel_rfl) (fun _ _ _ h => h) (Or.inl ⟨by rfl, ?_⟩) (by assumption) ?_
                rotate_left
                · intro w hSw
                  try dsimp only at hSw
                  try simp only [List.getElem_toArray, List.getElem_cons_succ, List.getElem_cons_zero]
                  go_split_ands
                  go_simp
                  try with_reducible rfl
                try simp only [Act.put, List.getElem_toArray, List.getElem_cons_succ, List.getElem_cons_zero, List.setIfInBounds_toArray, List.set_cons_zero, List.set_cons_succ]
                refine wpAnyH_take (i := 7) (oi := _) (v := ?_) rfl (by kernel_rfl) (by kernel_rfl) (by kernel_rfl) (fun _ _ _ h => h) (Or.inl ⟨by rfl, ?_⟩) (by assumption) ?_
                rotate_left
                · intro w hSw
                  try dsimp only at hSw
                  try simp only [List.getElem_toArray, List.getElem_cons_succ, List.getElem_cons_zero]
                  go_split_ands
                  go_simp
                  try with_reducible rfl
                try simp only [Act.put, List.getElem_toArray, List.getElem_cons_succ, List.getElem_cons_zero, List.setIfInBounds_toArray, List.set_cons_zero, List.set_cons_succ]
                refine wpAnyH_take (i := 8) (oi := _) (v := ?_) rfl (by kernel_rfl) (by kernel_rfl) (by kernel_rfl) (fun _ _ _ h => h) (Or.inl ⟨by rfl, ?_⟩) (by assumption) ?_
                rotate_left
                · intro w hSw
                  try dsimp only at hSw
                  try simp only [List.getElem_toArray, List.getElem_cons_succ, List.getElem_cons_zero]
                  go_split_ands
                  go_simp
                  try with_reducible rfl
                try simp only [Act.put, List.getElem_toArray, List.getElem_cons_succ, List.getElem_cons_zero, List.setIfInBounds_toArray, List.set_cons_zero, List.set_cons_succ]
                refine wpAnyH_ready (rs := [3]) (by kernel_rfl) (by simp) ?_
                refine AllReadyH.cons (o := _) rfl (fun K hK => ?_) AllReadyH.nil
                simp only [List.getElem_toArray, List.getElem_cons_succ, List.getElem_cons_zero]
                go_simp
                refine (rslot_any _ ⟨wo, sl, st, wa, us⟩ k HSM.out (by omega) hks).mono ?_
                unfold ConfV.slot
                simp only
                rintro en w5 ⟨rfl, f5⟩
                have HM2 := Lib.hid (HM.out.drew.fr f5)
                go_wp2_with fail
                refine hK.out _ _ ⟨f5.cell k0 (by simp), f5.cell k1 (by simp), f5.cell k2 (by simp), f5.cell k3 (by simp), f5.cell k4 (by simp), f5.cell g5 (by simp), f5.cell s0 (by simp), f5.cell s1 (by simp), f5.cell s2 (by simp), f5.cell s3 (by simp), f5.cell s4 (by simp), f5.cell s5 (by simp), f5.cell s6 (by simp), f5.cell s7 (by simp), f5.cell s8 (by simp)⟩ (fun hHeld => ?_)
                clear hK K
                try simp only [Act.put, List.getElem_toArray, List.getElem_cons_succ, List.getElem_cons_zero, List.setIfInBounds_toArray, List.set_cons_zero, List.set_cons_succ]
                refine wpAnyH_ready (rs := [9]) (by kernel_rfl) (by simp) ?_
                refine AllReadyH.cons (o := _) rfl (fun K hK => ?_) AllReadyH.nil
                simp only [List.getElem_toArray, List.getElem_cons_succ, List.getElem_cons_zero]
                go_simp
                refine (sword_any _ s).mono ?_
                rintro en w6 ⟨⟨x, rfl⟩, f6⟩
                have HM3 := Lib.hid (HM2.out.fr f6)
                obtain ⟨⟨z9, u9⟩, v9⟩ := HM3.out.row.cell (i := j9) (by omega)
                go_wp2_with fail
                refine hK.out _ _ ⟨cell_of HM3.out.c rfl, cell_of HM3.out.c rfl, cell_of HM3.out.c rfl, cell_of HM3.out.c rfl, cell_of HM3.out.c rfl, cell_of HM3.out.g (by rw [HGX.out]; rfl), HM3.out.f.cell (cfs 0 _ rfl) (by simp), HM3.out.f.cell (cfs 1 _ rfl) (by simp), HM3.out.f.cell (cfs 2 _ rfl) (by simp), HM3.out.f.cell (cfs 3 _ rfl) (by simp), HM3.out.f.cell (cfs 4 _ rfl) (by simp), HM3.out.f.cell (cfs 5 _ rfl) (by simp), HM3.out.f.cell (cfs 6 _ rfl) (by simp), HM3.out.f.cell (cfs 7 _ rfl) (by simp), HM3.out.f.cell (cfs 8 _ rfl) (by simp)⟩ (fun hHeld => ?_)
                clear hK K
                try simp only [Act.put, List.getElem_toArray, List.getElem_cons_succ, List.getElem_cons_zero, List.setIfInBounds_toArray, List.set_cons_zero, List.set_cons_succ]
                refine wpAnyH_take (i := 10) (oi := _) (v := ?_) rfl (by kernel_rfl) (by kernel_rfl) (by kernel_rfl) (fun _ _ _ h => h) (Or.inl ⟨by rfl, ?_⟩) (by assumption) ?_
                rotate_left
                · intro w hSw
                  try dsimp only at hSw
                  try simp only [List.getElem_toArray, List.getElem_cons_succ, List.getElem_cons_zero]
                  go_split_ands
                  go_simp
                  try with_reducible rfl
                try simp only [Act.put, List.getElem_toArray, List.getElem_cons_succ, List.getElem_cons_zero, List.setIfInBounds_toArray, List.set_cons_zero, List.set_cons_succ]
                refine wpAnyH_ready (rs := [11]) (by kernel_rfl) (by simp) ?_
                refine AllReadyH.cons (o := _) rfl (fun K hK => ?_) AllReadyH.nil
                simp only [List.getElem_toArray, List.getElem_cons_succ, List.getElem_cons_zero]
                go_simp
                have HM4 := Lib.hid (HM3.out.put j9 x)
                refine hK.out _ _ ⟨cell_of HM4.out.c rfl, cell_of HM4.out.c rfl, cell_of HM4.out.c rfl, cell_of HM4.out.c rfl, cell_of HM4.out.c rfl, cell_of HM4.out.g (by rw [HGX.out]; rfl), HM4.out.f.cell (cfs 0 _ rfl) (by simp), HM4.out.f.cell (cfs 1 _ rfl) (by simp), HM4.out.f.cell (cfs 2 _ rfl) (by simp), HM4.out.f.cell (cfs 3 _ rfl) (by simp), HM4.out.f.cell (cfs 4 _ rfl) (by simp), HM4.out.f.cell (cfs 5 _ rfl) (by simp), HM4.out.f.cell (cfs 6 _ rfl) (by simp), HM4.out.f.cell (cfs 7 _ rfl) (by simp), HM4.out.f.cell (cfs 8 _ rfl) (by simp)⟩ (fun hHeld => ?_)
                clear hK K hHeld
                try simp only [Act.put, List.getElem_toArray, List.getElem_cons_succ, List.getElem_cons_zero, List.setIfInBounds_toArray, List.set_cons_zero, List.set_cons_succ]
                refine wpAnyH_done (by kernel_rfl) ?_ _
                go_wp2
                go_roundw
                case rel => exact ⟨k + 1, by omega, by go_num, HM4.out⟩
                case measure => simp [intOf]; omega
              · skip
                have e0 : wr.cell? ⟨w.heap.size + 1, 0, none⟩ = some (.int .i64 0) := cell_of HM.out.r rfl
                have e1 : wr.cell? ⟨w.heap.size + 1, 1, none⟩ = some (.int .i64 0) := cell_of HM.out.r rfl
                have e2 : wr.cell? ⟨w.heap.size + 1, 2, none⟩ = some (.int .i64 0) := cell_of HM.out.r rfl
                have e3 : wr.cell? ⟨w.heap.size + 1, 3, none⟩ = some (.int .i64 0) := cell_of HM.out.r rfl
                have e4 : wr.cell? ⟨w.heap.size + 1, 4, none⟩ = some (.int .i64 0) := cell_of HM.out.r rfl
                have f0 : ∀ i, wr.frozen? ⟨w.heap.size + 1, i, none⟩ = false := fun i => frozen_of HM.out.r
                go_wp2
                have hend := made_end HM.out (.int .i64 wo) (.int .i64 sl) (.int .i64 st) (.int .i64 wa) (.int .i64 us)
                obtain ⟨hbk, hrow, hfr⟩ := hend
                unfold endW at hbk hrow hfr
                generalize ((((wr.setCell ⟨w.heap.size + 1, 0, none⟩ (.int .i64 wo)).setCell ⟨w.heap.size + 1, 1, none⟩ (.int .i64 sl)).setCell ⟨w.heap.size + 1, 2, none⟩ (.int .i64 st)).setCell ⟨w.heap.size + 1, 3, none⟩ (.int .i64 wa)).setCell ⟨w.heap.size + 1, 4, none⟩ (.int .i64 us) = W9 at hbk hrow hfr ⊢
                have m0 : W9.cell? ⟨w.heap.size + 1, 0, none⟩ = some (.int .i64 wo) := cell_of hbk rfl
                have m1 : W9.cell? ⟨w.heap.size + 1, 1, none⟩ = some (.int .i64 sl) := cell_of hbk rfl
                have m2 : W9.cell? ⟨w.heap.size + 1, 2, none⟩ = some (.int .i64 st) := cell_of hbk rfl
                have m3 : W9.cell? ⟨w.heap.size + 1, 3, none⟩ = some (.int .i64 wa) := cell_of hbk rfl
                have m4 : W9.cell? ⟨w.heap.size + 1, 4, none⟩ = some (.int .i64 us) := cell_of hbk rfl
                refine bodyPost_ret (v := .tuple #[ConfV.val ⟨wo, sl, st, wa, us⟩, .slice (some ⟨w2.heap.size, 0, none⟩) n n]) ?_ rfl ⟨⟨wo, sl, st, wa, us⟩, w2.heap.size, n, rfl, HSM.out, HN.out.symm, by have := HM.out.hq; omega, hrow, hfr⟩
                simp [results, Try.f9, go_sem, m0, m1, m2, m3, m4]
                rfl
            · skip
              have e0 : wr.cell? ⟨w.heap.size + 1, 0, none⟩ = some (.int .i64 0) := cell_of HM.out.r rfl
              have e1 : wr.cell? ⟨w.heap.size + 1, 1, none⟩ = some (.int .i64 0) := cell_of HM.out.r rfl
              have e2 : wr.cell? ⟨w.heap.size + 1, 2, none⟩ = some (.int .i64 0) := cell_of HM.out.r rfl
              have e3 : wr.cell? ⟨w.heap.size + 1, 3, none⟩ = some (.int .i64 0) := cell_of HM.out.r rfl
              have e4 : wr.cell? ⟨w.heap.size + 1, 4, none⟩ = some (.int .i64 0) := cell_of HM.out.r rfl
              have f0 : ∀ i, wr.frozen? ⟨w.heap.size + 1, i, none⟩ = false := fun i => frozen_of HM.out.r
              go_wp2
              have hend := made_end HM.out (.int .i64 wo) (.int .i64 sl) (.int .i64 st) (.int .i64 wa) (.int .i64 us)
              obtain ⟨hbk, hrow, hfr⟩ := hend
              unfold endW at hbk hrow hfr
              generalize ((((wr.setCell ⟨w.heap.size + 1, 0, none⟩ (.int .i64 wo)).setCell ⟨w.heap.size + 1, 1, none⟩ (.int .i64 sl)).setCell ⟨w.heap.size + 1, 2, none⟩ (.int .i64 st)).setCell ⟨w.heap.size + 1, 3, none⟩ (.int .i64 wa)).setCell ⟨w.heap.size + 1, 4, none⟩ (.int .i64 us) = W9 at hbk hrow hfr ⊢
              have m0 : W9.cell? ⟨w.heap.size + 1, 0, none⟩ = some (.int .i64 wo) := cell_of hbk rfl
              have m1 : W9.cell? ⟨w.heap.size + 1, 1, none⟩ = some (.int .i64 sl) := cell_of hbk rfl
              have m2 : W9.cell? ⟨w.heap.size + 1, 2, none⟩ = some (.int .i64 st) := cell_of hbk rfl
              have m3 : W9.cell? ⟨w.heap.size + 1, 3, none⟩ = some (.int .i64 wa) := cell_of hbk rfl
              have m4 : W9.cell? ⟨w.heap.size + 1, 4, none⟩ = some (.int .i64 us) := cell_of hbk rfl
              refine bodyPost_ret (v := .tuple #[ConfV.val ⟨wo, sl, st, wa, us⟩, .slice (some ⟨w2.heap.size, 0, none⟩) n n]) ?_ rfl ⟨⟨wo, sl, st, wa, us⟩, w2.heap.size, n, rfl, HSM.out, HN.out.symm, by have := HM.out.hq; omega, hrow, hfr⟩
              simp [results, Try.f9, go_sem, m0, m1, m2, m3, m4]
              rfl
      · have HM0 := HM
        go_wp2
        clear HM g5 g7 k0 k1 k2 k3 k4
        go_loopw [7] (fun i wr => ∃ k : Nat, k ≤ 5 ∧ i = .int .i64 (k : Int) ∧ MadeSt w GX b4 w2.heap.size n #[.int .i64 wo, .int .i64 sl, .int .i64 st, .int .i64 wa, .int .i64 us] wr) (fun i _ => 6 - (intOf i).toNat)
        case atStart => exact ⟨0, by omega, rfl, HM0.out⟩
        case round =>
          obtain ⟨k, hk, rfl, hM⟩ := hrel
          have HM := Lib.hid hM; clear hM
          have g5 : wr.cell? ⟨w.heap.size, 5, none⟩ = some (.slice gs ns cs) := cell_of HM.out.g (by rw [HGX.out]; rfl)
          have g7 : wr.cell? ⟨w.heap.size, 7, none⟩ = some (.slice gp np cp) := cell_of HM.out.g (by rw [HGX.out]; rfl)
          have k0 : wr.cell? ⟨b4, 0, none⟩ = some (.int .i64 wo) := cell_of HM.out.c rfl
          have k1 : wr.cell? ⟨b4, 1, none⟩ = some (.int .i64 sl) := cell_of HM.out.c rfl
          have k2 : wr.cell? ⟨b4, 2, none⟩ = some (.int .i64 st) := cell_of HM.out.c rfl
          have k3 : wr.cell? ⟨b4, 3, none⟩ = some (.int .i64 wa) := cell_of HM.out.c rfl
          have k4 : wr.cell? ⟨b4, 4, none⟩ = some (.int .i64 us) := cell_of HM.out.c rfl
          by_cases hks : (k : Int) < sl
          · by_cases hkp : (k : Int) < (ns : Int)
            · obtain ⟨sb, so, s, rfl, cfs⟩ := HS.out k (by omega)
              have s0 : wr.cell? ⟨sb, so + k * 9, none⟩ = some (.int .i64 s.state) := HM.out.f.cell (cfs 0 _ rfl) (by simp)
              have s1 : wr.cell? ⟨sb, so + k * 9 + 1, none⟩ = some (.int .i64 s.own) := HM.out.f.cell (cfs 1 _ rfl) (by simp)
              have s2 : wr.cell? ⟨sb, so + k * 9 + 2, none⟩ = some (.int .i64 s.streams) := HM.out.f.cell (cfs 2 _ rfl) (by simp)
              have s3 : wr.cell? ⟨sb, so + k * 9 + 3, none⟩ = some (.bool s.broken) := HM.out.f.cell (cfs 3 _ rfl) (by simp)
              have s4 : wr.cell? ⟨sb, so + k * 9 + 4, none⟩ = some (.bool s.marked) := HM.out.f.cell (cfs 4 _ rfl) (by simp)
              have s5 : wr.cell? ⟨sb, so + k * 9 + 5, none⟩ = some (.int .i64 s.uses) := HM.out.f.cell (cfs 5 _ rfl) (by simp)
              have s6 : wr.cell? ⟨sb, so + k * 9 + 6, none⟩ = some (.int .i64 s.gen) := HM.out.f.cell (cfs 6 _ rfl) (by simp)
              have s7 : wr.cell? ⟨sb, so + k * 9 + 7, none⟩ = some (.int .i64 s.epoch) := HM.out.f.cell (cfs 7 _ rfl) (by simp)
              have s8 : wr.cell? ⟨sb, so + k * 9 + 8, none⟩ = some (.int .i64 s.version) := HM.out.f.cell (cfs 8 _ rfl) (by simp)
              obtain ⟨j9, hj9⟩ : ∃ j9 : Nat, 3 + 2 * wo + (k : Int) = (j9 : Int) := ⟨(3 + 2 * wo + (k : Int)).toNat, by omega⟩
              have hj1 : (j9 : Int) < (n : Int) := by omega
              have hk0 : (0 : Int) ≤ (k : Int) := by omega
              go_wp2_with fail
              refine wp_region_held_drew (S := fun w' => w'.cell? ⟨b4, 0, none⟩ = some (.int .i64 wo) ∧ w'.cell? ⟨b4, 1, none⟩ = some (.int .i64 sl) ∧ w'.cell? ⟨b4, 2, none⟩ = some (.int .i64 st) ∧ w'.cell? ⟨b4, 3, none⟩ = some (.int .i64 wa) ∧ w'.cell? ⟨b4, 4, none⟩ = some (.int .i64 us) ∧ w'.cell? ⟨w.heap.size, 5, none⟩ = some (.slice (some ⟨sb, so, none⟩) ns cs) ∧ w'.cell? ⟨sb, so + k * 9, none⟩ = some (.int .i64 s.state) ∧ w'.cell? ⟨sb, so + k * 9 + 1, none⟩ = some (.int .i64 s.own) ∧ w'.cell? ⟨sb, so + k * 9 + 2, none⟩ = some (.int .i64 s.streams) ∧ w'.cell? ⟨sb, so + k * 9 + 3, none⟩ = some (.bool s.broken) ∧ w'.cell? ⟨sb, so + k * 9 + 4, none⟩ = some (.bool s.marked) ∧ w'.cell? ⟨sb, so + k * 9 + 5, none⟩ = some (.int .i64 s.uses) ∧ w'.cell? ⟨sb, so + k * 9 + 6, none⟩ = some (.int .i64 s.gen) ∧ w'.cell? ⟨sb, so + k * 9 + 7, none⟩ = some (.int .i64 s.epoch) ∧ w'.cell? ⟨sb, so + k * 9 + 8, none⟩ = some (.int .i64 s.version)) (by kernel_rfl) ⟨k0, k1, k2, k3, k4, g5, s0, s1, s2, s3, s4, s5, s6, s7, s8⟩ (fun hHeld => ?_)
              refine wpAnyH_take (i := 0) (oi := _) (v := ?_) rfl (by kernel_rfl) (by kernel_rfl) (by kernel_rfl) (fun _ _ _ h => h) (Or.inl ⟨by rfl, ?_⟩) (by assumption) ?_
              rotate_left
              · intro w hSw
                try dsimp only at hSw
                try simp only [List.getElem_toArray, List.getElem_cons_zero]
                go_split_ands
                go_simp
                try with_reducible rfl
              try simp only [Act.put, List.getElem_toArray, List.getElem_cons_zero, List.setIfInBounds_toArray, List.set_cons_zero, List.set_cons_succ]
              refine wpAnyH_take (i := 1) (oi := _) (v := ?_) rfl (by kernel_rfl) (by kernel_rfl) (by kernel_rfl) (fun _ _ _ h => h) (Or.inl ⟨by rfl, ?_⟩) (by assumption) ?_
              rotate_left
              · intro w hSw
                try dsimp only at hSw
                try simp only [List.getElem_toArray, List.getElem_cons_succ, List.getElem_cons_zero]
                go_split_ands
                go_simp
                try with_reducible rfl
              try simp only [Act.put, List.getElem_toArray, List.getElem_cons_succ, List.getElem_cons_zero, List.setIfInBounds_toArray, List.set_cons_zero, List.set_cons_succ]
              refine wpAnyH_take (i := 2) (oi := _) (v := ?_) rfl (by kernel_rfl) (by kernel_rfl) (by kernel_rfl) (fun _ _ _ h => h) (Or.inl ⟨by rfl, ?_⟩) (by assumption) ?_
              rotate_left
              · intro w hSw
                try dsimp only at hSw
                try simp only [List.getElem_toArray, List.getElem_cons_succ, List.getElem_cons_zero]
                go_split_ands
                go_simp
                try with_reducible rfl
              try simp only [Act.put, List.getElem_toArray, List.getElem_cons_succ, List.getElem_cons_zero, List.setIfInBounds_toArray, List.set_cons_zero, List.set_cons_succ]
              refine wpAnyH_take (i := 4) (oi := _) (v := ?_) rfl (by kernel_rfl) (by kernel_rfl) (by kernel_rfl) (fun _ _ _ h => h) (Or.inl ⟨by rfl, ?_⟩) (by assumption) ?_
              rotate_left
              · intro w hSw
                try dsimp only at hSw
                try simp only [List.getElem_toArray, List.getElem_cons_succ, List.getElem_cons_zero]
                go_split_ands
                go_simp
                try with_reducible rfl
              try simp only [Act.put, List.getElem_toArray, List.getElem_cons_succ, List.getElem_cons_zero, List.setIfInBounds_toArray, List.set_cons_zero, List.set_cons_succ]
              refine wpAnyH_take (i := 5) (oi := _) (v := ?_) rfl (by kernel_rfl) (by kernel_rfl) (by kernel_rfl) (fun _ _ _ h => h) (Or.inl ⟨by rfl, ?_⟩) (by assumption) ?_
              rotate_left
              · intro w hSw
                try dsimp only at hSw
                try simp only [List.getElem_toArray, List.getElem_cons_succ, List.getElem_cons_zero]
                go_split_ands
                go_simp
                try with_reducible rfl
              try simp only [Act.put, List.getElem_toArray, List.getElem_cons_succ, List.getElem_cons_zero, List.setIfInBounds_toArray, List.set_cons_zero, List.set_cons_succ]
              refine wpAnyH_take (i := 6) (oi := _) (v := ?_) rfl (by kernel_rfl) (by kernel_rfl) (by kernel_rfl) (fun _ _ _ h => h) (Or.inl ⟨by rfl, ?_⟩) (by assumption) ?_
              rotate_left
              · intro w hSw
                try dsimp only at hSw
                try simp only [List.getElem_toArray, List.getElem_cons_succ, List.getElem_cons_zero]
                go_split_ands
                go_simp
                try with_reducible rfl
              try simp only [Act.put, List.getElem_toArray, List.getElem_cons_succ, List.getElem_cons_zero, List.setIfInBounds_toArray, List.set_cons_zero, List.set_cons_succ]
              refine wpAnyH_take (i := 7) (oi := _) (v := ?_) rfl (by kernel_rfl) (by kernel_rfl) (by kernel_rfl) (fun _ _ _ h => h) (Or.inl ⟨by rfl, ?_⟩) (by assumption) ?_
              rotate_left
              · intro w hSw
                try dsimp only at hSw
                try simp only [List.getElem_toArray, List.getElem_cons_succ, List.getElem_cons_zero]
                go_split_ands
                go_simp
                try with_reducible rfl
              try simp only [Act.put, List.getElem_toArray, List.getElem_cons_succ, List.getElem_cons_zero, List.setIfInBounds_toArray, List.set_cons_zero, List.set_cons_succ]
              refine wpAnyH_take (i := 8) (oi := _) (v := ?_) rfl (by kernel_rfl) (by kernel_rfl) (by kernel_rfl) (fun _ _ _ h => h) (Or.inl ⟨by rfl, ?_⟩) (by assumption) ?_
              rotate_left
              · intro w hSw
                try dsimp only at hSw
                try simp only [List.getElem_toArray, List.getElem_cons_succ, List.getElem_cons_zero]
                go_split_ands
                go_simp
                try with_reducible rfl
              try simp only [Act.put, List.getElem_toArray, List.getElem_cons_succ, List.getElem_cons_zero, List.setIfInBounds_toArray, List.set_cons_zero, List.set_cons_succ]
              refine wpAnyH_ready (rs := [3]) (by kernel_rfl) (by simp) ?_
              refine AllReadyH.cons (o := _) rfl (fun K hK => ?_) AllReadyH.nil
              simp only [List.getElem_toArray, List.getElem_cons_succ, List.getElem_cons_zero]
              go_simp
              refine (rslot_any _ ⟨wo, sl, st, wa, us⟩ k HSM.out (by omega) hks).mono ?_
              unfold ConfV.slot
              simp only
              rintro en w5 ⟨rfl, f5⟩
              have HM2 := Lib.hid (HM.out.drew.fr f5)
              go_wp2_with fail
              refine hK.out _ _ ⟨f5.cell k0 (by simp), f5.cell k1 (by simp), f5.cell k2 (by simp), f5.cell k3 (by simp), f5.cell k4 (by simp), f5.cell g5 (by simp), f5.cell s0 (by simp), f5.cell s1 (by simp), f5.cell s2 (by simp), f5.cell s3 (by simp), f5.cell s4 (by simp), f5.cell s5 (by simp), f5.cell s6 (by simp), f5.cell s7 (by simp), f5.cell s8 (by simp)⟩ (fun hHeld => ?_)
              clear hK K
              try simp only [Act.put, List.getElem_toArray, List.getElem_cons_succ, List.getElem_cons_zero, List.setIfInBounds_toArray, List.set_cons_zero, List.set_cons_succ]
              refine wpAnyH_ready (rs := [9]) (by kernel_rfl) (by simp) ?_
              refine AllReadyH.cons (o := _) rfl (fun K hK => ?_) AllReadyH.nil
              simp only [List.getElem_toArray, List.getElem_cons_succ, List.getElem_cons_zero]
              go_simp
              refine (sword_any _ s).mono ?_
              rintro en w6 ⟨⟨x, rfl⟩, f6⟩
              have HM3 := Lib.hid (HM2.out.fr f6)
              obtain ⟨⟨z9, u9⟩, v9⟩ := HM3.out.row.cell (i := j9) (by omega)
              go_wp2_with fail
              refine hK.out _ _ ⟨cell_of HM3.out.c rfl, cell_of HM3.out.c rfl, cell_of HM3.out.c rfl, cell_of HM3.out.c rfl, cell_of HM3.out.c rfl, cell_of HM3.out.g (by rw [HGX.out]; rfl), HM3.out.f.cell (cfs 0 _ rfl) (by simp), HM3.out.f.cell (cfs 1 _ rfl) (by simp), HM3.out.f.cell (cfs 2 _ rfl) (by simp), HM3.out.f.cell (cfs 3 _ rfl) (by simp), HM3.out.f.cell (cfs 4 _ rfl) (by simp), HM3.out.f.cell (cfs 5 _ rfl) (by simp), HM3.out.f.cell (cfs 6 _ rfl) (by simp), HM3.out.f.cell (cfs 7 _ rfl) (by simp), HM3.out.f.cell (cfs 8 _ rfl) (by simp)⟩ (fun hHeld => ?_)
              clear hK K
              try simp only [Act.put, List.getElem_toArray, List.getElem_cons_succ, List.getElem_cons_zero, List.setIfInBounds_toArray, List.set_cons_zero, List.set_cons_succ]
              refine wpAnyH_take (i := 10) (oi := _) (v := ?_) rfl (by kernel_rfl) (by kernel_rfl) (by kernel_rfl) (fun _ _ _ h => h) (Or.inl ⟨by rfl, ?_⟩) (by assumption) ?_
              rotate_left
              · intro w hSw
                try dsimp only at hSw
                try simp only [List.getElem_toArray, List.getElem_cons_succ, List.getElem_cons_zero]
                go_split_ands
                go_simp
                try with_reducible rfl
              try simp only [Act.put, List.getElem_toArray, List.getElem_cons_succ, List.getElem_cons_zero, List.setIfInBounds_toArray, List.set_cons_zero, List.set_cons_succ]
              refine wpAnyH_ready (rs := [11]) (by kernel_rfl) (by simp) ?_
              refine AllReadyH.cons (o := _) rfl (fun K hK => ?_) AllReadyH.nil
              simp only [List.getElem_toArray, List.getElem_cons_succ, List.getElem_cons_zero]
              go_simp
              have HM4 := Lib.hid (HM3.out.put j9 x)
              refine hK.out _ _ ⟨cell_of HM4.out.c rfl, cell_of HM4.out.c rfl, cell_of HM4.out.c rfl, cell_of HM4.out.c rfl, cell_of HM4.out.c rfl, cell_of HM4.out.g (by rw [HGX.out]; rfl), HM4.out.f.cell (cfs 0 _ rfl) (by simp), HM4.out.f.cell (cfs 1 _ rfl) (by simp), HM4.out.f.cell (cfs 2 _ rfl) (by simp), HM4.out.f.cell (cfs 3 _ rfl) (by simp), HM4.out.f.cell (cfs 4 _ rfl) (by simp), HM4.out.f.cell (cfs 5 _ rfl) (by simp), HM4.out.f.cell (cfs 6 _ rfl) (by simp), HM4.out.f.cell (cfs 7 _ rfl) (by simp), HM4.out.f.cell (cfs 8 _ rfl) (by simp)⟩ (fun hHeld => ?_)
              clear hK K hHeld
              try simp only [Act.put, List.getElem_toArray, List.getElem_cons_succ, List.getElem_cons_zero, List.setIfInBounds_toArray, List.set_cons_zero, List.set_cons_succ]
              refine wpAnyH_done (by kernel_rfl) ?_ _
              go_wp2
              go_roundw
              case rel => exact ⟨k + 1, by omega, by go_num, HM4.out⟩
              case measure => simp [intOf]; omega
            · skip
              have e0 : wr.cell? ⟨w.heap.size + 1, 0, none⟩ = some (.int .i64 0) := cell_of HM.out.r rfl
              have e1 : wr.cell? ⟨w.heap.size + 1, 1, none⟩ = some (.int .i64 0) := cell_of HM.out.r rfl
              have e2 : wr.cell? ⟨w.heap.size + 1, 2, none⟩ = some (.int .i64 0) := cell_of HM.out.r rfl
              have e3 : wr.cell? ⟨w.heap.size + 1, 3, none⟩ = some (.int .i64 0) := cell_of HM.out.r rfl
              have e4 : wr.cell? ⟨w.heap.size + 1, 4, none⟩ = some (.int .i64 0) := cell_of HM.out.r rfl
              have f0 : ∀ i, wr.frozen? ⟨w.heap.size + 1, i, none⟩ = false := fun i => frozen_of HM.out.r
              go_wp2
              have hend := made_end HM.out (.int .i64 wo) (.int .i64 sl) (.int .i64 st) (.int .i64 wa) (.int .i64 us)
              obtain ⟨hbk, hrow, hfr⟩ := hend
              unfold endW at hbk hrow hfr
              generalize ((((wr.setCell ⟨w.heap.size + 1, 0, none⟩ (.int .i64 wo)).setCell ⟨w.heap.size + 1, 1, none⟩ (.int .i64 sl)).setCell ⟨w.heap.size + 1, 2, none⟩ (.int .i64 st)).setCell ⟨w.heap.size + 1, 3, none⟩ (.int .i64 wa)).setCell ⟨w.heap.size + 1, 4, none⟩ (.int .i64 us) = W9 at hbk hrow hfr ⊢
              have m0 : W9.cell? ⟨w.heap.size + 1, 0, none⟩ = some (.int .i64 wo) := cell_of hbk rfl
              have m1 : W9.cell? ⟨w.heap.size + 1, 1, none⟩ = some (.int .i64 sl) := cell_of hbk rfl
              have m2 : W9.cell? ⟨w.heap.size + 1, 2, none⟩ = some (.int .i64 st) := cell_of hbk rfl
              have m3 : W9.cell? ⟨w.heap.size + 1, 3, none⟩ = some (.int .i64 wa) := cell_of hbk rfl
              have m4 : W9.cell? ⟨w.heap.size + 1, 4, none⟩ = some (.int .i64 us) := cell_of hbk rfl
              refine bodyPost_ret (v := .tuple #[ConfV.val ⟨wo, sl, st, wa, us⟩, .slice (some ⟨w2.heap.size, 0, none⟩) n n]) ?_ rfl ⟨⟨wo, sl, st, wa, us⟩, w2.heap.size, n, rfl, HSM.out, HN.out.symm, by have := HM.out.hq; omega, hrow, hfr⟩
              simp [results, Try.f9, go_sem, m0, m1, m2, m3, m4]
              rfl
          · skip
            have e0 : wr.cell? ⟨w.heap.size + 1, 0, none⟩ = some (.int .i64 0) := cell_of HM.out.r rfl
            have e1 : wr.cell? ⟨w.heap.size + 1, 1, none⟩ = some (.int .i64 0) := cell_of HM.out.r rfl
            have e2 : wr.cell? ⟨w.heap.size + 1, 2, none⟩ = some (.int .i64 0) := cell_of HM.out.r rfl
            have e3 : wr.cell? ⟨w.heap.size + 1, 3, none⟩ = some (.int .i64 0) := cell_of HM.out.r rfl
            have e4 : wr.cell? ⟨w.heap.size + 1, 4, none⟩ = some (.int .i64 0) := cell_of HM.out.r rfl
            have f0 : ∀ i, wr.frozen? ⟨w.heap.size + 1, i, none⟩ = false := fun i => frozen_of HM.out.r
            go_wp2
            have hend := made_end HM.out (.int .i64 wo) (.int .i64 sl) (.int .i64 st) (.int .i64 wa) (.int .i64 us)
            obtain ⟨hbk, hrow, hfr⟩ := hend
            unfold endW at hbk hrow hfr
            generalize ((((wr.setCell ⟨w.heap.size + 1, 0, none⟩ (.int .i64 wo)).setCell ⟨w.heap.size + 1, 1, none⟩ (.int .i64 sl)).setCell ⟨w.heap.size + 1, 2, none⟩ (.int .i64 st)).setCell ⟨w.heap.size + 1, 3, none⟩ (.int .i64 wa)).setCell ⟨w.heap.size + 1, 4, none⟩ (.int .i64 us) = W9 at hbk hrow hfr ⊢
            have m0 : W9.cell? ⟨w.heap.size + 1, 0, none⟩ = some (.int .i64 wo) := cell_of hbk rfl
            have m1 : W9.cell? ⟨w.heap.size + 1, 1, none⟩ = some (.int .i64 sl) := cell_of hbk rfl
            have m2 : W9.cell? ⟨w.heap.size + 1, 2, none⟩ = some (.int .i64 st) := cell_of hbk rfl
            have m3 : W9.cell? ⟨w.heap.size + 1, 3, none⟩ = some (.int .i64 wa) := cell_of hbk rfl
            have m4 : W9.cell? ⟨w.heap.size + 1, 4, none⟩ = some (.int .i64 us) := cell_of hbk rfl
            refine bodyPost_ret (v := .tuple #[ConfV.val ⟨wo, sl, st, wa, us⟩, .slice (some ⟨w2.heap.size, 0, none⟩) n n]) ?_ rfl ⟨⟨wo, sl, st, wa, us⟩, w2.heap.size, n, rfl, HSM.out, HN.out.symm, by have := HM.out.hq; omega, hrow, hfr⟩
            simp [results, Try.f9, go_sem, m0, m1, m2, m3, m4]
            rfl

end Go.Proofs.Ytnjoefanafjniaa

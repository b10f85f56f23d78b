/- What came in, opened: what is given, words that others store, truth values. -/
import Derived.Test.YtnjoefanafjniaaOpen
import Derived.Test.YtnjoefanafjniaaTwW
import Derived.Lib.SmallJoins
namespace Go.Proofs.Ytnjoefanafjniaa
open Go.ChangeShapes Go.WideShapes Go.Deep Go.RowKit Go.Joins

theorem list_of {α : Type} {P : Nat → α → Prop} (n : Nat) (h : ∀ i, i < n → ∃ x, P i x) : ∃ l : List α, l.length = n ∧ ∀ (j : Nat) (x : α), l[j]? = some x → P j x := by
  induction n with
  | zero => exact ⟨[], rfl, fun j x hx => by simp at hx⟩
  | succ n ih =>
    obtain ⟨l, hl, hp⟩ := ih (fun i hi => h i (by omega))
    obtain ⟨x, hx⟩ := h n (by omega)
    refine ⟨l ++ [x], by simp [hl], fun j y hy => ?_⟩
    rw [List.getElem?_append] at hy
    split at hy
    · exact hp j y hy
    · have hj : j - l.length = 0 := by
        rcases Nat.eq_zero_or_pos (j - l.length) with h0 | h0
        · exact h0
        · rw [List.getElem?_eq_none (by simp; omega)] at hy; cases hy
      rw [hj] at hy
      simp at hy
      subst hy
      rw [show j = n by omega]; exact hx
theorem list8 {α : Type} (l : List α) (h : l.length = 8) : ∃ a0 a1 a2 a3 a4 a5 a6 a7, l = [a0, a1, a2, a3, a4, a5, a6, a7] := by
  match l, h with
  | [a0, a1, a2, a3, a4, a5, a6, a7], _ => exact ⟨a0, a1, a2, a3, a4, a5, a6, a7, rfl⟩
theorem got {α : Type} {o : Option α} {l : List α} {k : Nat} (h : o = l[k]?) (hk : k < l.length) : ∃ y, o = some y := ⟨_, h.trans (List.getElem?_eq_getElem hk)⟩
theorem cof_u8 : Try.prog.cellsOf 5 = 1 := by kernel_rfl
theorem cof_bool : Try.prog.cellsOf 4 = 1 := by kernel_rfl
theorem cof_g12 : Try.prog.cellsOf 23 = 5 := by kernel_rfl
theorem cof_slots : Try.prog.cellsOf 24 = 1 := by kernel_rfl
theorem cof_byts : Try.prog.cellsOf 25 = 1 := by kernel_rfl
theorem cof_g14 : Try.prog.cellsOf 27 = 8 := by kernel_rfl

section
variable {H : Type} {enc : TypeId × Value → H} {w : World} {base : Nat} {spare : Nat → Bool} {held : Bool}
theorem open_by {fuel : Nat} {c : Value} {x : DataW H × List MemPlace} (h : DataW.trod enc Try.prog w base spare held fuel 25 [c] = some x) :
    ∃ (g : Option Addr) (len cap : Nat), c = .slice g len cap ∧ len ≤ 9223372036854775807 ∧ ByAt w g len := by
  rcases open_ints Try.underlying25 Try.underlying5 (by kernel_rfl) h with ⟨hcs, _⟩ | ⟨a, len, cap, zs, hcs, _, hl, hm, hz, _, hcell, hwz⟩
  · simp at hcs
    subst hcs
    exact ⟨none, 0, 0, rfl, by omega, fun j hj => by omega⟩
  · simp at hcs
    subst hcs
    obtain ⟨b, off, spot⟩ := a
    have hz' : len ≤ zs.length ∧ zs.length ≤ cap := by simp only at hz; split at hz <;> omega
    refine ⟨_, len, cap, rfl, by unfold maxLen at hm; omega, fun j hj => ?_⟩
    have hc := hcell j (by omega)
    have h0 := hcell 0 (by omega)
    have hspot : spot = none := by
      have := World.cell?_spot h0
      simpa [Addr.add] using this
    subst hspot
    have hm2 : zs.getD j 0 ∈ zs := by rw [List.getD_eq_getElem?_getD, List.getElem?_eq_getElem (by omega)]; exact List.getElem_mem _
    exact ⟨b, off, zs.getD j 0, rfl, add_at hc, bounds_u8 (hwz _ hm2)⟩
theorem open_sl {fuel : Nat} {c : Value} {x : DataW H × List MemPlace} (h : DataW.trod enc Try.prog w base spare held fuel 24 [c] = some x) :
    ∃ (g : Option Addr) (len cap : Nat), c = .slice g len cap ∧ len ≤ 9223372036854775807 ∧ SlAt w g len := by
  rcases open_slice_fields Try.underlying24 Try.underlying66 (by kernel_rfl) (by kernel_rfl) h with e | ⟨a, len, cap, e, hl, hm, hf⟩
  · simp at e
    subst e
    exact ⟨none, 0, 0, rfl, by omega, fun j hj => by omega⟩
  · simp at e
    subst e
    obtain ⟨b, off, spot⟩ := a
    refine ⟨_, len, cap, rfl, by unfold maxLen at hm; omega, fun i hi => ?_⟩
    have hspot : spot = none := by
      obtain ⟨n, hfi⟩ := hf 0 (by omega)
      obtain ⟨v0, y0, c0, t0⟩ := hfi 0 _ rfl
      have := World.cell?_spot c0
      simpa [Addr.add] using this
    subst hspot
    obtain ⟨n, hfi⟩ := hf i hi
    obtain ⟨v0, y0, c0, t0⟩ := hfi 0 _ rfl
    obtain ⟨v1, y1, c1, t1⟩ := hfi 1 _ rfl
    obtain ⟨v2, y2, c2, t2⟩ := hfi 2 _ rfl
    obtain ⟨v3, y3, c3, t3⟩ := hfi 3 _ rfl
    obtain ⟨v4, y4, c4, t4⟩ := hfi 4 _ rfl
    obtain ⟨v5, y5, c5, t5⟩ := hfi 5 _ rfl
    obtain ⟨v6, y6, c6, t6⟩ := hfi 6 _ rfl
    obtain ⟨v7, y7, c7, t7⟩ := hfi 7 _ rfl
    obtain ⟨v8, y8, c8, t8⟩ := hfi 8 _ rfl
    obtain ⟨a0, e0, _, _⟩ := DataW.trod_int Try.underlying3 t0
    obtain ⟨a1, e1, _, _⟩ := DataW.trod_int Try.underlying3 t1
    obtain ⟨a2, e2, _, _⟩ := DataW.trod_int Try.underlying3 t2
    obtain ⟨a3, e3, _⟩ := DataW.trod_bool Try.underlying4 t3
    obtain ⟨a4, e4, _⟩ := DataW.trod_bool Try.underlying4 t4
    obtain ⟨a5, e5, _, _⟩ := DataW.trod_int Try.underlying3 t5
    obtain ⟨a6, e6, _, _⟩ := DataW.trod_int Try.underlying3 t6
    obtain ⟨a7, e7, _, _⟩ := DataW.trod_int Try.underlying3 t7
    obtain ⟨a8, e8, _, _⟩ := DataW.trod_int Try.underlying3 t8
    simp at e0 e1 e2 e3 e4 e5 e6 e7 e8
    subst e0 e1 e2 e3 e4 e5 e6 e7 e8
    refine ⟨b, off, ⟨a0, a1, a2, a3, a4, a5, a6, a7, a8⟩, rfl, fun k v hv => ?_⟩
    rw [Nat.add_assoc]
    match k, hv with
    | 0, hv => cases hv; exact add_at c0
    | 1, hv => cases hv; exact add_at c1
    | 2, hv => cases hv; exact add_at c2
    | 3, hv => cases hv; exact add_at c3
    | 4, hv => cases hv; exact add_at c4
    | 5, hv => cases hv; exact add_at c5
    | 6, hv => cases hv; exact add_at c6
    | 7, hv => cases hv; exact add_at c7
    | 8, hv => cases hv; exact add_at c8
    | k + 9, hv => simp [SlotV.cells] at hv
theorem open_given {r : Reach} {b0 : Nat} {v : Value} {d : DataW H} {p : List MemPlace} (hv : Value.okWide Try.prog w r b0 27 v) (h : DataW.Trod enc Try.prog w base spare held 27 v d p) :
    ∃ g : GivV, v = g.val ∧ g.right w := by
  obtain ⟨cs, rfl, hsz⟩ := okWide_struct Try.underlying27 hv
  obtain ⟨fuel, hf0⟩ := h
  have hf1 : DataW.trod enc Try.prog w base spare held fuel 27 cs.toList = some (d, p) := hf0
  obtain ⟨ys, n', hn', hy, hlen, hyl, hf⟩ := DataW.trod_struct Try.underlying27 hf1
  rw [cof_g14] at hlen
  obtain ⟨c0, c1, c2, c3, c4, c5, c6, c7, hcs⟩ := list8 cs.toList hlen
  rw [hcs] at hf
  have hyl4 : ys.length = 4 := hyl
  have g0 : DataW.trod enc Try.prog w base spare held n' 23 (([c0, c1, c2, c3, c4, c5, c6, c7].drop 0).take (Try.prog.cellsOf 23)) = ys[0]? := hf 0 _ rfl
  have g1 : DataW.trod enc Try.prog w base spare held n' 24 (([c0, c1, c2, c3, c4, c5, c6, c7].drop 5).take (Try.prog.cellsOf 24)) = ys[1]? := hf 1 _ rfl
  have g2 : DataW.trod enc Try.prog w base spare held n' 25 (([c0, c1, c2, c3, c4, c5, c6, c7].drop 6).take (Try.prog.cellsOf 25)) = ys[2]? := hf 2 _ rfl
  have g3 : DataW.trod enc Try.prog w base spare held n' 25 (([c0, c1, c2, c3, c4, c5, c6, c7].drop 7).take (Try.prog.cellsOf 25)) = ys[3]? := hf 3 _ rfl
  rw [cof_g12] at g0
  rw [cof_slots] at g1
  rw [cof_byts] at g2 g3
  obtain ⟨y0, t0⟩ := got g0 (by omega)
  obtain ⟨y1, t1⟩ := got g1 (by omega)
  obtain ⟨y2, t2⟩ := got g2 (by omega)
  obtain ⟨y3, t3⟩ := got g3 (by omega)
  obtain ⟨zs, m', hm', hz, hzlen, hzl, hg⟩ := DataW.trod_struct Try.underlying23 t0
  have hzl5 : zs.length = 5 := hzl
  have k0 : DataW.trod enc Try.prog w base spare held m' 5 (([c0, c1, c2, c3, c4].drop 0).take (Try.prog.cellsOf 5)) = zs[0]? := hg 0 _ rfl
  have k1 : DataW.trod enc Try.prog w base spare held m' 5 (([c0, c1, c2, c3, c4].drop 1).take (Try.prog.cellsOf 5)) = zs[1]? := hg 1 _ rfl
  have k2 : DataW.trod enc Try.prog w base spare held m' 5 (([c0, c1, c2, c3, c4].drop 2).take (Try.prog.cellsOf 5)) = zs[2]? := hg 2 _ rfl
  have k3 : DataW.trod enc Try.prog w base spare held m' 5 (([c0, c1, c2, c3, c4].drop 3).take (Try.prog.cellsOf 5)) = zs[3]? := hg 3 _ rfl
  have k4 : DataW.trod enc Try.prog w base spare held m' 5 (([c0, c1, c2, c3, c4].drop 4).take (Try.prog.cellsOf 5)) = zs[4]? := hg 4 _ rfl
  rw [cof_u8] at k0 k1 k2 k3 k4
  obtain ⟨z0, s0⟩ := got k0 (by omega)
  obtain ⟨z1, s1⟩ := got k1 (by omega)
  obtain ⟨z2, s2⟩ := got k2 (by omega)
  obtain ⟨z3, s3⟩ := got k3 (by omega)
  obtain ⟨z4, s4⟩ := got k4 (by omega)
  obtain ⟨a0, e0, _, w0⟩ := DataW.trod_int Try.underlying5 s0
  obtain ⟨a1, e1, _, w1⟩ := DataW.trod_int Try.underlying5 s1
  obtain ⟨a2, e2, _, w2⟩ := DataW.trod_int Try.underlying5 s2
  obtain ⟨a3, e3, _, w3⟩ := DataW.trod_int Try.underlying5 s3
  obtain ⟨a4, e4, _, w4⟩ := DataW.trod_int Try.underlying5 s4
  simp at e0 e1 e2 e3 e4
  subst e0 e1 e2 e3 e4
  obtain ⟨gs, ns, cps, rfl, ls, hS⟩ := open_sl t1
  obtain ⟨gf, nf, cpf, rfl, lf, hF⟩ := open_by t2
  obtain ⟨gp, np, cpp, rfl, lp, hP⟩ := open_by t3
  refine ⟨⟨a0, a1, a2, a3, a4, gs, ns, cps, gf, nf, cpf, gp, np, cpp⟩, ?_, bounds_u8 w0, bounds_u8 w1, bounds_u8 w2, bounds_u8 w3, bounds_u8 w4, hS, hF, hP, ls, lf, lp⟩
  obtain ⟨l⟩ := cs
  simp at hcs
  subst hcs
  rfl
theorem open_writes {fuel : Nat} {g : Option Addr} {len cap : Nat} {x : DataW H × List MemPlace} (h : DataW.trod enc Try.prog w base spare held fuel 28 [.slice g len cap] = some x) :
    ∃ l : List WrV, l.length = len ∧ WrsAt w g l := by
  rcases open_slice_fields Try.underlying28 Try.underlying45 (by kernel_rfl) (by kernel_rfl) h with e | ⟨a, len', cap', e, hl, hm, hf⟩
  · simp at e
    obtain ⟨rfl, rfl, rfl⟩ := e
    exact ⟨[], rfl, WrsAt.empty _ _⟩
  · simp at e
    obtain ⟨rfl, rfl, rfl⟩ := e
    obtain ⟨b, off, spot⟩ := a
    obtain ⟨l, hll, hp⟩ := list_of (P := fun i (o : WrV) => (0 ≤ o.wh ∧ o.wh ≤ 255) ∧ (0 ≤ o.pl ∧ o.pl ≤ 255) ∧ w.cell? ⟨b, off + i * 3, none⟩ = some (.int .u8 o.wh) ∧ w.cell? ⟨b, off + i * 3 + 1, none⟩ = some (.int .u8 o.pl) ∧
        w.cell? ⟨b, off + i * 3 + 2, none⟩ = some (.int .i64 o.v)) len (fun i hi => by
      obtain ⟨n, hfi⟩ := hf i hi
      obtain ⟨v0, y0, c0, t0⟩ := hfi 0 _ rfl
      obtain ⟨v1, y1, c1, t1⟩ := hfi 1 _ rfl
      obtain ⟨v2, y2, c2, t2⟩ := hfi 2 _ rfl
      obtain ⟨k, e0, _, w0⟩ := DataW.trod_int Try.underlying5 t0
      obtain ⟨i', e1, _, w1⟩ := DataW.trod_int Try.underlying5 t1
      obtain ⟨v', e2, _, _⟩ := DataW.trod_int Try.underlying3 t2
      simp at e0 e1 e2
      subst e0 e1 e2
      refine ⟨⟨k, i', v'⟩, bounds_u8 w0, bounds_u8 w1, ?_, ?_, ?_⟩
      · exact add_at c0
      · rw [Nat.add_assoc]; exact add_at c1
      · rw [Nat.add_assoc]; exact add_at c2)
    refine ⟨l, hll, by unfold maxLen at hm; omega, fun j o hj => ?_⟩
    obtain ⟨h0, h1, c0, c1, c2⟩ := hp j o hj
    have hspot : spot = none := by
      obtain ⟨n, hfi⟩ := hf 0 (by have := (List.getElem?_eq_some_iff.1 hj).1; omega)
      obtain ⟨v0, y0, c0, t0⟩ := hfi 0 _ rfl
      have := World.cell?_spot c0
      simpa [Addr.add] using this
    subst hspot
    exact ⟨h0, h1, b, off, rfl, c0, c1, c2⟩
theorem open_bos {fuel : Nat} {g : Option Addr} {len cap : Nat} {x : DataW H × List MemPlace} (h : DataW.trod enc Try.prog w base spare held fuel 51 [.slice g len cap] = some x) :
    ∃ l : List Bool, l.length = len ∧ BosAt w g l := by
  rcases open_slice Try.underlying51 h with h0 | ⟨a, len', cap', m, n, D, Pl, hcs, hb, hl, hm, hmm, hx, hi⟩
  · have e := h0.1
    simp at e
    obtain ⟨rfl, rfl, rfl⟩ := e
    exact ⟨[], rfl, BosAt.empty _ _⟩
  · simp at hcs
    obtain ⟨rfl, rfl, rfl⟩ := hcs
    obtain ⟨b, off, spot⟩ := a
    obtain ⟨L, hL, hp⟩ := list_of (P := fun i (y : Bool) => w.cell? ⟨b, off + i, none⟩ = some (.bool y) ∧ (i = 0 → spot = none)) len (fun i hil => by
      obtain ⟨cs', hc, ht'⟩ := hi i (by split at hmm <;> omega)
      rw [cof_bool] at hc
      obtain ⟨_, hcl, hat⟩ := World.cells?_some hc
      obtain ⟨y, rfl, _⟩ := DataW.trod_bool Try.underlying4 ht'
      have h1 := hat 0 (by omega)
      rw [Go.Deep.add_add, Nat.mul_one, Nat.add_zero] at h1
      refine ⟨y, add_at h1, fun e => ?_⟩
      subst e
      have hs0 := World.cell?_spot (h1.trans (show ([Value.bool y] : List Value)[0]? = some _ from rfl))
      simpa [Addr.add] using hs0)
    refine ⟨L, hL, by unfold maxLen at hm; omega, fun j y hy => ?_⟩
    have hsp : spot = none := by
      obtain ⟨y0, hy0⟩ : ∃ y0, L[0]? = some y0 := ⟨_, List.getElem?_eq_getElem (by have := (List.getElem?_eq_some_iff.1 hy).1; omega)⟩
      exact (hp 0 y0 hy0).2 rfl
    subst hsp
    exact ⟨b, off, rfl, (hp j y hy).1⟩
end

end Go.Proofs.Ytnjoefanafjniaa

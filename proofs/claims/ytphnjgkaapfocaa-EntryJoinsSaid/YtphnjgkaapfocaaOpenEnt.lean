/- Entries, and bytes, that came in as slices. -/
import Derived.Test.YtphnjgkaapfocaaOpen
import Derived.Test.YtphnjgkaapfocaaEnt
import Derived.Lib.SmallJoins
namespace Go.Proofs.Ytphnjgkaapfocaa
open Go.ChangeShapes Go.WideShapes Go.Deep Go.RowKit Go.Joins

theorem list_of {α : Type} {P : Nat → α → Prop} (n : Nat) (h : ∀ i, i < n → ∃ x, P i x) : ∃ l : List α, l.length = n ∧ ∀ (j : Nat) (x : α), l[j]? = some x → P j x := by
  induction n with
  | zero => exact ⟨[], rfl, fun j x hx => by simp at hx⟩
  | succ n ih =>
    obtain ⟨l, hl, hp⟩ := ih (fun i hi => h i (by omega))
    obtain ⟨x, hx⟩ := h n (by omega)
    refine ⟨l ++ [x], by simp [hl], fun j y hy => ?_⟩
    rw [List.getElem?_append] at hy
    split at hy
    · exact hp j y hy
    · have hj : j - l.length = 0 := by
        rcases Nat.eq_zero_or_pos (j - l.length) with h0 | h0
        · exact h0
        · rw [List.getElem?_eq_none (by simp; omega)] at hy; cases hy
      rw [hj] at hy
      simp at hy
      subst hy
      rw [show j = n by omega]; exact hx
theorem list11 {α : Type} (l : List α) (h : l.length = 11) : ∃ a0 a1 a2 a3 a4 a5 a6 a7 a8 a9 a10, l = [a0, a1, a2, a3, a4, a5, a6, a7, a8, a9, a10] := by
  match l, h with
  | [a0, a1, a2, a3, a4, a5, a6, a7, a8, a9, a10], _ => exact ⟨a0, a1, a2, a3, a4, a5, a6, a7, a8, a9, a10, rfl⟩
theorem got {α : Type} {o : Option α} {l : List α} {k : Nat} (h : o = l[k]?) (hk : k < l.length) : ∃ y, o = some y := ⟨_, h.trans (List.getElem?_eq_getElem hk)⟩
theorem cof_int : Try.prog.cellsOf 3 = 1 := by kernel_rfl
theorem cof_bool : Try.prog.cellsOf 4 = 1 := by kernel_rfl
theorem cof_ask : Try.prog.cellsOf 30 = 7 := by kernel_rfl
theorem cof_ent : Try.prog.cellsOf 32 = 11 := by kernel_rfl

section
variable {H : Type} {enc : TypeId × Value → H} {w : World} {base : Nat} {spare : Nat → Bool} {held : Bool}
theorem open_ent {fuel : Nat} {cs : List Value} {x : DataW H × List MemPlace} (h : DataW.trod enc Try.prog w base spare held fuel 32 cs = some x) : ∃ y : EntV, cs = y.cells := by
  obtain ⟨ys, n', hn', hy, hlen, hyl, hf⟩ := DataW.trod_struct Try.underlying32 h
  rw [cof_ent] at hlen
  obtain ⟨c0, c1, c2, c3, c4, c5, c6, c7, c8, c9, c10, rfl⟩ := list11 cs hlen
  have hyl5 : ys.length = 5 := hyl
  have g0 : DataW.trod enc Try.prog w base spare held n' 3 (([c0, c1, c2, c3, c4, c5, c6, c7, c8, c9, c10].drop 0).take (Try.prog.cellsOf 3)) = ys[0]? := hf 0 _ rfl
  have g1 : DataW.trod enc Try.prog w base spare held n' 3 (([c0, c1, c2, c3, c4, c5, c6, c7, c8, c9, c10].drop 1).take (Try.prog.cellsOf 3)) = ys[1]? := hf 1 _ rfl
  have g2 : DataW.trod enc Try.prog w base spare held n' 30 (([c0, c1, c2, c3, c4, c5, c6, c7, c8, c9, c10].drop 2).take (Try.prog.cellsOf 30)) = ys[2]? := hf 2 _ rfl
  have g3 : DataW.trod enc Try.prog w base spare held n' 3 (([c0, c1, c2, c3, c4, c5, c6, c7, c8, c9, c10].drop 9).take (Try.prog.cellsOf 3)) = ys[3]? := hf 3 _ rfl
  have g4 : DataW.trod enc Try.prog w base spare held n' 4 (([c0, c1, c2, c3, c4, c5, c6, c7, c8, c9, c10].drop 10).take (Try.prog.cellsOf 4)) = ys[4]? := hf 4 _ rfl
  rw [cof_int] at g0 g1 g3
  rw [cof_ask] at g2
  rw [cof_bool] at g4
  obtain ⟨y0, t0⟩ := got g0 (by omega)
  obtain ⟨y1, t1⟩ := got g1 (by omega)
  obtain ⟨y2, t2⟩ := got g2 (by omega)
  obtain ⟨y3, t3⟩ := got g3 (by omega)
  obtain ⟨y4, t4⟩ := got g4 (by omega)
  obtain ⟨zs, m', hm', hz, hzlen, hzl, hg⟩ := DataW.trod_struct Try.underlying30 t2
  have hzl7 : zs.length = 7 := hzl
  have k0 : DataW.trod enc Try.prog w base spare held m' 3 (([c2, c3, c4, c5, c6, c7, c8].drop 0).take (Try.prog.cellsOf 3)) = zs[0]? := hg 0 _ rfl
  have k1 : DataW.trod enc Try.prog w base spare held m' 3 (([c2, c3, c4, c5, c6, c7, c8].drop 1).take (Try.prog.cellsOf 3)) = zs[1]? := hg 1 _ rfl
  have k2 : DataW.trod enc Try.prog w base spare held m' 4 (([c2, c3, c4, c5, c6, c7, c8].drop 2).take (Try.prog.cellsOf 4)) = zs[2]? := hg 2 _ rfl
  have k3 : DataW.trod enc Try.prog w base spare held m' 4 (([c2, c3, c4, c5, c6, c7, c8].drop 3).take (Try.prog.cellsOf 4)) = zs[3]? := hg 3 _ rfl
  have k4 : DataW.trod enc Try.prog w base spare held m' 3 (([c2, c3, c4, c5, c6, c7, c8].drop 4).take (Try.prog.cellsOf 3)) = zs[4]? := hg 4 _ rfl
  have k5 : DataW.trod enc Try.prog w base spare held m' 3 (([c2, c3, c4, c5, c6, c7, c8].drop 5).take (Try.prog.cellsOf 3)) = zs[5]? := hg 5 _ rfl
  have k6 : DataW.trod enc Try.prog w base spare held m' 3 (([c2, c3, c4, c5, c6, c7, c8].drop 6).take (Try.prog.cellsOf 3)) = zs[6]? := hg 6 _ rfl
  rw [cof_int] at k0 k1 k4 k5 k6
  rw [cof_bool] at k2 k3
  obtain ⟨z0, s0⟩ := got k0 (by omega)
  obtain ⟨z1, s1⟩ := got k1 (by omega)
  obtain ⟨z2, s2⟩ := got k2 (by omega)
  obtain ⟨z3, s3⟩ := got k3 (by omega)
  obtain ⟨z4, s4⟩ := got k4 (by omega)
  obtain ⟨z5, s5⟩ := got k5 (by omega)
  obtain ⟨z6, s6⟩ := got k6 (by omega)
  obtain ⟨a0, e0, _, _⟩ := DataW.trod_int Try.underlying3 t0
  obtain ⟨a1, e1, _, _⟩ := DataW.trod_int Try.underlying3 t1
  obtain ⟨a2, e2, _, _⟩ := DataW.trod_int Try.underlying3 s0
  obtain ⟨a3, e3, _, _⟩ := DataW.trod_int Try.underlying3 s1
  obtain ⟨a4, e4, _⟩ := DataW.trod_bool Try.underlying4 s2
  obtain ⟨a5, e5, _⟩ := DataW.trod_bool Try.underlying4 s3
  obtain ⟨a6, e6, _, _⟩ := DataW.trod_int Try.underlying3 s4
  obtain ⟨a7, e7, _, _⟩ := DataW.trod_int Try.underlying3 s5
  obtain ⟨a8, e8, _, _⟩ := DataW.trod_int Try.underlying3 s6
  obtain ⟨a9, e9, _, _⟩ := DataW.trod_int Try.underlying3 t3
  obtain ⟨a10, e10, _⟩ := DataW.trod_bool Try.underlying4 t4
  simp at e0 e1 e2 e3 e4 e5 e6 e7 e8 e9 e10
  subst e0 e1 e2 e3 e4 e5 e6 e7 e8 e9 e10
  exact ⟨⟨a0, a1, a2, a3, a4, a5, a6, a7, a8, a9, a10⟩, rfl⟩
theorem open_ents {fuel : Nat} {g : Option Addr} {len cap : Nat} {x : DataW H × List MemPlace} (h : DataW.trod enc Try.prog w base spare held fuel 22 [.slice g len cap] = some x) :
    ∃ L : List EntV, L.length = len ∧ len ≤ cap ∧ EntsAt w g L := by
  rcases open_slice Try.underlying22 h with h0 | ⟨a, len', cap', m, n, D, Pl, hcs, hb, hl, hm, hmm, hx, hi⟩
  · have e := h0.1
    simp at e
    obtain ⟨rfl, rfl, rfl⟩ := e
    exact ⟨[], rfl, Nat.le_refl _, EntsAt.empty _ _⟩
  · simp at hcs
    obtain ⟨rfl, rfl, rfl⟩ := hcs
    obtain ⟨b, off, spot⟩ := a
    obtain ⟨L, hL, hp⟩ := list_of (P := fun i (y : EntV) => ∀ (j : Nat) (v : Value), y.cells[j]? = some v → w.cell? ⟨b, off + i * 11 + j, none⟩ = some v ∧ (i = 0 → spot = none)) len (fun i hil => by
      obtain ⟨cs', hc, ht'⟩ := hi i (by split at hmm <;> omega)
      rw [cof_ent] at hc
      obtain ⟨_, hcl, hat⟩ := World.cells?_some hc
      obtain ⟨y, rfl⟩ := open_ent ht'
      refine ⟨y, fun j v hv => ?_⟩
      have hj : j < 11 := by have := (List.getElem?_eq_some_iff.1 hv).1; simpa [EntV.cells] using this
      have h1 := (hat j hj).trans hv
      rw [Go.Deep.add_add] at h1
      have h0 := hat 0 (by omega)
      refine ⟨?_, fun e => ?_⟩
      rotate_left
      · subst e
        have hs0 := World.cell?_spot (h0.trans (show y.cells[0]? = some _ from rfl))
        simpa [Addr.add] using hs0
      rw [Nat.add_assoc]
      exact add_at h1)
    refine ⟨L, hL, hl, by unfold maxLen at hm; omega, fun j y hy => ?_⟩
    have hsp : spot = none := by
      obtain ⟨y0, hy0⟩ : ∃ y0, L[0]? = some y0 := ⟨_, List.getElem?_eq_getElem (by have := (List.getElem?_eq_some_iff.1 hy).1; omega)⟩
      exact (hp 0 y0 hy0 0 _ rfl).2 rfl
    subst hsp
    exact ⟨b, off, rfl, fun i v hv => (hp j y hy i v hv).1⟩
theorem open_byts {fuel : Nat} {g : Option Addr} {len cap : Nat} {x : DataW H × List MemPlace} (h : DataW.trod enc Try.prog w base spare held fuel 24 [.slice g len cap] = some x) :
    ∃ L : List Int, L.length = len ∧ len ≤ cap ∧ BytsAt w g L := by
  rcases open_ints Try.underlying24 Try.underlying5 (by kernel_rfl) h with ⟨hcs, _⟩ | ⟨a, len', cap', zs, hcs, _, hl, hm, hz, _, hcell, hwz⟩
  · simp at hcs
    obtain ⟨rfl, rfl, rfl⟩ := hcs
    exact ⟨[], rfl, Nat.le_refl _, BytsAt.empty _ _⟩
  · simp at hcs
    obtain ⟨rfl, rfl, rfl⟩ := hcs
    obtain ⟨b, off, spot⟩ := a
    have hz' : len ≤ zs.length ∧ zs.length ≤ cap := by simp only at hz; split at hz <;> omega
    refine ⟨zs.take len, by simp; omega, hl, by simp; unfold maxLen at hm; omega, fun n hn => bounds_u8 (hwz n (List.mem_of_mem_take hn)), fun j y hy => ?_⟩
    rw [List.getElem?_take] at hy
    split at hy
    · rename_i hj
      have hjz : j < zs.length := (List.getElem?_eq_some_iff.1 hy).1
      have hc := hcell j hjz
      have h0 := hcell 0 (by omega)
      have hspot : spot = none := by
        have := World.cell?_spot h0
        simpa [Addr.add] using this
      subst hspot
      refine ⟨b, off, rfl, ?_⟩
      have e : zs.getD j 0 = y := by simp [List.getD, hy]
      rw [e] at hc
      exact add_at hc
    · cases hy
end

end Go.Proofs.Ytphnjgkaapfocaa

/- Laws of no program on rows whose elements take more than one cell: copy, append where there is room, clear of one element. -/
import Derived.Test.YtamnmpcnhaeigaaBase
import Derived.Laws.CopyRow
import Derived.Laws.IdiomCopy
import Derived.Deep.AppendSrc
import Derived.Lib.AppendZerosOnto
import Derived.Lib.Overlaps
import Derived.Lib.SliceRun
import Derived.Shelf.Spec.SlicesInsert
namespace Go.Proofs.Ytamnmpcnhaeigaa
open Go.RowKit
set_option linter.unusedVariables false

theorem Fr.setRow {S : List Nat} {a w : World} (h : Fr S a w) {g : Nat} (hp : g ∈ S ∨ a.heap.size ≤ g) (cs : Array Value) : Fr S a (w.setRow g cs) :=
  ⟨h.os, h.tape, h.output, by rw [setRow_size]; exact h.size, fun k hk hn => by
    rw [setRow_other w g k cs (fun e => by subst e; rcases hp with hp | hp; exact hn hp; omega)]; exact h.block k hk hn⟩

theorem setCells_eq_setRow (P : Program) (w : World) (g o : Nat) (t : TypeId) (vs : List Value) (cur : Array Value) (hg : w.heap[g]? = some (.cells cur t (0, 0))) (hfit : o + vs.length ≤ cur.size) (h1 : ∀ v ∈ vs, v.oneCell' = true) :
    w.setCells g o vs = w.setRow g (cur.toList.take o ++ vs ++ cur.toList.drop (o + vs.length)).toArray := by
  have a := run_storeCells_cells (P := P) g o vs 0 w (fun j hj => by
      have h' : o + 0 + j < cur.size := by omega
      rw [cell_of hg (Array.getElem?_eq_getElem h')]; rfl) (fun j _ => frozen_of hg) h1
  have b := run_storeCells_at P g o t vs 0 cur w hg (by simpa using hfit) h1
  rw [a] at b
  simp only [Nat.add_zero] at b
  injection b

theorem run_copy_roww {P : Program} (k : Nat) (w : World) (dT sT ty elem : TypeId) (g o dLen dCap : Nat) (a : Addr) (sLen sCap : Nat) (cur : Array Value) (t : TypeId) (cs : List Value)
    (hu : P.underlying dT = some (.slice elem)) (hs : (P.info? elem).map (·.size) = some k)
    (hg : w.heap[g]? = some (.cells cur t (0, 0))) (m : Nat) (hm : m = Nat.min sLen dLen) (hn : cs.length = m * k)
    (hsrc : ∀ j v, cs[j]? = some v → w.cell? (a.add j) = some v) (hfit : o + cs.length ≤ cur.size) (h1 : ∀ v ∈ cs, v.oneCell' = true) :
    (Builtin.copy_ #[dT, sT] ty #[.slice (some ⟨g, o, none⟩) dLen dCap, .slice (some a) sLen sCap]).run P w =
      .ok (goInt m) (w.setRow g (cur.toList.take o ++ cs ++ cur.toList.drop (o + cs.length)).toArray) := by
  have hl := run_loadCells_list (P := P) w a cs hsrc
  have hst := run_storeCells_at P g o t cs 0 cur w hg (by simpa using hfit) h1
  cases hq : P.info? elem with
  | none => simp [hq] at hs
  | some i =>
    have hi : i.size = k := by simpa [hq] using hs
    rw [hn] at hl
    simp [Builtin.copy_, run_underlying hu, Builtin.lenOf, Builtin.firstCells, sizeOf, typeInfo, hq, hi, ← hm, hl, hst]

theorem run_append_roww {P : Program} (w : World) (t tx ty e : TypeId) (i : TypeInfo) (ht : P.underlying t = some (.slice e)) (hi : P.info? e = some i) (b off sLen sCap : Nat) (x : Value) (n : Nat) (news : List Value) (hs : Src P i.size tx x n news w)
    (hroom : sLen + n ≤ sCap) (cur : Array Value) (tt : TypeId) (hg : w.heap[b]? = some (.cells cur tt (0, 0))) (hfit : off + sLen * i.size + news.length ≤ cur.size) :
    (Builtin.append_ #[t, tx] ty #[.slice (some ⟨b, off, none⟩) sLen sCap, x]).run P w = .ok (.slice (some ⟨b, off, none⟩) (sLen + n) sCap)
      (w.setRow b (cur.toList.take (off + sLen * i.size) ++ news ++ cur.toList.drop (off + sLen * i.size + news.length)).toArray) := by
  rw [run_append_room_src w t tx ty e i ht hi b off sLen sCap x n news hs hroom
    (fun j hj => by
      have h' : off + sLen * i.size + j < cur.size := by omega
      rw [cell_of hg (Array.getElem?_eq_getElem h')]; rfl) (fun j _ => frozen_of hg),
    setCells_eq_setRow P w b _ tt news cur hg hfit hs.one]

/-- 'clear(s)' of n > 0 elements. -/
theorem run_clear_roww {P : Program} (w : World) (t e ty : TypeId) (z : Value) (ht : P.underlying t = some (.slice e)) (hv : ∀ w, (zeroValue e).run P w = .ok z w) (zs : List Value) (n : Nat) (hz : (Builtin.zeroCells z.cells n).toList = zs)
    (h1 : ∀ v ∈ zs, v.oneCell' = true) (b o c : Nat) (hn : 0 < n) (cur : Array Value) (tt : TypeId) (hg : w.heap[b]? = some (.cells cur tt (0, 0))) (hfit : o + zs.length ≤ cur.size) :
    (Builtin.clear_ #[t] ty #[.slice (some ⟨b, o, none⟩) n c]).run P w = .ok (.tuple #[]) (w.setRow b (cur.toList.take o ++ zs ++ cur.toList.drop (o + zs.length)).toArray) := by
  have hst := run_storeCells_at P b o tt zs 0 cur w hg (by simpa using hfit) h1
  obtain ⟨m, rfl⟩ : ∃ m, n = m + 1 := ⟨n - 1, by omega⟩
  simp [Builtin.clear_, run_underlying ht, hv, hz, hst]

/-- An append of a region that draws, its run known by an equation. -/
theorem step_append_runI {P : Program} {ops : Array Oper} {o : Oper} {a : Act} {w : World} {K : Act → World → Prop} {Q : Exit → Act → World → Prop} {E : Prop}
    (hg : o.guard = none) (d x : Operand) (dT sT : TypeId) (hop : o.op = Op.call { callee := Callee.builtin Builtin.append, args := #[d, x], argTypes := #[dT, sT] })
    (v u : Value) (hd : a.eval d = v) (hx : a.eval x = u) {v' : Value} {w' : World} (hr : (Builtin.append_ #[dT, sT] o.type #[v, u]).run P w = .ok v' w') (hK : K (a.put o.dst v') w') :
    if Region.wanted o (yielded ops a.tmps) = true then Oper.wp P o a w K Q else E := by
  have hw : Region.wanted o (yielded ops a.tmps) = true := by simp [Region.wanted, hg]
  rw [if_pos hw]
  unfold Oper.wp
  simp [execOp, hop, resolve, invoke, builtin, hd, hx, hr, Result.andThen]
  exact hK

/-- A clear, its run known by an equation. -/
theorem wpList_clear_runI {P : Program} (w : World) {ops : Array Oper} {rest : List Oper} {o : Oper} {a : Act} {Q : Exit → Act → World → Prop} (hgd : o.guard = none) (s : Operand) (t : TypeId)
    (ho : o.op = .call { callee := .builtin .clear, args := #[s], argTypes := #[t] }) (v : Value) (hd : a.eval s = v) {v' : Value} {w' : World}
    (hr : (Builtin.clear_ #[t] o.type #[v]).run P w = .ok v' w') (h : wpList P ops Q rest (a.put o.dst v') w') : wpList P ops Q (o :: rest) a w :=
  wpList_plain hgd fun _ hK => by
    unfold Oper.wp execOp
    simp only [ho, resolve, invoke, builtin, Sem.run_bind, Sem.run_pure, Result.andThen_ok, List.map_toArray, List.map_cons, List.map_nil, hd, hr]
    exact hK _ _ h

end Go.Proofs.Ytamnmpcnhaeigaa

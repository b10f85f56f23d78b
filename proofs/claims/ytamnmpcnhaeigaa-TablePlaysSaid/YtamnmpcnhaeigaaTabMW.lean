/- Table[int,string]: All, and what it tells. Printed by gen_tab.py. -/
import Derived.Test.YtamnmpcnhaeigaaTabKW
namespace Go.Proofs.Ytamnmpcnhaeigaa.TabW
open Go.RowKit Go.Shelf
attribute [local go_sem] Oper.semAt_some
set_option linter.unusedVariables false

/-- A pair, as a round is handed it. -/
def encP (x : Int × ByteArray) : Array Value := #[kv x.1, vv x.2]

theorem Things.same {w W : World} {s : Value} {L : List (Int × ByteArray)} (h : Things w s L) (hC : ∀ b, b < w.heap.size → W.heap[b]? = w.heap[b]?) : Things W s L := by
  rcases h with h | ⟨q, c, h1, h2, h3, h4⟩
  · exact .inl h
  · obtain ⟨cur, g1, g2, g3⟩ := h4.row
    exact .inr ⟨q, c, h1, h2, h3, ⟨cur, (hC q (heap_lt g1)).trans g1, g2, g3⟩⟩

/-- What All leaves: the function that tells, the table's pointer in a box. -/
def AllPost (w : World) (p : Nat) (e : Ending) (w' : World) : Prop :=
  ∃ bx, e = .returned (.func (.func 61) #[] #[.pointer (some ⟨bx, 0, none⟩)]) ∧ w'.heap[bx]? = some (.cells #[.pointer (some ⟨p, 0, none⟩)] 63 (0, 0)) ∧ Fr [] w w'

theorem all_fn (w : World) (p : Nat) : Calls Try.prog 46 #[.pointer (some ⟨p, 0, none⟩)] w (AllPost w p) := by
  have fin : AllPost w p (.returned (.func (.func 61) #[] #[.pointer (some ⟨w.heap.size, 0, none⟩)])) (w.alloc (.cells #[.pointer (some ⟨p, 0, none⟩)] 63)) :=
    ⟨_, rfl, heap_alloc_new w _, (Fr.refl _ w).alloc _⟩
  have FIN := Lib.hid fin; clear fin
  go_enter Try.func46, Try.ntmps46
  go_wp2
  go_ret
  exact FIN.out

set_option maxHeartbeats 2000000 in
theorem all_iter (w : World) (p bx : Nat) (s : Value) (L : List (Int × ByteArray)) (hn : L.length ≤ 1000) (hb : w.heap[bx]? = some (.cells #[.pointer (some ⟨p, 0, none⟩)] 63 (0, 0)))
    (ht : TabS w p s) (hr : Things w s L) :
    IterAt Try.prog w (fun b => b < w.heap.size) 61 #[.pointer (some ⟨bx, 0, none⟩)] encP L := by
  refine ⟨fun b hb => hb, fun W l O J Jx hs hC hO hJ hJx hY h0 => ?_⟩
  have hb1 : W.heap[bx]? = some (.cells #[.pointer (some ⟨p, 0, none⟩)] 63 (0, 0)) := (hC bx (heap_lt hb)).trans hb
  have hp1 : W.heap[p]? = some (.cells #[s] 88 (0, 0)) := (hC p (heap_lt ht)).trans ht
  have c1 : W.cell? ⟨bx, 0, none⟩ = some (.pointer (some ⟨p, 0, none⟩)) := cell_of hb1 rfl
  have c2 : W.cell? ⟨p, 0, none⟩ = some s := cell_of hp1 rfl
  have HCL := Lib.hid (clone_any W s L hn (hr.same hC))
  clear hb ht hr hC hb1 hp1
  have HY := Lib.hid hY; clear hY
  refine (callsIn_wide (n := 3)).1 (callsIn_of_wp Try.func61 rfl trivial ?_ rfl)
  simp only [Try.ntmps61, List.size_toArray, List.length_cons, List.length_nil, Nat.reduceAdd, Nat.reduceSub, Array.replicate_succ, Array.replicate_zero, List.push_toArray, List.append_toArray, List.nil_append, List.cons_append]
  gi_wp2_with fail
  refine ⟨trivial, (callsIn_wide.2 HCL.out).mono ?_⟩
  rintro e W1 ⟨s', rfl, t1, f1, hrow⟩
  have S1 : Stp O W W1 := (Stp.of_fr f1).mono (fun x hx => by simp at hx)
  have G1 : Grw O O W W1 := fun b hb => ⟨Nat.lt_of_lt_of_le (hO b hb) f1.size, .inl hb⟩
  have J1 : J 0 W1 O := hJ 0 W O W1 h0 f1.os f1.tape f1.output f1.size (fun b hb => f1.block b (hb.elim (hO b) id) (by simp))
  clear HCL h0 c1 c2 hs
  rcases t1 with ⟨rfl, rfl⟩ | ⟨q, c, rfl, hc, hc63, hr⟩
  · gi_wp2
    gi_loopw [11] (fun i wr => i = .int .i64 0 ∧ wr = W1) (fun _ _ => 0)
    case atStart => exact ⟨rfl, rfl⟩
    case round =>
      obtain ⟨rfl, rfl⟩ := hrel
      gi_wp2
      go_end0
      exact ⟨⟨_, rfl⟩, .inl ⟨O, J1, S1, G1⟩⟩
  have hqW : W.heap.size ≤ q := hrow q (by simp [rowsOf])
  have hqO : ∀ O1 : Blk, ∀ wr : World, Grw O O1 W1 wr → ¬ O1 q := fun O1 wr hg h => by
    rcases (hg q h).2 with h | h
    · have := hO q h; omega
    · have := hr.lt; omega
  have hql := hr.lt
  have HR := Lib.hid hr
  obtain ⟨n, hn'⟩ : ∃ n, L.length = n := ⟨_, rfl⟩
  have HN := Lib.hid hn'
  rw [hn'] at hn hc ⊢
  have HGET := Lib.hid fun (k : Nat) (h : k < n) => (⟨_, List.getElem?_eq_getElem (by omega)⟩ : ∃ x, L[k]? = some x)
  clear hr hrow hn'
  gi_wp2
  gi_loopw [11] (fun i wr => ∃ (k : Nat) (O1 : Blk), k ≤ n ∧ i = .int .i64 k ∧ J k wr O1 ∧ Stp O W1 wr ∧ Grw O O1 W1 wr) (fun i _ => n - (intOf i).toNat)
  case atStart => exact ⟨0, O, Nat.zero_le _, rfl, J1, Stp.refl _ _, Grw.refl (fun b hb => (G1 b hb).1)⟩
  case round =>
    obtain ⟨k, O1, hk, rfl, hj, hst, hgr⟩ := hrel
    by_cases hlt : k < n
    · obtain ⟨⟨a, v⟩, hx⟩ := HGET.out k hlt
      have hrow := (HR.out.row)
      have d1 : wr.cell? ⟨q, k * 2, none⟩ = some (kv a) := hst.cell (HR.out.key hx) (fun h => by have := hO _ h; simp at this; omega)
      have d2 : wr.cell? ⟨q, k * 2 + 1, none⟩ = some (vv v) := hst.cell (HR.out.what hx) (fun h => by have := hO _ h; simp at this; omega)
      have hbd : ∀ b, O1 b → b < wr.heap.size := fun b hb => (hgr b hb).1
      have hws := hst.size
      obtain ⟨W2, hW2⟩ : ∃ W2, wr.alloc (.cells #[kv a, vv v] 90) = W2 := ⟨_, rfl⟩
      have j2 : J k W2 O1 := by rw [← hW2]; exact hJ.alloc hj hbd (Nat.le_trans f1.size hws) _
      have st2 : Stp O W1 W2 := by rw [← hW2]; exact hst.alloc _
      have gr2 : Grw O O1 W1 W2 := fun b hb => ⟨by rw [← hW2, World.size_alloc]; have := hbd b hb; omega, (hgr b hb).2⟩
      obtain ⟨fn, tmps, assign, body, hy, hR⟩ := (HY.out k (a, v) W2 O1 hx j2 (fun b hb => (gr2 b hb).1)).at 2
      unfold encP at hy
      have hlt' : (k : Int) < (n : Int) := by omega
      have hkc : k < c := by omega
      clear hx hrow
      have J2 := Lib.hid j2; clear j2 hj
      subst hW2
      simp only [kv, vv] at d1 d2 hy hR
      have ST := Lib.hid st2; have GR := Lib.hid gr2; clear st2 gr2
      gi_wp2
      refine hR.mono ?_
      rintro e W2 (⟨rfl, O2, hj2, hst2, hgr2⟩ | ⟨rfl, O2, hj2, hst2, hgr2⟩)
      · have S2 : Stp O W1 W2 := ST.out.then hst2 (fun x hx => (GR.out x hx).2)
        have G2 : Grw O O2 W1 W2 := GR.out.then ST.out.size hgr2
        clear hy
        gi_wp2
        go_roundw
        case rel => exact ⟨k + 1, O2, by omega, by go_num, hj2, S2, G2⟩
        case measure => simp [intOf]; omega
      · have S2 : Stp O W1 W2 := ST.out.then hst2 (fun x hx => (GR.out x hx).2)
        have G2 : Grw O O2 W1 W2 := GR.out.then ST.out.size hgr2
        clear hy
        gi_wp2
        refine bodyPost_ret (results_none rfl _ _ _) rfl ?_
        exact ⟨⟨_, rfl⟩, .inr ⟨k + 1, O2, by rw [HN.out]; omega, hj2, S1.then S2 (fun x hx => .inl hx), G1.then f1.size G2⟩⟩
    · obtain rfl : k = n := by omega
      have hge : ¬ (k : Int) < (k : Int) := by omega
      gi_wp2
      go_end0
      exact ⟨⟨_, rfl⟩, .inl ⟨O1, by rw [HN.out]; exact hj, S1.then hst (fun x hx => .inl hx), G1.then f1.size hgr⟩⟩

end Go.Proofs.Ytamnmpcnhaeigaa.TabW

/- The layer 'entry': what cut tells. -/
import Derived.Test.YtphnjgkaapfocaaEntO
import Derived.Test.YtphnjgkaapfocaaIter
import Derived.RangeFuncBox
import Derived.RangeFuncBound
import Derived.RangeFuncCalls
import Derived.Shelf.Abstract
import Derived.Shelf.RegionOpen
import Derived.OwnWalkIn
import Derived.TacticsInMore
import Derived.LoopNIn
import Derived.LoopIn
namespace Go.Proofs.Ytphnjgkaapfocaa
open Go.RowKit Go.Shelf
attribute [local go_sem] Oper.semAt_some

/-- The k-th part of bytes at b, o, as a round is handed it. -/
def encC (b o c : Nat) (k : Nat) : Array Value := #[.slice (some ⟨b, o + 12 * k, none⟩) 12 (c - 12 * k)]

set_option maxHeartbeats 400000 in
theorem cut_iter (w : World) (b0 b o m c : Nat) (hm : 12 * m ≤ c) (hc : m ≤ 100000) (h1 : w.cell? ⟨b0, 0, none⟩ = some (.slice (some ⟨b, o, none⟩) (12 * m) c)) :
    IterAt Try.prog w (fun x => x = b0) 22 #[.pointer (some ⟨b0, 0, none⟩)] (encC b o c) (List.range m) := by
  refine ⟨fun b hb => ?_, fun W l O J Jx hs hC hCO hO hJ hJx hY h0 => ?_⟩
  · obtain rfl : b = b0 := hb
    exact World.block_lt_of_cell? w _ h1
  obtain ⟨n, hn⟩ : ∃ n, n = 12 * m := ⟨_, rfl⟩
  rw [← hn] at h1 hm
  have c1 : W.cell? ⟨b0, 0, none⟩ = some (.slice (some ⟨b, o, none⟩) n c) := (World.cell?_of_block (w := w) (a := ⟨b0, 0, none⟩) (hC b0 rfl)).trans h1
  refine (callsIn_wide (n := 3)).1 (callsIn_of_wp Try.func22 rfl trivial ?_ rfl)
  simp only [Try.ntmps22, List.size_toArray, List.length_cons, List.length_nil, Nat.reduceAdd, Nat.reduceSub, Array.replicate_succ, Array.replicate_zero, List.push_toArray, List.append_toArray, List.nil_append, List.cons_append]
  have hb1 := hCO b0 rfl
  rw [List.length_range]
  clear hC hCO hs h1
  have hn2 : n ≤ 1200000 := by omega
  have HY := Lib.hid hY; have HN := Lib.hid hn; clear hY hn
  gi_wp2
  gi_loopw [3] (fun i wr => ∃ (k a : Nat) (O1 : Blk), k ≤ m ∧ a = 12 * k ∧ i = .int .i64 a ∧ J k wr O1 ∧ Stp O W wr ∧ Grw O O1 W wr) (fun i _ => n - (intOf i).toNat)
  case atStart => exact ⟨0, 0, O, Nat.zero_le _, rfl, rfl, h0, Stp.refl _ _, Grw.refl hO⟩
  case round =>
    obtain ⟨k, a, O1, hk, hak, rfl, hj, hst, hgr⟩ := hrel
    have d1 := hst.cell c1 hb1
    by_cases hlt : k < m
    · obtain ⟨fn, tmps, assign, body, hy, hR⟩ := (HY.out k k wr O1 (by simp [hlt]) hj (fun b hb => (hgr b hb).1)).at 2
      unfold encC at hy
      rw [← hak] at hy
      have hlt' : (a : Int) + 12 ≤ (n : Int) := by have := HN.out; omega
      have hlt2 : a + 12 ≤ n := by omega
      have hc2 : a + 12 ≤ c := by omega
      have hcn : ¬ c - a = 0 := by omega
      have HAK := Lib.hid hak; clear hak
      gi_wp2
      refine hR.mono ?_
      rintro e W2 (⟨rfl, O2, hj2, hst2, hgr2⟩ | ⟨rfl, O2, hj2, hst2, hgr2⟩)
      · have S2 : Stp O W W2 := hst.then hst2 (fun x hx => (hgr x hx).2)
        have G2 : Grw O O2 W W2 := hgr.then hst.size hgr2
        clear hy
        gi_wp2
        go_roundw
        case rel => exact ⟨k + 1, a + 12, O2, by omega, by have := HAK.out; omega, by go_num, hj2, S2, G2⟩
        case measure => simp [intOf]; omega
      · have S2 : Stp O W W2 := hst.then hst2 (fun x hx => (hgr x hx).2)
        have G2 : Grw O O2 W W2 := hgr.then hst.size hgr2
        clear hy
        gi_wp2
        refine bodyPost_ret (results_none rfl _ _ _) rfl ?_
        exact ⟨⟨_, rfl⟩, .inr ⟨k + 1, O2, by omega, hj2, S2, G2⟩⟩
    · have hge : ¬ (a : Int) + 12 ≤ (n : Int) := by have := HN.out; omega
      obtain rfl : k = m := by omega
      gi_wp2
      go_end0
      exact ⟨⟨_, rfl⟩, .inl ⟨O1, hj, hst, hgr⟩⟩

set_option maxHeartbeats 400000 in
/-- .. no bytes: nothing is told. -/
theorem cut_iter_none (w : World) (b0 c : Nat) (g : Option Addr) (h1 : w.cell? ⟨b0, 0, none⟩ = some (.slice g 0 c)) (b o : Nat) :
    IterAt Try.prog w (fun x => x = b0) 22 #[.pointer (some ⟨b0, 0, none⟩)] (encC b o c) (List.range 0) := by
  refine ⟨fun b hb => ?_, fun W l O J Jx hs hC hCO hO hJ hJx hY h0 => ?_⟩
  · obtain rfl : b = b0 := hb
    exact World.block_lt_of_cell? w _ h1
  have c1 : W.cell? ⟨b0, 0, none⟩ = some (.slice g 0 c) := (World.cell?_of_block (w := w) (a := ⟨b0, 0, none⟩) (hC b0 rfl)).trans h1
  refine (callsIn_wide (n := 3)).1 (callsIn_of_wp Try.func22 rfl trivial ?_ rfl)
  simp only [Try.ntmps22, List.size_toArray, List.length_cons, List.length_nil, Nat.reduceAdd, Nat.reduceSub, Array.replicate_succ, Array.replicate_zero, List.push_toArray, List.append_toArray, List.nil_append, List.cons_append]
  clear hC hCO hs h1 hY
  gi_wp2
  gi_loopw [3] (fun i wr => i = .int .i64 0 ∧ wr = W) (fun _ _ => 0)
  case atStart => exact ⟨rfl, rfl⟩
  case round =>
    obtain ⟨rfl, rfl⟩ := hrel
    gi_wp2
    go_end0
    exact ⟨⟨_, rfl⟩, .inl ⟨O, h0, Stp.refl _ _, Grw.refl hO⟩⟩

/-- What cut leaves: a function that tells the parts; its block is new. -/
def CutPost (w : World) (b o c m : Nat) (e : Ending) (w' : World) : Prop :=
  ∃ (v : Value) (lb : Array Value), e = .returned v ∧ v = .func (.func 22) #[] lb ∧
    IterAt Try.prog w' (fun x => x = w.heap.size) 22 lb (encC b o c) (List.range m) ∧ Fr [] w w' ∧ w.heap.size < w'.heap.size
theorem cut_any (w : World) (b o m c : Nat) (hm : 12 * m ≤ c) (hc : m ≤ 100000) : Calls Try.prog 20 #[.slice (some ⟨b, o, none⟩) (12 * m) c] w (CutPost w b o c m) := by
  obtain ⟨n, hn⟩ : ∃ n, n = 12 * m := ⟨_, rfl⟩
  rw [← hn]
  have HN := Lib.hid hn; clear hn
  go_enter Try.func20, Try.ntmps20
  go_wp2
  go_ret
  exact ⟨_, _, rfl, rfl, cut_iter _ _ _ _ _ _ hm hc (by rw [← HN.out]; exact cell_of (heap_alloc_new w _) rfl), (Fr.refl [] w).alloc _, by simp⟩
theorem cut_none_any (w : World) (c : Nat) (g : Option Addr) (b o : Nat) : Calls Try.prog 20 #[.slice g 0 c] w (CutPost w b o c 0) := by
  go_enter Try.func20, Try.ntmps20
  go_wp2
  go_ret
  exact ⟨_, _, rfl, rfl, cut_iter_none _ _ _ _ (cell_of (heap_alloc_new w _) rfl) _ _, (Fr.refl [] w).alloc _, by simp⟩

end Go.Proofs.Ytphnjgkaapfocaa

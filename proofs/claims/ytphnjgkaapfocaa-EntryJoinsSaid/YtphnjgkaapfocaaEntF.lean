/- The layer 'entry': an entry's bytes. -/
import Derived.Test.YtphnjgkaapfocaaEntR
namespace Go.Proofs.Ytphnjgkaapfocaa
open Go.RowKit

set_option maxHeartbeats 2000000 in
theorem sum_any (w : World) (x : EntV) : Calls Try.prog 17 #[x.val] w fun e w' => e = .returned (.int .u8 (sumV x.wait x.force x.good)) ∧ Fr [] w w' := by
  obtain ⟨kind, who, op, dl, wait, force, slot, gen, stream, n, good⟩ := x
  unfold EntV.val
  have hfr := (Fr.refl [] w).alloc (.cells #[.int .i64 kind, .int .i64 who, .int .i64 op, .int .i64 dl, .bool wait, .bool force, .int .i64 slot, .int .i64 gen, .int .i64 stream, .int .i64 n, .bool good] 32)
  cases wait <;> cases force <;> cases good <;>
  (have HF := Lib.hid hfr; clear hfr
   go_enter Try.func17, Try.ntmps17
   go_wp2
   go_ret
   exact ⟨rfl, HF.out⟩)

theorem heap_new_at {w : World} {o : Obj} {b : Nat} (h : b = w.heap.size) : (w.alloc o).heap[b]? = some o := by subst h; exact heap_alloc_new w o
/-- A call that tells twelve bytes in a block of their own. -/
def FormPost (w : World) (x : EntV) (e : Ending) (w' : World) : Prop :=
  ∃ B : Nat, e = .returned (.slice (some ⟨B, 0, none⟩) 12 12) ∧ w.heap.size ≤ B ∧ w'.heap[B]? = some (.cells (x.form.map (Value.int .u8)).toArray 5) ∧ Fr [] w w'

set_option maxHeartbeats 4000000 in
theorem form_any (w : World) (x : EntV) (hx : x.ok) : Calls Try.prog 18 #[x.val] w (FormPost w x) := by
  obtain ⟨kind, who, op, dl, wait, force, slot, gen, stream, n, good⟩ := x
  obtain ⟨⟨k0, k1⟩, ⟨o0, o1⟩, ⟨w0, w1⟩, ⟨s0, s1⟩, ⟨t0, t1⟩, ⟨g0, g1⟩, ⟨d0, d1⟩, ⟨n0, n1⟩⟩ := hx
  unfold EntV.val
  simp only at k0 k1 o0 o1 w0 w1 s0 s1 t0 t1 g0 g1 d0 d1 n0 n1
  cases wait <;> cases force <;> cases good <;>
  (go_enter Try.func18, Try.ntmps18
   go_wp2
   go_ret
   refine ⟨_, rfl, by omega, heap_new_at (by simp), ?_⟩
   exact (((Fr.refl [] w).alloc _).alloc _).alloc _)

end Go.Proofs.Ytphnjgkaapfocaa

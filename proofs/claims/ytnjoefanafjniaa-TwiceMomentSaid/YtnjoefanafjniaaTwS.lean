/- The document's words of slots (coachhouseref07): whatever they are, there is one. -/
import Derived.Test.YtnjoefanafjniaaTwC
namespace Go.Proofs.Ytnjoefanafjniaa
open Go.RowKit

/-- A slot, as data. -/
structure SlotV where
  state : Int
  own : Int
  streams : Int
  broken : Bool
  marked : Bool
  uses : Int
  gen : Int
  epoch : Int
  version : Int
def SlotV.val (s : SlotV) : Value := .agg #[.int .i64 s.state, .int .i64 s.own, .int .i64 s.streams, .bool s.broken, .bool s.marked, .int .i64 s.uses, .int .i64 s.gen, .int .i64 s.epoch, .int .i64 s.version]
def SlotV.cells (s : SlotV) : List Value := [.int .i64 s.state, .int .i64 s.own, .int .i64 s.streams, .bool s.broken, .bool s.marked, .int .i64 s.uses, .int .i64 s.gen, .int .i64 s.epoch, .int .i64 s.version]
/-- Some bool; some number. -/
def AnyBool (w : World) (e : Ending) (w' : World) : Prop := (∃ r : Bool, e = .returned (.bool r)) ∧ Fr [] w w'
def AnyInt (w : World) (e : Ending) (w' : World) : Prop := (∃ r : Int, e = .returned (.int .i64 r)) ∧ Fr [] w w'
def AnyPair (w : World) (e : Ending) (w' : World) : Prop := (∃ (r : Int) (b : Bool), e = .returned (.tuple #[.int .i64 r, .bool b])) ∧ Fr [] w w'

set_option maxHeartbeats 400000 in
theorem from0_any (w : World) (n most : Int) : Calls Try.prog 49 #[.int .i64 n, .int .i64 most] w fun e w' => e = .returned (.bool (decide (0 ≤ n ∧ n ≤ most))) ∧ w' = w := by
  obtain ⟨b, hb⟩ : ∃ b, decide (0 ≤ n ∧ n ≤ most) = b := ⟨_, rfl⟩
  have HB := Lib.hid hb
  rw [hb]
  clear hb
  by_cases h1 : 0 ≤ n
  · by_cases h2 : n ≤ most
    · obtain rfl : b = true := by rw [← HB.out]; exact decide_eq_true ⟨h1, h2⟩
      go_enter Try.func49, Try.ntmps49
      go_wp2
      go_ret
      exact ⟨rfl, rfl⟩
    · obtain rfl : b = false := by rw [← HB.out]; exact decide_eq_false (fun h => h2 h.2)
      go_enter Try.func49, Try.ntmps49
      go_wp2
      go_ret
      exact ⟨rfl, rfl⟩
  · obtain rfl : b = false := by rw [← HB.out]; exact decide_eq_false (fun h => h1 h.1)
    go_enter Try.func49, Try.ntmps49
    go_wp2
    go_ret
    exact ⟨rfl, rfl⟩

set_option maxHeartbeats 4000000 in
set_option maxRecDepth 100000 in
theorem sright_any (w : World) (s : SlotV) : Calls Try.prog 47 #[s.val] w (AnyBool w) := by
  obtain ⟨state, own, streams, broken, marked, uses, gen, epoch, version⟩ := s
  unfold SlotV.val
  have hfr := (Fr.refl [] w).alloc (.cells #[.int .i64 state, .int .i64 own, .int .i64 streams, .bool broken, .bool marked, .int .i64 uses, .int .i64 gen, .int .i64 epoch, .int .i64 version] 66)
  have HF := Lib.hid (show ∀ b : Bool, AnyBool w (.returned (.bool b)) (w.alloc (.cells #[.int .i64 state, .int .i64 own, .int .i64 streams, .bool broken, .bool marked, .int .i64 uses, .int .i64 gen, .int .i64 epoch, .int .i64 version] 66)) from fun b => ⟨⟨b, rfl⟩, hfr⟩); clear hfr
  go_enter Try.func47, Try.ntmps47
  go_wp2_with fail
  refine (from0_any _ state 6).mono ?_
  rintro e w1 ⟨rfl, rfl⟩
  generalize decide (0 ≤ state ∧ state ≤ 6) = b
  cases b
  · go_wp2
    go_ret
    exact HF.out _
  go_wp2_with fail
  refine (from0_any _ own 15).mono ?_
  rintro e w1 ⟨rfl, rfl⟩
  generalize decide (0 ≤ own ∧ own ≤ 15) = b
  cases b
  · go_wp2
    go_ret
    exact HF.out _
  go_wp2_with fail
  refine (from0_any _ streams 255).mono ?_
  rintro e w1 ⟨rfl, rfl⟩
  generalize decide (0 ≤ streams ∧ streams ≤ 255) = b
  cases b
  · go_wp2
    go_ret
    exact HF.out _
  go_wp2_with fail
  refine (from0_any _ uses 63).mono ?_
  rintro e w1 ⟨rfl, rfl⟩
  generalize decide (0 ≤ uses ∧ uses ≤ 63) = b
  cases b
  · go_wp2
    go_ret
    exact HF.out _
  go_wp2_with fail
  refine (from0_any _ gen 4095).mono ?_
  rintro e w1 ⟨rfl, rfl⟩
  generalize decide (0 ≤ gen ∧ gen ≤ 4095) = b
  cases b
  · go_wp2
    go_ret
    exact HF.out _
  go_wp2_with fail
  refine (from0_any _ epoch 4095).mono ?_
  rintro e w1 ⟨rfl, rfl⟩
  generalize decide (0 ≤ epoch ∧ epoch ≤ 4095) = b
  cases b
  · go_wp2
    go_ret
    exact HF.out _
  go_wp2_with fail
  refine (from0_any _ version 32767).mono ?_
  rintro e w1 ⟨rfl, rfl⟩
  generalize decide (0 ≤ version ∧ version ≤ 32767) = b
  cases b
  · go_wp2
    go_ret
    exact HF.out _
  cases broken <;> cases marked <;>
  (go_wp2
   all_goals (go_ret; exact ⟨⟨_, rfl⟩, (Fr.refl [] w).alloc _⟩))

set_option maxHeartbeats 4000000 in
set_option maxRecDepth 100000 in
theorem sencode_any (w : World) (s : SlotV) : Calls Try.prog 40 #[s.val] w (AnyPair w) := by
  have HR := Lib.hid (fun W : World => sright_any W s)
  obtain ⟨state, own, streams, broken, marked, uses, gen, epoch, version⟩ := s
  unfold SlotV.val at HR ⊢
  simp only at HR
  have hfr := (Fr.refl [] w).alloc (.cells #[.int .i64 state, .int .i64 own, .int .i64 streams, .bool broken, .bool marked, .int .i64 uses, .int .i64 gen, .int .i64 epoch, .int .i64 version] 66)
  have hbk := heap_alloc_new w (.cells #[.int .i64 state, .int .i64 own, .int .i64 streams, .bool broken, .bool marked, .int .i64 uses, .int .i64 gen, .int .i64 epoch, .int .i64 version] 66)
  have HF := Lib.hid hfr; have HB := Lib.hid hbk; clear hfr hbk
  go_enter Try.func40, Try.ntmps40
  go_wp2_with fail
  refine (HR.out _).mono ?_
  rintro e w1 ⟨⟨b, rfl⟩, f1⟩
  have hb1 := f1.at HB.out (by simp)
  have x0 : w1.cell? ⟨w.heap.size, 0, none⟩ = some (.int .i64 state) := cell_of hb1 rfl
  have x1 : w1.cell? ⟨w.heap.size, 1, none⟩ = some (.int .i64 own) := cell_of hb1 rfl
  have x2 : w1.cell? ⟨w.heap.size, 2, none⟩ = some (.int .i64 streams) := cell_of hb1 rfl
  have x3 : w1.cell? ⟨w.heap.size, 3, none⟩ = some (.bool broken) := cell_of hb1 rfl
  have x4 : w1.cell? ⟨w.heap.size, 4, none⟩ = some (.bool marked) := cell_of hb1 rfl
  have x5 : w1.cell? ⟨w.heap.size, 5, none⟩ = some (.int .i64 uses) := cell_of hb1 rfl
  have x6 : w1.cell? ⟨w.heap.size, 6, none⟩ = some (.int .i64 gen) := cell_of hb1 rfl
  have x7 : w1.cell? ⟨w.heap.size, 7, none⟩ = some (.int .i64 epoch) := cell_of hb1 rfl
  have x8 : w1.cell? ⟨w.heap.size, 8, none⟩ = some (.int .i64 version) := cell_of hb1 rfl
  have HP := Lib.hid (show ∀ (r : Int) (b : Bool), AnyPair w (.returned (.tuple #[.int .i64 r, .bool b])) w1 from fun r b => ⟨⟨r, b, rfl⟩, HF.out.trans f1⟩)
  clear hb1 f1
  cases b
  · go_wp2
    go_ret2
    exact HP.out _ _
  · cases broken <;> cases marked <;>
    (go_wp2
     all_goals (go_ret2; exact HP.out _ _))

set_option maxHeartbeats 1000000 in
theorem sword_any (w : World) (s : SlotV) : Calls Try.prog 28 #[s.val] w (AnyInt w) := by
  have HR := Lib.hid (fun W : World => sencode_any W s)
  obtain ⟨state, own, streams, broken, marked, uses, gen, epoch, version⟩ := s
  unfold SlotV.val at HR ⊢
  simp only at HR
  have hfr := (Fr.refl [] w).alloc (.cells #[.int .i64 state, .int .i64 own, .int .i64 streams, .bool broken, .bool marked, .int .i64 uses, .int .i64 gen, .int .i64 epoch, .int .i64 version] 66)
  have HF := Lib.hid hfr; clear hfr
  go_enter Try.func28, Try.ntmps28
  go_wp2_with fail
  refine (HR.out _).mono ?_
  rintro e w1 ⟨⟨r, b, rfl⟩, f1⟩
  have HP := Lib.hid (show AnyInt w (.returned (.int .i64 r)) w1 from ⟨⟨r, rfl⟩, HF.out.trans f1⟩)
  clear f1
  go_wp2
  go_ret
  exact HP.out

end Go.Proofs.Ytnjoefanafjniaa

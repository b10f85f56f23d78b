/- Table[int,string]: a key's order, the closure that compares. Printed by gen_tab.py. -/
import Derived.Test.YtamnmpcnhaeigaaBase
import Derived.Test.YtamnmpcnhaeigaaTabO
import Derived.Laws.Cover1
import Derived.Test.YtamnmpcnhaeigaaChecked
import Derived.Lib.Hide
namespace Go.Proofs.Ytamnmpcnhaeigaa.TabW
open Go.RowKit
set_option linter.unusedVariables false

def lt : Int → Int → Bool := ltI
theorem ord : KOrd lt := ordI
def kv (k : Int) : Value := .int .i64 k
def vv (v : ByteArray) : Value := .string v

theorem nan_any (w : World) (k : Int) : Calls Try.prog 63 #[kv k] w fun e w' => e = .returned (.bool false) ∧ w' = w := by
  unfold kv
  go_enter Try.func63, Try.ntmps63
  go_wp2
  go_ret
  exact ⟨by simp, rfl⟩

set_option maxHeartbeats 1000000 in
theorem compare_any (w : World) (a b : Int) : Calls Try.prog 49 #[kv a, kv b] w fun e w' => e = .returned (.int .i64 (cmpK lt a b)) ∧ w' = w := by
  have ka : kv a = kv a := rfl
  unfold kv at ka ⊢
  have h1 := Lib.hid (rfl : cmpK lt a b = if decide (a < b) then -1 else if decide (b < a) then 1 else 0)
  go_enter Try.func49, Try.ntmps49
  go_wp2_with fail
  refine (nan_any _ a).mono ?_
  rintro e w1 ⟨rfl, rfl⟩
  go_wp2_with fail
  refine (nan_any _ b).mono ?_
  rintro e w2 ⟨rfl, rfl⟩
  go_wp2
  case _ h => go_ret; exact ⟨by rw [cmp_lt ord (decide_eq_true h)]; rfl, rfl⟩
  case _ h k => go_ret; exact ⟨by rw [cmp_gt ord (decide_eq_true k)]; rfl, rfl⟩
  case _ h k => go_ret; exact ⟨by rw [cmp_eq ord (by omega : a = b)]; rfl, rfl⟩

set_option maxHeartbeats 1000000 in
theorem place1_any (w : World) (a b : Int) (v : ByteArray) : Calls Try.prog 58 #[.agg #[kv a, vv v], kv b] w fun e w' => e = .returned (.int .i64 (cmpK lt a b)) ∧ Fr [] w w' := by
  obtain ⟨ka, hka⟩ : ∃ x, kv a = x := ⟨_, rfl⟩
  obtain ⟨kb, hkb⟩ : ∃ x, kv b = x := ⟨_, rfl⟩
  obtain ⟨kx, hkx⟩ : ∃ x, vv v = x := ⟨_, rfl⟩
  have one : ka.oneCell' = true := by subst hka; rfl
  have onex : kx.oneCell' = true := by subst hkx; rfl
  have HC := Lib.hid (compare_any (w.alloc (.cells #[ka, kx] 90)) a b)
  rw [hka, hkb] at HC
  have F1 := (Fr.refl [] w).alloc (.cells #[ka, kx] 90)
  rw [hka, hkb, hkx]
  clear hka hkb hkx
  go_enter Try.func58, Try.ntmps58
  go_wp2_with fail
  refine HC.out.mono ?_
  rintro e w1 ⟨rfl, rfl⟩
  go_wp2
  go_ret
  exact ⟨rfl, F1⟩

end Go.Proofs.Ytamnmpcnhaeigaa.TabW

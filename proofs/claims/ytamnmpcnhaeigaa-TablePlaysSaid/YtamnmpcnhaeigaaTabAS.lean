/- Table[string,int]: a key's order, the closure that compares. Printed by gen_tab.py. -/
import Derived.Test.YtamnmpcnhaeigaaBase
import Derived.Test.YtamnmpcnhaeigaaTabO
import Derived.Laws.Cover1
import Derived.Test.YtamnmpcnhaeigaaChecked
import Derived.Lib.Hide
namespace Go.Proofs.Ytamnmpcnhaeigaa.TabS
open Go.RowKit
set_option linter.unusedVariables false

def lt : ByteArray → ByteArray → Bool := ltS
theorem ord : KOrd lt := ordS
def kv (k : ByteArray) : Value := .string k
def vv (v : Int) : Value := .int .i64 v

theorem nan_any (w : World) (k : ByteArray) : Calls Try.prog 65 #[kv k] w fun e w' => e = .returned (.bool false) ∧ w' = w := by
  unfold kv
  go_enter Try.func65, Try.ntmps65
  go_wp2
  go_ret
  exact ⟨by simp, rfl⟩

set_option maxHeartbeats 1000000 in
theorem compare_any (w : World) (a b : ByteArray) : Calls Try.prog 54 #[kv a, kv b] w fun e w' => e = .returned (.int .i64 (cmpK lt a b)) ∧ w' = w := by
  have ka : kv a = kv a := rfl
  unfold kv at ka ⊢
  have h1 := Lib.hid (rfl : cmpK lt a b = if Op.bytesLess a.toList b.toList then -1 else if Op.bytesLess b.toList a.toList then 1 else 0)
  go_enter Try.func54, Try.ntmps54
  go_wp2_with fail
  refine (nan_any _ a).mono ?_
  rintro e w1 ⟨rfl, rfl⟩
  go_wp2_with fail
  refine (nan_any _ b).mono ?_
  rintro e w2 ⟨rfl, rfl⟩
  go_wp2
  case _ h => go_ret; exact ⟨by rw [cmp_lt ord h]; rfl, rfl⟩
  case _ h k => go_ret; exact ⟨by rw [cmp_gt ord (gt_of (by assumption) (by simpa using k))]; rfl, rfl⟩
  case _ h k => go_ret; exact ⟨by rw [cmp_eq ord (bytes_inj (by simpa using k))]; rfl, rfl⟩

set_option maxHeartbeats 1000000 in
theorem place1_any (w : World) (a b : ByteArray) (v : Int) : Calls Try.prog 53 #[.agg #[kv a, vv v], kv b] w fun e w' => e = .returned (.int .i64 (cmpK lt a b)) ∧ Fr [] w w' := by
  obtain ⟨ka, hka⟩ : ∃ x, kv a = x := ⟨_, rfl⟩
  obtain ⟨kb, hkb⟩ : ∃ x, kv b = x := ⟨_, rfl⟩
  obtain ⟨kx, hkx⟩ : ∃ x, vv v = x := ⟨_, rfl⟩
  have one : ka.oneCell' = true := by subst hka; rfl
  have onex : kx.oneCell' = true := by subst hkx; rfl
  have HC := Lib.hid (compare_any (w.alloc (.cells #[ka, kx] 81)) a b)
  rw [hka, hkb] at HC
  have F1 := (Fr.refl [] w).alloc (.cells #[ka, kx] 81)
  rw [hka, hkb, hkx]
  clear hka hkb hkx
  go_enter Try.func53, Try.ntmps53
  go_wp2_with fail
  refine HC.out.mono ?_
  rintro e w1 ⟨rfl, rfl⟩
  go_wp2
  go_ret
  exact ⟨rfl, F1⟩

end Go.Proofs.Ytamnmpcnhaeigaa.TabS

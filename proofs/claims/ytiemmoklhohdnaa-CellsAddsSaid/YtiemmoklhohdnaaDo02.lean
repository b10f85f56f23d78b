/- The helpers of the statements on cells: an operation on memory ('do'), and on the document's ('Do'). -/
import Derived.Test.YtiemmoklhohdnaaRef02
namespace Go.Proofs.Ytiemmoklhohdnaa
open Go.RowKit

/-- An operation, as data. -/
structure OpV where
  k : Int
  i : Int
  v : Int
  u : Int
def OpV.val (o : OpV) : Value := .agg #[.int .u8 o.k, .int .i64 o.i, .int .i64 o.v, .int .i64 o.u]
def opTold (o : OpV) (L : List Int) : Int :=
  if o.k = 0 then loadV L o.i else if o.k = 1 then (if isIn L o.i then 1 else 0) else if o.k = 2 then (if casB L o.i o.v then 1 else 0) else if o.k = 3 then loadV L o.i else 0
def opNext (o : OpV) (L : List Int) : List Int :=
  if o.k = 1 then storeL L o.i o.v else if o.k = 2 then casL L o.i o.v o.u else if o.k = 3 then addL L o.i o.v else L
def opTch (o : OpV) (L : List Int) : Int := if o.k < 4 then tch L o.i else 0

theorem length_opNext (o : OpV) (L : List Int) : (opNext o L).length = L.length := by
  unfold opNext; split
  · exact length_storeL _ _ _
  · split
    · exact length_casL _ _ _ _
    · split
      · exact length_addL _ _ _
      · rfl
theorem opTch_0 (o : OpV) (L : List Int) : 0 ≤ opTch o L ∧ opTch o L ≤ 1 := by
  unfold opTch; split
  · exact tch_0 L o.i
  · omega
set_option maxHeartbeats 400000 in
theorem do_0 (w : World) (p q : Nat) (L : List Int) (t i v u : Int) (hM : MemAt 53 w p q L t) (ht0 : 0 ≤ t) (ht1 : t < 4611686018427387904) :
    Calls Try.prog 14 #[.pointer (some ⟨p, 0, none⟩), .agg #[.int .u8 0, .int .i64 i, .int .i64 v, .int .i64 u]] w fun e w' => e = .returned (.int .i64 (loadV L i)) ∧ Left 53 p q (L) (t + tch L i) w w' := by
  have hM1 : MemAt 53 (w.alloc (.cells #[.int .u8 0, .int .i64 i, .int .i64 v, .int .i64 u] 37)) p q L t := hM.fr ((Fr.refl [] w).alloc _) (by simp) (by simp)
  have hfr1 := (Fr.refl [p, q] w).alloc (.cells #[.int .u8 0, .int .i64 i, .int .i64 v, .int .i64 u] 37)
  go_enter Try.func14, Try.ntmps14
  go_wp2_with fail
  refine (load_any _ p q L t i  hM1 ht0 ht1).mono ?_
  rintro e w1 ⟨rfl, hm, hf⟩
  have hfr := hfr1.trans hf
  go_wp2
  go_ret
  exact ⟨rfl, hm, hfr⟩
set_option maxHeartbeats 400000 in
theorem do_3 (w : World) (p q : Nat) (L : List Int) (t i v u : Int) (hM : MemAt 53 w p q L t) (ht0 : 0 ≤ t) (ht1 : t < 4611686018427387904) :
    Calls Try.prog 14 #[.pointer (some ⟨p, 0, none⟩), .agg #[.int .u8 3, .int .i64 i, .int .i64 v, .int .i64 u]] w fun e w' => e = .returned (.int .i64 (loadV L i)) ∧ Left 53 p q (addL L i v) (t + tch L i) w w' := by
  have hM1 : MemAt 53 (w.alloc (.cells #[.int .u8 3, .int .i64 i, .int .i64 v, .int .i64 u] 37)) p q L t := hM.fr ((Fr.refl [] w).alloc _) (by simp) (by simp)
  have hfr1 := (Fr.refl [p, q] w).alloc (.cells #[.int .u8 3, .int .i64 i, .int .i64 v, .int .i64 u] 37)
  go_enter Try.func14, Try.ntmps14
  go_wp2_with fail
  refine (add_any _ p q L t i v hM1 ht0 ht1).mono ?_
  rintro e w1 ⟨rfl, hm, hf⟩
  have hfr := hfr1.trans hf
  go_wp2
  go_ret
  exact ⟨rfl, hm, hfr⟩
set_option maxHeartbeats 400000 in
theorem do_1 (w : World) (p q : Nat) (L : List Int) (t i v u : Int) (hM : MemAt 53 w p q L t) (ht0 : 0 ≤ t) (ht1 : t < 4611686018427387904) :
    Calls Try.prog 14 #[.pointer (some ⟨p, 0, none⟩), .agg #[.int .u8 1, .int .i64 i, .int .i64 v, .int .i64 u]] w fun e w' => e = .returned (.int .i64 (if isIn L i then 1 else 0)) ∧ Left 53 p q (storeL L i v) (t + tch L i) w w' := by
  have hM1 : MemAt 53 (w.alloc (.cells #[.int .u8 1, .int .i64 i, .int .i64 v, .int .i64 u] 37)) p q L t := hM.fr ((Fr.refl [] w).alloc _) (by simp) (by simp)
  have hfr1 := (Fr.refl [p, q] w).alloc (.cells #[.int .u8 1, .int .i64 i, .int .i64 v, .int .i64 u] 37)
  cases hb : isIn L i
  · rw [if_neg (by simp)]
    go_enter Try.func14, Try.ntmps14
    go_wp2_with fail
    refine (store_any _ p q L t i v hM1 ht0 ht1).mono ?_
    rintro e w1 ⟨rfl, hm, hf⟩
    have hfr := hfr1.trans hf
    go_wp2
    go_ret
    exact ⟨rfl, hm, hfr⟩
  · rw [if_pos rfl]
    go_enter Try.func14, Try.ntmps14
    go_wp2_with fail
    refine (store_any _ p q L t i v hM1 ht0 ht1).mono ?_
    rintro e w1 ⟨rfl, hm, hf⟩
    have hfr := hfr1.trans hf
    go_wp2
    go_ret
    exact ⟨rfl, hm, hfr⟩
set_option maxHeartbeats 400000 in
theorem do_2 (w : World) (p q : Nat) (L : List Int) (t i v u : Int) (hM : MemAt 53 w p q L t) (ht0 : 0 ≤ t) (ht1 : t < 4611686018427387904) :
    Calls Try.prog 14 #[.pointer (some ⟨p, 0, none⟩), .agg #[.int .u8 2, .int .i64 i, .int .i64 v, .int .i64 u]] w fun e w' => e = .returned (.int .i64 (if casB L i v then 1 else 0)) ∧ Left 53 p q (casL L i v u) (t + tch L i) w w' := by
  have hM1 : MemAt 53 (w.alloc (.cells #[.int .u8 2, .int .i64 i, .int .i64 v, .int .i64 u] 37)) p q L t := hM.fr ((Fr.refl [] w).alloc _) (by simp) (by simp)
  have hfr1 := (Fr.refl [p, q] w).alloc (.cells #[.int .u8 2, .int .i64 i, .int .i64 v, .int .i64 u] 37)
  cases hb : casB L i v
  · rw [if_neg (by simp)]
    go_enter Try.func14, Try.ntmps14
    go_wp2_with fail
    refine (cas_any _ p q L t i v u hM1 ht0 ht1).mono ?_
    rintro e w1 ⟨rfl, hm, hf⟩
    have hfr := hfr1.trans hf
    go_wp2
    go_ret
    exact ⟨rfl, hm, hfr⟩
  · rw [if_pos rfl]
    go_enter Try.func14, Try.ntmps14
    go_wp2_with fail
    refine (cas_any _ p q L t i v u hM1 ht0 ht1).mono ?_
    rintro e w1 ⟨rfl, hm, hf⟩
    have hfr := hfr1.trans hf
    go_wp2
    go_ret
    exact ⟨rfl, hm, hfr⟩
set_option maxHeartbeats 400000 in
theorem do_4 (w : World) (p q : Nat) (L : List Int) (t k i v u : Int) (hM : MemAt 53 w p q L t)  (hk : 3 < k) :
    Calls Try.prog 14 #[.pointer (some ⟨p, 0, none⟩), .agg #[.int .u8 k, .int .i64 i, .int .i64 v, .int .i64 u]] w fun e w' => e = .returned (.int .i64 (0)) ∧ Left 53 p q (L) (t) w w' := by
  have hM1 : MemAt 53 (w.alloc (.cells #[.int .u8 k, .int .i64 i, .int .i64 v, .int .i64 u] 37)) p q L t := hM.fr ((Fr.refl [] w).alloc _) (by simp) (by simp)
  have hfr1 := (Fr.refl [p, q] w).alloc (.cells #[.int .u8 k, .int .i64 i, .int .i64 v, .int .i64 u] 37)
  have k0 : (k == 0) = false := by simp; omega
  have k1 : (k == 1) = false := by simp; omega
  have k2 : (k == 2) = false := by simp; omega
  have k3 : (k == 3) = false := by simp; omega
  go_enter Try.func14, Try.ntmps14
  go_wp2
  go_ret
  exact ⟨rfl, hM1, hfr1⟩

theorem do_any (w : World) (p q : Nat) (L : List Int) (t : Int) (o : OpV) (hM : MemAt 53 w p q L t) (ht0 : 0 ≤ t) (ht1 : t < 4611686018427387904) (hk : 0 ≤ o.k) :
    Calls Try.prog 14 #[.pointer (some ⟨p, 0, none⟩), o.val] w fun e w' => e = .returned (.int .i64 (opTold o L)) ∧ Left 53 p q (opNext o L) (t + opTch o L) w w' := by
  obtain ⟨k, i, v, u⟩ := o
  simp only at hk
  by_cases k0 : k = 0
  · subst k0; simpa [OpV.val, opTold, opNext, opTch] using do_0 w p q L t i v u hM ht0 ht1
  · by_cases k1 : k = 1
    · subst k1; simpa [OpV.val, opTold, opNext, opTch] using do_1 w p q L t i v u hM ht0 ht1
    · by_cases k2 : k = 2
      · subst k2; simpa [OpV.val, opTold, opNext, opTch] using do_2 w p q L t i v u hM ht0 ht1
      · by_cases k3 : k = 3
        · subst k3; simpa [OpV.val, opTold, opNext, opTch] using do_3 w p q L t i v u hM ht0 ht1
        · have h4 : ¬ k < 4 := by omega
          simpa [OpV.val, opTold, opNext, opTch, k0, k1, k2, k3, h4] using do_4 w p q L t k i v u hM (by omega)
set_option maxHeartbeats 400000 in
theorem rdo_0 (w : World) (p q : Nat) (L : List Int) (t i v u : Int) (hM : MemAt 34 w p q L t) (ht0 : 0 ≤ t) (ht1 : t < 4611686018427387904) :
    Calls Try.prog 15 #[.pointer (some ⟨p, 0, none⟩), .agg #[.int .u8 0, .int .i64 i, .int .i64 v, .int .i64 u]] w fun e w' => e = .returned (.int .i64 (loadV L i)) ∧ Left 34 p q (L) (t + tch L i) w w' := by
  have hM1 : MemAt 34 (w.alloc (.cells #[.int .u8 0, .int .i64 i, .int .i64 v, .int .i64 u] 37)) p q L t := hM.fr ((Fr.refl [] w).alloc _) (by simp) (by simp)
  have hfr1 := (Fr.refl [p, q] w).alloc (.cells #[.int .u8 0, .int .i64 i, .int .i64 v, .int .i64 u] 37)
  go_enter Try.func15, Try.ntmps15
  go_wp2_with fail
  refine (rload_any _ p q L t i  hM1 ht0 ht1).mono ?_
  rintro e w1 ⟨rfl, hm, hf⟩
  have hfr := hfr1.trans hf
  go_wp2
  go_ret
  exact ⟨rfl, hm, hfr⟩
set_option maxHeartbeats 400000 in
theorem rdo_3 (w : World) (p q : Nat) (L : List Int) (t i v u : Int) (hM : MemAt 34 w p q L t) (ht0 : 0 ≤ t) (ht1 : t < 4611686018427387904) :
    Calls Try.prog 15 #[.pointer (some ⟨p, 0, none⟩), .agg #[.int .u8 3, .int .i64 i, .int .i64 v, .int .i64 u]] w fun e w' => e = .returned (.int .i64 (loadV L i)) ∧ Left 34 p q (addL L i v) (t + tch L i) w w' := by
  have hM1 : MemAt 34 (w.alloc (.cells #[.int .u8 3, .int .i64 i, .int .i64 v, .int .i64 u] 37)) p q L t := hM.fr ((Fr.refl [] w).alloc _) (by simp) (by simp)
  have hfr1 := (Fr.refl [p, q] w).alloc (.cells #[.int .u8 3, .int .i64 i, .int .i64 v, .int .i64 u] 37)
  go_enter Try.func15, Try.ntmps15
  go_wp2_with fail
  refine (radd_any _ p q L t i v hM1 ht0 ht1).mono ?_
  rintro e w1 ⟨rfl, hm, hf⟩
  have hfr := hfr1.trans hf
  go_wp2
  go_ret
  exact ⟨rfl, hm, hfr⟩
set_option maxHeartbeats 400000 in
theorem rdo_1 (w : World) (p q : Nat) (L : List Int) (t i v u : Int) (hM : MemAt 34 w p q L t) (ht0 : 0 ≤ t) (ht1 : t < 4611686018427387904) :
    Calls Try.prog 15 #[.pointer (some ⟨p, 0, none⟩), .agg #[.int .u8 1, .int .i64 i, .int .i64 v, .int .i64 u]] w fun e w' => e = .returned (.int .i64 (if isIn L i then 1 else 0)) ∧ Left 34 p q (storeL L i v) (t + tch L i) w w' := by
  have hM1 : MemAt 34 (w.alloc (.cells #[.int .u8 1, .int .i64 i, .int .i64 v, .int .i64 u] 37)) p q L t := hM.fr ((Fr.refl [] w).alloc _) (by simp) (by simp)
  have hfr1 := (Fr.refl [p, q] w).alloc (.cells #[.int .u8 1, .int .i64 i, .int .i64 v, .int .i64 u] 37)
  cases hb : isIn L i
  · rw [if_neg (by simp)]
    go_enter Try.func15, Try.ntmps15
    go_wp2_with fail
    refine (rstore_any _ p q L t i v hM1 ht0 ht1).mono ?_
    rintro e w1 ⟨rfl, hm, hf⟩
    have hfr := hfr1.trans hf
    go_wp2
    go_ret
    exact ⟨rfl, hm, hfr⟩
  · rw [if_pos rfl]
    go_enter Try.func15, Try.ntmps15
    go_wp2_with fail
    refine (rstore_any _ p q L t i v hM1 ht0 ht1).mono ?_
    rintro e w1 ⟨rfl, hm, hf⟩
    have hfr := hfr1.trans hf
    go_wp2
    go_ret
    exact ⟨rfl, hm, hfr⟩
set_option maxHeartbeats 400000 in
theorem rdo_2 (w : World) (p q : Nat) (L : List Int) (t i v u : Int) (hM : MemAt 34 w p q L t) (ht0 : 0 ≤ t) (ht1 : t < 4611686018427387904) :
    Calls Try.prog 15 #[.pointer (some ⟨p, 0, none⟩), .agg #[.int .u8 2, .int .i64 i, .int .i64 v, .int .i64 u]] w fun e w' => e = .returned (.int .i64 (if casB L i v then 1 else 0)) ∧ Left 34 p q (casL L i v u) (t + tch L i) w w' := by
  have hM1 : MemAt 34 (w.alloc (.cells #[.int .u8 2, .int .i64 i, .int .i64 v, .int .i64 u] 37)) p q L t := hM.fr ((Fr.refl [] w).alloc _) (by simp) (by simp)
  have hfr1 := (Fr.refl [p, q] w).alloc (.cells #[.int .u8 2, .int .i64 i, .int .i64 v, .int .i64 u] 37)
  cases hb : casB L i v
  · rw [if_neg (by simp)]
    go_enter Try.func15, Try.ntmps15
    go_wp2_with fail
    refine (rcas_any _ p q L t i v u hM1 ht0 ht1).mono ?_
    rintro e w1 ⟨rfl, hm, hf⟩
    have hfr := hfr1.trans hf
    go_wp2
    go_ret
    exact ⟨rfl, hm, hfr⟩
  · rw [if_pos rfl]
    go_enter Try.func15, Try.ntmps15
    go_wp2_with fail
    refine (rcas_any _ p q L t i v u hM1 ht0 ht1).mono ?_
    rintro e w1 ⟨rfl, hm, hf⟩
    have hfr := hfr1.trans hf
    go_wp2
    go_ret
    exact ⟨rfl, hm, hfr⟩
set_option maxHeartbeats 400000 in
theorem rdo_4 (w : World) (p q : Nat) (L : List Int) (t k i v u : Int) (hM : MemAt 34 w p q L t)  (hk : 3 < k) :
    Calls Try.prog 15 #[.pointer (some ⟨p, 0, none⟩), .agg #[.int .u8 k, .int .i64 i, .int .i64 v, .int .i64 u]] w fun e w' => e = .returned (.int .i64 (0)) ∧ Left 34 p q (L) (t) w w' := by
  have hM1 : MemAt 34 (w.alloc (.cells #[.int .u8 k, .int .i64 i, .int .i64 v, .int .i64 u] 37)) p q L t := hM.fr ((Fr.refl [] w).alloc _) (by simp) (by simp)
  have hfr1 := (Fr.refl [p, q] w).alloc (.cells #[.int .u8 k, .int .i64 i, .int .i64 v, .int .i64 u] 37)
  have k0 : (k == 0) = false := by simp; omega
  have k1 : (k == 1) = false := by simp; omega
  have k2 : (k == 2) = false := by simp; omega
  have k3 : (k == 3) = false := by simp; omega
  go_enter Try.func15, Try.ntmps15
  go_wp2
  go_ret
  exact ⟨rfl, hM1, hfr1⟩

theorem rdo_any (w : World) (p q : Nat) (L : List Int) (t : Int) (o : OpV) (hM : MemAt 34 w p q L t) (ht0 : 0 ≤ t) (ht1 : t < 4611686018427387904) (hk : 0 ≤ o.k) :
    Calls Try.prog 15 #[.pointer (some ⟨p, 0, none⟩), o.val] w fun e w' => e = .returned (.int .i64 (opTold o L)) ∧ Left 34 p q (opNext o L) (t + opTch o L) w w' := by
  obtain ⟨k, i, v, u⟩ := o
  simp only at hk
  by_cases k0 : k = 0
  · subst k0; simpa [OpV.val, opTold, opNext, opTch] using rdo_0 w p q L t i v u hM ht0 ht1
  · by_cases k1 : k = 1
    · subst k1; simpa [OpV.val, opTold, opNext, opTch] using rdo_1 w p q L t i v u hM ht0 ht1
    · by_cases k2 : k = 2
      · subst k2; simpa [OpV.val, opTold, opNext, opTch] using rdo_2 w p q L t i v u hM ht0 ht1
      · by_cases k3 : k = 3
        · subst k3; simpa [OpV.val, opTold, opNext, opTch] using rdo_3 w p q L t i v u hM ht0 ht1
        · have h4 : ¬ k < 4 := by omega
          simpa [OpV.val, opTold, opNext, opTch, k0, k1, k2, k3, h4] using rdo_4 w p q L t k i v u hM (by omega)

end Go.Proofs.Ytiemmoklhohdnaa

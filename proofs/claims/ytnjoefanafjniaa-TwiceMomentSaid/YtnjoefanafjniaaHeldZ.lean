/- A drawn region in which one operation, z, turns a cell that others, which come up ahead of it in every order, read. After the kit's OrdersHeld and RegionHeld. -/
import Derived.Test.YtnjoefanafjniaaBase
import Derived.OrdersHeld
import Derived.Deep.RegionHeld3
namespace Go.Proofs.Ytnjoefanafjniaa
open Go

section
variable {P : Program} {ops : Array Oper} {Q : Exit → Act → World → Prop} {md : Region.Mode} {S : World → Prop} {z : Nat}

/-- S holds behind every operation but z; behind z nothing is said. -/
def wpAnyZ (P : Program) (md : Region.Mode) (ops : Array Oper) (Q : Exit → Act → World → Prop) (z : Nat) (S : World → Prop) : Nat → Array Bool → Act → World → Prop
  | 0, listed, a, w => Region.ready md ops listed = [] ∧ Q .normal a w
  | fuel + 1, listed, a, w =>
    (Region.ready md ops listed = [] → Q .normal a w) ∧
    ∀ i ∈ Region.ready md ops listed, wpOp P ops Q i (fun a' w' => (i = z ∨ S w') ∧ wpAnyZ P md ops Q z S fuel (listed.setIfInBounds i true) a' w') a w

theorem wpAny_of_heldZ : ∀ (fuel : Nat) (listed : Array Bool) (a : Act) (w : World), wpAnyZ P md ops Q z S fuel listed a w → wpAny P md ops Q fuel listed a w
  | 0, _, _, _, h => h
  | fuel + 1, _, _, _, h => ⟨h.1, fun i hi => wpOp_mono (fun a' w' h' => wpAny_of_heldZ fuel _ a' w' h'.2) (h.2 i hi)⟩

/-- Those of B have not come up, and each waits for i or for one of B. -/
def Blocked (md : Region.Mode) (ops : Array Oper) (listed : Array Bool) (i : Nat) (B : List Nat) : Prop :=
  ∀ k ∈ B, listed.getD k true = false ∧ ∃ o, ops[k]? = some o ∧ ∃ e ∈ o.after, Region.binds md e = true ∧ (e.on = i ∨ e.on ∈ B)
def blockedB (md : Region.Mode) (ops : Array Oper) (listed : Array Bool) (i : Nat) (B : List Nat) : Bool :=
  B.all fun k => !listed.getD k true && (match ops[k]? with | some o => o.after.any (fun e => Region.binds md e && (e.on == i || B.contains e.on)) | none => false)
theorem blockedB_spec {listed : Array Bool} {i : Nat} {B : List Nat} (h : blockedB md ops listed i B = true) : Blocked md ops listed i B := by
  intro k hk
  have := List.all_eq_true.1 h k hk
  rw [Bool.and_eq_true] at this
  refine ⟨by simpa using this.1, ?_⟩
  have h2 := this.2
  cases ho : ops[k]? with
  | none => rw [ho] at h2; cases h2
  | some o =>
    rw [ho] at h2
    obtain ⟨k, hk, hb⟩ := Array.any_eq_true.1 h2
    rw [Bool.and_eq_true] at hb
    exact ⟨o, rfl, o.after[k], Array.getElem_mem hk, hb.1, by simpa using hb.2⟩
theorem getD_ft {l : Array Bool} {i : Nat} (h1 : l.getD i false = true) (h0 : l.getD i true = false) : False := by
  rcases Nat.lt_or_ge i l.size with h' | h'
  · simp [h'] at h0 h1; rw [h0] at h1; cases h1
  · simp [Array.getElem?_eq_none h'] at h1
theorem Blocked.out {listed : Array Bool} {i j : Nat} {B : List Nat} (h : Blocked md ops listed i B) (hi : listed.getD i true = false) (hj : j ∈ Region.ready md ops listed) : j ∉ B := by
  intro hB
  obtain ⟨_, o, ho, e, he, hb, hor⟩ := h j hB
  obtain ⟨_, o', ho', hall⟩ := mem_ready.1 hj
  rw [ho] at ho'; cases ho'
  have h1 := hall e he hb
  rcases hor with rfl | h2
  · exact getD_ft h1 hi
  · exact getD_ft h1 (h _ h2).1

theorem wpAnyZ_first {i : Nat} {oi : Oper} {v : Value} {B : List Nat} (hi : ops[i]? = some oi) (hsel : ∀ (j : Nat) (o : Oper) cs b, ops[j]? = some o → o.op ≠ .select cs b)
    (hQ : ∀ c a w, Q (.panic c) (a.put oi.dst v) w → Q (.panic c) a w) (hz : z ∈ B) (hzi : i ≠ z) :
    ∀ (fuel : Nat) (listed : Array Bool) (a : Act) (w : World),
      (∀ j oj, ops[j]? = some oj → j ≠ i → listed.getD j true = false → (∀ e ∈ oj.after, Region.binds md e = true → e.on ≠ i) → oi.apart ops oj = true) →
      i ∈ Region.ready md ops listed → Blocked md ops listed i B → YieldsIf P ops S oi v a → S w →
      wpAnyZ P md ops Q z S fuel (listed.setIfInBounds i true) (a.put oi.dst v) w → wpAnyZ P md ops Q z S (fuel + 1) listed a w := by
  intro fuel
  induction fuel with
  | zero =>
    intro listed a w _ hr _ hy hS H
    refine ⟨fun h => (by rw [h] at hr; cases hr), fun j hj => ?_⟩
    by_cases hji : j = i
    · subst hji; exact hy.wpOp hi hS ⟨.inr hS, H⟩
    · have := ready_mono hj hji
      rw [H.1] at this
      cases this
  | succ fuel ih =>
    intro listed a w hfree hr hB hy hS H
    have hun := (mem_ready.1 hr).1
    refine ⟨fun h => (by rw [h] at hr; cases hr), fun j hj => ?_⟩
    by_cases hji : j = i
    · subst hji; exact hy.wpOp hi hS ⟨.inr hS, H⟩
    · have hjB := hB.out hun hj
      have hjz : j ≠ z := fun h => hjB (h ▸ hz)
      have h1 := H.2 j (ready_mono hj hji)
      obtain ⟨hjun, oj, hoj, hall⟩ := mem_ready.1 hj
      have hnot : ∀ e ∈ oj.after, Region.binds md e = true → e.on ≠ i := fun e he hb heq => getD_ft (heq ▸ hall e he hb) hun
      have h2 := wpOp_putIf hoj (hfree j oj hoj hji hjun hnot) (fun cs b => hsel i oi cs b hi) (fun cs b => hsel j oj cs b hoj) hQ hy h1
      have hfree' : ∀ k ok, ops[k]? = some ok → k ≠ i → (listed.setIfInBounds j true).getD k true = false →
          (∀ e ∈ ok.after, Region.binds md e = true → e.on ≠ i) → oi.apart ops ok = true := fun k ok hk hki hun hno => by
        refine hfree k ok hk hki ?_ hno
        by_cases hjk : j = k
        · subst hjk; exact hjun
        · rw [getD_set_ne true hjk] at hun; exact hun
      have hB' : Blocked md ops (listed.setIfInBounds j true) i B := fun k hk => by
        have hjk : j ≠ k := fun h => hjB (h ▸ hk)
        obtain ⟨h0, hrest⟩ := hB k hk
        exact ⟨by rw [getD_set_ne true hjk]; exact h0, hrest⟩
      refine wpOp_mono (fun a' w' h3 => ?_) h2
      have hS' : S w' := h3.2.1.resolve_left hjz
      refine ⟨.inr hS', ih (listed.setIfInBounds j true) a' w' hfree' (ready_mono hr (Ne.symm hji)) hB' h3.1 hS' ?_⟩
      rw [Array.setIfInBounds_comm _ _ hji]
      exact h3.2.2

/-- Those that wait for i, itself or through others (operations stand behind those they wait for). -/
def waitsOn (md : Region.Mode) (ops : Array Oper) (listed : Array Bool) (i : Nat) : List Nat :=
  (List.range ops.size).foldl (fun B k => if !listed.getD k true && (match ops[k]? with | some o => o.after.any (fun e => Region.binds md e && (e.on == i || B.contains e.on)) | none => false) then k :: B else B) []

theorem wpAnyZ_take {i : Nat} {oi : Oper} {v : Value} {fuel : Nat} {listed : Array Bool} {a : Act} {w : World} (hi : ops[i]? = some oi)
    (hs : Region.noSelect ops = true) (hf : Region.free md ops listed i = true) (hr : (Region.ready md ops listed).contains i = true)
    (hB : ((waitsOn md ops listed i).contains z && decide (i ≠ z) && blockedB md ops listed i (waitsOn md ops listed i)) = true)
    (hQ : ∀ c a w, Q (.panic c) (a.put oi.dst v) w → Q (.panic c) a w) (hy : YieldsIf P ops S oi v a) (hS : S w)
    (h : wpAnyZ P md ops Q z S fuel (listed.setIfInBounds i true) (a.put oi.dst v) w) : wpAnyZ P md ops Q z S (fuel + 1) listed a w := by
  rw [Bool.and_eq_true, Bool.and_eq_true] at hB
  exact wpAnyZ_first hi (Region.noSelect_spec hs) hQ (by simpa using hB.1.1) (of_decide_eq_true hB.1.2) fuel listed a w (Region.free_spec hi hf) (by simpa using hr) (blockedB_spec hB.2) hy hS h

/-- Only i may come up, and it is not z. -/
theorem wpAnyZ_one {i : Nat} {o : Oper} {fuel : Nat} {listed : Array Bool} {a : Act} {w : World} (hr : Region.ready md ops listed = [i]) (ho : ops[i]? = some o)
    (h : ∀ K' : Act → World → Prop, Shut (∀ a w, S w → (S w → wpAnyZ P md ops Q z S fuel (listed.setIfInBounds i true) a w) → K' a w) → if Region.wanted o (yielded ops a.tmps) = true then Oper.wp P o a w K' Q else K' (a.put o.dst undef) w) :
    wpAnyZ P md ops Q z S (fuel + 1) listed a w := by
  refine ⟨fun h0 => (by rw [hr] at h0; cases h0), fun j hj => ?_⟩
  rw [hr] at hj
  obtain rfl := List.mem_singleton.1 hj
  exact wpOp_step ho (fun K' hK => h K' (fun a w hS hW => hK a w ⟨.inr hS, hW hS⟩))
/-- Only z may come up. -/
theorem wpAnyZ_last {o : Oper} {fuel : Nat} {listed : Array Bool} {a : Act} {w : World} (hr : Region.ready md ops listed = [z]) (ho : ops[z]? = some o)
    (h : ∀ K' : Act → World → Prop, Shut (∀ a w, wpAnyZ P md ops Q z S fuel (listed.setIfInBounds z true) a w → K' a w) → if Region.wanted o (yielded ops a.tmps) = true then Oper.wp P o a w K' Q else K' (a.put o.dst undef) w) :
    wpAnyZ P md ops Q z S (fuel + 1) listed a w := by
  refine ⟨fun h0 => (by rw [hr] at h0; cases h0), fun j hj => ?_⟩
  rw [hr] at hj
  obtain rfl := List.mem_singleton.1 hj
  exact wpOp_step ho (fun K' hK => h K' (fun a w hW => hK a w ⟨.inl rfl, hW⟩))

theorem wpAnyZ_done {listed : Array Bool} {a : Act} {w : World} (hr : Region.ready md ops listed = []) (h : Q .normal a w) :
    ∀ fuel, wpAnyZ P md ops Q z S fuel listed a w
  | 0 => ⟨hr, h⟩
  | _ + 1 => ⟨fun _ => h, by rw [hr]; simp⟩

theorem wp_region_heldZ {id : Nat} {a : Act} {w : World} (hm : P.follows .mixedOrders = true) (hS : S w.drew)
    (h : S w.drew → wpAnyZ P .any ops Q z S ops.size (Array.replicate ops.size false) a w.drew) : (Code.region id ops true).wp P Q a w :=
  wp_region_any hm (wpAny_of_heldZ _ _ _ _ (h hS))
end
end Go.Proofs.Ytnjoefanafjniaa

/- A drawn region in a round of a range over a function, by the laws of regions outside of rounds ('held' ones too). For whatever program. -/
import Derived.Test.YtamnmpcnhaeigaaIterN
import Derived.OrdersHeld
import Derived.OrdersIn
import Derived.Shelf.RegionOpen
namespace Go.Proofs.Ytamnmpcnhaeigaa
open Go.RowKit Go.Shelf
attribute [local go_sem] Oper.semAt_some

/-- In a round a region goes as anywhere, where it defers nothing. -/
theorem opIn_round {P : Program} {n r : Nat} {o : Oper} {a : Act} {w : World} {K : Act → World → Prop} {Q : Exit → Act → World → Prop} (hd : ∀ c, o.op ≠ .defer c) (h : o.wpIn Fence.wide n P a w K Q) : o.wpIn (Fence.wide.inRound r) n P a w K Q := by
  unfold Oper.wpIn at *
  refine ⟨fun _ _ => trivial, ?_⟩
  have h2 := h.2
  rw [show Fence.wide.round = none from rfl, Oper.semAt_none] at h2
  rw [Fence.inRound_round, Oper.semAt_some _ _ _ hd]
  exact h2
theorem anyIn_round {P : Program} {n r : Nat} {md : Region.Mode} {ops : Array Oper} {Q : Exit → Act → World → Prop} (hd : ∀ (i : Nat) (o : Oper), ops[i]? = some o → ∀ c, o.op ≠ .defer c) :
    ∀ (fuel : Nat) (listed : Array Bool) (a : Act) (w : World), wpAnyIn Fence.wide n P md ops Q fuel listed a w → wpAnyIn (Fence.wide.inRound r) n P md ops Q fuel listed a w
  | 0, _, _, _, h => h
  | fuel + 1, _, _, _, h => ⟨h.1, fun i hi => by
    have h2 := wpOpIn_mono (fun a' w' h' => anyIn_round (r := r) hd fuel _ a' w' h') (h.2 i hi)
    unfold wpOpIn at h2 ⊢
    cases ho : ops[i]? with
    | none => simpa only [ho] using h2
    | some o =>
      simp only [ho] at h2 ⊢
      split
      · rename_i hw
        rw [if_pos hw] at h2
        exact opIn_round (hd i o ho) h2
      · rename_i hw
        rw [if_neg hw] at h2
        exact ⟨fun _ _ => trivial, h2.2⟩⟩
theorem region_round {P : Program} {n r id : Nat} {ops : Array Oper} {Q : Exit → Act → World → Prop} {a : Act} {w : World} (hm : P.follows .mixedOrders = true) (hd : ∀ o ∈ ops.toList, ∀ c, o.op ≠ .defer c)
    (h : wpAnyIn Fence.wide n P .any ops Q ops.size (Array.replicate ops.size false) a w.drew) : (Code.region id ops true).wpIn (Fence.wide.inRound r) n P Q a w :=
  wpIn_region_any hm (anyIn_round (fun i o ho => hd o (by rw [Array.mem_toList_iff]; exact Array.mem_of_getElem? ho)) _ _ _ _ h)

theorem rowsIn_of {n : Nat} {P : Program} {row : String} {args : Array Value} {w : World} {R : Value → World → Prop} (h : Rows P row args w R) : RowsIn Fence.wide n P row args w R :=
  fun c cs _ => let ⟨v, w', r, s⟩ := h c cs; ⟨v, w', r, stepsIn_wide.2 s⟩
theorem opIn_of {n : Nat} {P : Program} {o : Oper} {a : Act} {w : World} {K : Act → World → Prop} {Q : Exit → Act → World → Prop} (h : o.wp P a w K Q) : o.wpIn Fence.wide n P a w K Q := by
  unfold Oper.wp at h
  unfold Oper.wpIn
  refine ⟨fun _ _ => trivial, ?_⟩
  rw [show Fence.wide.round = none from rfl, Oper.semAt_none]
  generalize (execOp a.eval o).run P w = r at *
  cases r with
  | ok x w' =>
    cases x <;> simp only [Oper.upon, Oper.uponIn] at h ⊢ <;>
      first
        | exact h
        | exact ⟨fun hf => by simp [Fence.wide] at hf, callsIn_wide.2 h⟩
        | exact ⟨fun hf => by simp [Fence.wide] at hf, rowsIn_of h⟩
  | halt x w' => cases x <;> simp only [Oper.upon, Oper.uponIn] at h ⊢ <;> exact h
theorem anyIn_of {n : Nat} {P : Program} {md : Region.Mode} {ops : Array Oper} {Q : Exit → Act → World → Prop} (hno : ¬ LetsOut Q) :
    ∀ (fuel : Nat) (listed : Array Bool) (a : Act) (w : World), wpAny P md ops Q fuel listed a w → wpAnyIn Fence.wide n P md ops Q fuel listed a w
  | 0, _, _, _, h => h
  | fuel + 1, _, _, _, h => ⟨h.1, fun i hi => by
    have h2 := wpOp_mono (fun a' w' h' => anyIn_of (n := n) hno fuel _ a' w' h') (h.2 i hi)
    unfold wpOp at h2
    unfold wpOpIn
    cases ho : ops[i]? with
    | none => simpa only [ho] using h2
    | some o =>
      simp only [ho] at h2 ⊢
      split
      · rename_i hw
        rw [if_pos hw] at h2
        exact opIn_of (h2.resolve_right (fun h => hno h.2))
      · rename_i hw
        rw [if_neg hw] at h2
        exact ⟨fun _ _ => trivial, h2⟩⟩
/-- Q where the code goes on, else never. -/
def onlyN (Q : Exit → Act → World → Prop) : Exit → Act → World → Prop
  | .normal, a, w => Q .normal a w
  | _, _, _ => False
/-- The law: S is held behind every operation. -/
theorem region_round_held {P : Program} {n r id : Nat} {ops : Array Oper} {Q : Exit → Act → World → Prop} {S : World → Prop} {a : Act} {w : World} (hm : P.follows .mixedOrders = true) (hd : ∀ o ∈ ops.toList, ∀ c, o.op ≠ .defer c)
    (h : wpAnyH P .any ops (onlyN Q) S ops.size (Array.replicate ops.size false) a w.drew) : (Code.region id ops true).wpIn (Fence.wide.inRound r) n P Q a w :=
  wpIn_mono (region_round (Q := onlyN Q) hm hd (anyIn_of (fun ⟨_, _, h⟩ => h) _ _ _ _ (wpAny_of_held _ _ _ _ h))) fun e a w h => by
    cases e <;> first | exact h | exact (h : False).elim

end Go.Proofs.Ytamnmpcnhaeigaa

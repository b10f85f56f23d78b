/- Table, the plain law of TableOrder: unlike keys, in whatever order. No program. -/
import Derived.Test.YtamnmpcnhaeigaaTabZL
namespace Go.Proofs.Ytamnmpcnhaeigaa
section
variable {α β : Type}

/-- No key twice. -/
def Unlike (l : List (α × β)) : Prop := (l.map (·.1)).Nodup
theorem Unlike.rev {l : List (α × β)} (h : Unlike l) : Unlike l.reverse := by
  unfold Unlike List.Nodup at h ⊢
  rw [List.map_reverse, List.pairwise_reverse]
  exact h.imp fun h e => h e.symm
theorem Unlike.of {l : List (α × β)} (h : ∀ (j k : Nat) (x y : α × β), j < k → l[j]? = some x → l[k]? = some y → x.1 ≠ y.1) : Unlike l := by
  unfold Unlike List.Nodup
  rw [List.pairwise_map, List.pairwise_iff_getElem]
  exact fun i j hi hj hij => h i j _ _ hij (List.getElem?_eq_getElem hi) (List.getElem?_eq_getElem hj)
end
section
variable {α β : Type} [DecidableEq α] {lt : α → α → Bool}
theorem lastL_unlike : ∀ {l : List (α × β)}, Unlike l → lastL l = l
  | [], _ => rfl
  | x :: l, h => by
    have h' : x.1 ∉ l.map (·.1) ∧ (l.map (·.1)).Nodup := List.nodup_cons.1 h
    rw [lastL_cons, if_neg h'.1, lastL_unlike h'.2]
theorem fill_mem (o : KOrd lt) {l : List (α × β)} (h : Unlike l) (x : α × β) : x ∈ fillG lt l ↔ x ∈ l := by
  rw [mem_fill o, lastL_unlike h]
theorem fill_len (o : KOrd lt) {l : List (α × β)} (h : Unlike l) : (fillG lt l).length = l.length := by
  rw [len_fillG o, lastL_unlike h]
theorem fill_rev (o : KOrd lt) {l : List (α × β)} (h : Unlike l) : fillG lt l.reverse = fillG lt l :=
  rising_ext o (up_fill o _) (up_fill o _) fun x => by rw [fill_mem o h, fill_mem o h.rev, List.mem_reverse]
end
end Go.Proofs.Ytamnmpcnhaeigaa

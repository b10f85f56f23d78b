/- The layer 'line': the list of who stands there. -/
import Derived.Test.YtdpefnebghljoaaLineDQ
import Derived.Maps.AppendAt
import Derived.Deep.AppendLies
namespace Go.Proofs.Ytdpefnebghljoaa
open Go.RowKit Go.Shelf
attribute [local go_sem] Oper.semAt_some

/-- append to a list of the call's own, within a round: where the new list lies, too. -/
theorem wpListIn_append_lies {F : Fence} {n : Nat} {P : Program} (w : World) {ops : Array Oper} {rest : List Oper} {o : Oper} {a : Act} {Q : Exit → Act → World → Prop}
    (hg : o.guard = none) (s x : Operand) (t : TypeId) (hop : o.op = Op.call { callee := Callee.builtin Builtin.append, args := #[s, x], argTypes := #[t, t] })
    (base : Nat) (e : TypeId) (i : TypeInfo) (z : Value) (size bytes : Nat) (h1 : P.underlying t = some (.slice e)) (h2 : P.info? e = some i) (h3 : i.zero = some z) (h4 : i.size = size) (h5 : i.bytes = bytes) (h6 : z.cells.size = size) (h7 : 0 < size)
    (v : Value) (k : Nat) (xs : List Value) (hs : a.eval s = v) (hown : w.ownsRow base e size v k xs) (ad : Addr) (m c : Nat) (news : List Value) (hx : a.eval x = .slice (some ad) m c) (hn : news.length = m * size)
    (hc : ∀ j u, news[j]? = some u → w.cell? (ad.add j) = some u) (h1c : ∀ u ∈ news, u.oneCell' = true) (hm : 0 < m) (b1 : k + m ≤ maxLen) (b2 : (k + m) * bytes ≤ 140737488355328) (b3 : base ≤ w.heap.size)
    (hK : ∀ g cap w', w'.ownsRow base e size (.slice (some ⟨g, 0, none⟩) (k + m) cap) (k + m) (xs ++ news) → w.grownBy w' v.ownBlock → (v.ownBlock = some g ∨ g = w.heap.size) → g < w'.heap.size → wpListIn F n P ops Q rest (a.put o.dst (.slice (some ⟨g, 0, none⟩) (k + m) cap)) w') :
    wpListIn F n P ops Q (o :: rest) a w := by
  refine wpListIn_plain hg fun K hK' => ?_
  obtain ⟨g, cap, w', hrun, r1, r2, r3, r4⟩ := run_append_lies (P := P) w t o.type base e i z size bytes h1 h2 h3 h4 h5 h6 h7 v k xs hown ad m c news hn hc h1c hm b1 b2 b3 _ rfl
  unfold Oper.wpIn
  refine ⟨?_, ?_⟩
  · simp [Oper.about, hop, resolve, Target.leads, Sem.run_pure]
  · rw [Oper.semAt_plain F _ _ (by rw [hop]; intro c hc'; cases hc')]
    simp [execOp, hop, resolve, invoke, builtin, hs, hx, hrun, Result.andThen]
    exact hK' _ _ (hK g cap w' r1 r2 r3 r4)

theorem owns_same {W W' : World} {base e size n : Nat} {v : Value} {xs : List Value} (h : W.ownsRow base e size v n xs) (hs : ∀ b, v.ownBlock = some b → W'.heap[b]? = W.heap[b]?) : W'.ownsRow base e size v n xs := by
  refine ⟨h.1, ?_⟩
  rcases h.2 with hn | ⟨g, cap, cur, rfl, hb, hgg, rest⟩
  · exact .inl hn
  · exact .inr ⟨g, cap, cur, rfl, hb, by rw [hs g rfl]; exact hgg, rest⟩

theorem round_info_int : (Try.prog.info? 3).map (fun i => (i.zero, i.size, i.bytes)) = some (some (.int .i64 0), 1, 8) := by kernel_rfl

/-- Between two rounds: what has come lies in the list. -/
def ListInv (w2 : World) (E : Blk) (tb B : Nat) (xs : List Int) : Nat → World → Blk → Prop := fun k W O =>
  ∃ v : Value, O = (fun b => b = tb ∨ v.ownBlock = some b) ∧ W.heap[tb]? = some (.cells #[v] 26) ∧ W.ownsRow B 3 1 v k ((xs.take k).map (Value.int .i64)) ∧ Stp (fun x => x = tb ∨ E x) w2 W
theorem ListInv.stable {w2 : World} {E : Blk} {tb B : Nat} {xs : List Int} {B' : Nat} (hB : w2.heap.size ≤ B') : StableE B' E (ListInv w2 E tb B xs) := by
  rintro k W _ W' ⟨v, rfl, ht, ho, hs⟩ e1 e2 e3 e4 e5
  exact ⟨v, rfl, (e5 tb (.inl (.inl rfl))).trans ht, owns_same ho (fun b hb => e5 b (.inl (.inr hb))), ⟨e1.trans hs.os, e2.trans hs.tape, e3.trans hs.output, Nat.le_trans hs.size e4, fun b hb hn => (e5 b (.inr ⟨by omega, fun h => hn (.inr h)⟩)).trans (hs.block b hb hn)⟩⟩

def IntsPost (w : World) (L : List Int) (e : Ending) (w' : World) : Prop := ∃ (g : Option Addr) (c : Nat), e = .returned (.slice g L.length c) ∧ IntsAt w' g L ∧ Fr [] w w' ∧ L.length ≤ c
theorem ints_post {w w' : World} {B : Nat} {v : Value} {L : List Int} (h : w'.ownsRow B 3 1 v L.length (L.map (Value.int .i64))) (f : Fr [] w w') : IntsPost w L (.returned v) w' := by
  rcases h.2 with ⟨rfl, hn⟩ | ⟨g, cap, cur, rfl, rest⟩
  · have : L = [] := List.eq_nil_of_length_eq_zero hn
    subst this
    exact ⟨none, 0, rfl, IntsAt.empty _ _, f, Nat.le_refl _⟩
  · exact ⟨_, cap, rfl, IntsAt.of_owns h, f, rest.2.2.1⟩

end Go.Proofs.Ytdpefnebghljoaa

/- Table[int,int]: Drop. Printed by gen_tab.py. -/
import Derived.Test.YtamnmpcnhaeigaaTabGI
import Derived.Test.YtamnmpcnhaeigaaTabP
namespace Go.Proofs.Ytamnmpcnhaeigaa.TabI
open Go.RowKit
set_option linter.unusedVariables false

/-- What lies below B is as it was. -/
def Lo (B : Nat) (w w' : World) : Prop := ∃ S, Fr S w w' ∧ ∀ x ∈ S, B ≤ x
def drp (L : List (Int × Int)) (k : Int) : List (Int × Int) := if has lt L k then L.take (Go.Proofs.Ytamnmpcnhaeigaa.at_ lt L k) ++ L.drop (Go.Proofs.Ytamnmpcnhaeigaa.at_ lt L k + 1) else L

theorem Things.one {w : World} {s : Value} {L : List (Int × Int)} (h : Things w s L) : s.oneCell' = true := by
  rcases h with ⟨_, rfl⟩ | ⟨q, c, rfl, _⟩ <;> rfl

theorem Things.frS {w w' : World} {s : Value} {L : List (Int × Int)} (h : Things w s L) {S : List Nat} (f : Fr S w w') (hs : ∀ x ∈ rowsOf s, x ∉ S) : Things w' s L := by
  rcases h with h | ⟨q, c, h1, h2, h3, h4⟩
  · exact .inl h
  · exact .inr ⟨q, c, h1, h2, h3, h4.fr f (hs q (by rw [h1]; simp [rowsOf]))⟩

/-- The table p, whose things are s, tells L. -/
structure TabX (w : World) (p : Nat) (s : Value) (L : List (Int × Int)) : Prop where
  tab : TabS w p s
  th : Things w s L
  apart : p ∉ rowsOf s
  up : Rising lt L
/-- What a call turned: the table's block and its row; a new row is new. -/
def Turned (w w' : World) (p : Nat) (s s' : Value) : Prop := Fr (p :: rowsOf s) w w' ∧ ∀ x ∈ rowsOf s', x ∈ rowsOf s ∨ w.heap.size ≤ x

theorem Turned.lo {B : Nat} {w w' : World} {p : Nat} {s s' : Value} (h : Turned w w' p s s') (hp : B ≤ p) (hs : ∀ x ∈ rowsOf s, B ≤ x) : Lo B w w' :=
  ⟨p :: rowsOf s, h.1, fun x hx => by
    rcases List.mem_cons.1 hx with rfl | hx
    · exact hp
    · exact hs x hx⟩
theorem TabAt.of {B : Nat} {w w' : World} {p : Nat} {s s' : Value} {L' : List (Int × Int)} (h : TabX w' p s' L') (t : Turned w w' p s s') (hp : B ≤ p) (hs : ∀ x ∈ rowsOf s, B ≤ x) (hB : B ≤ w.heap.size) : TabAt B w' p L' :=
  ⟨⟨s', h.tab, h.th, h.apart, fun x hx => (t.2 x hx).elim (hs x) (Nat.le_trans hB)⟩, hp, h.up⟩

set_option maxHeartbeats 1000000 in
theorem drop_x (w : World) (p : Nat) (s : Value) (L : List (Int × Int)) (k : Int) (hn : L.length ≤ 1000) (ht : TabX w p s L) : Calls Try.prog 15 #[.pointer (some ⟨p, 0, none⟩), kv k] w fun e w' => e = .returned (.bool (has lt L k)) ∧ ∃ s', TabX w' p s' (drp L k) ∧ Turned w w' p s s' ∧ rowsOf s' = rowsOf s := by
  obtain ⟨hs, hr, hps, hup⟩ := ht
  have HP := Lib.hid (place_any w p s L k hn hs hr hup)
  obtain ⟨kb, hkb⟩ : ∃ x, kv k = x := ⟨_, rfl⟩
  rw [hkb] at HP ⊢
  have c1 : w.cell? ⟨p, 0, none⟩ = some s := cell_of (c := #[s]) hs rfl
  obtain ⟨hh, HH⟩ : ∃ b, has lt L k = b := ⟨_, rfl⟩
  rw [HH] at HP ⊢
  cases hh with
  | false =>
    have hd : drp L k = L := by simp [drp, HH]
    rw [hd]
    have HT := Lib.hid fun (w' : World) (f : Fr [] w w') => (⟨s, ⟨f.at hs (by simp), hr.fr f, hps, hup⟩, ⟨f.mono (by simp), fun x hx => .inl hx⟩, rfl⟩ : ∃ s', TabX w' p s' L ∧ Turned w w' p s s' ∧ rowsOf s' = rowsOf s)
    generalize Go.Proofs.Ytamnmpcnhaeigaa.at_ lt L k = i at HP
    clear hd HH hkb hr hs hup hps
    go_enter Try.func15, Try.ntmps15
    go_wp2_with fail
    refine HP.out.mono ?_
    rintro e w1 ⟨rfl, f1⟩
    go_wp2_with fail
    go_ret
    exact ⟨rfl, HT.out _ f1⟩
  | true =>
    have hd : drp L k = L.take (Go.Proofs.Ytamnmpcnhaeigaa.at_ lt L k) ++ L.drop (Go.Proofs.Ytamnmpcnhaeigaa.at_ lt L k + 1) := by simp [drp, HH]
    have hil : Go.Proofs.Ytamnmpcnhaeigaa.at_ lt L k < L.length := by
      rcases Nat.lt_or_ge (Go.Proofs.Ytamnmpcnhaeigaa.at_ lt L k) L.length with h | h
      · exact h
      · simp [has, List.getElem?_eq_none h] at HH
    rw [hd]
    generalize Go.Proofs.Ytamnmpcnhaeigaa.at_ lt L k = i at HP hil
    have HD := Lib.hid fun (w' : World) (f : Fr [] w w') => delete_any w' s L i hn hil (hr.fr f)
    have HU := Lib.hid (hup.cut i)
    have HS := Lib.hid fun (w' : World) (f : Fr [] w w') => f.at hs (by simp)
    have HPS := Lib.hid hps
    have hi1 : i ≤ 1000 := by omega
    clear hd HH hkb hr hs hup hps hil
    go_enter Try.func15, Try.ntmps15
    go_wp2_with fail
    refine HP.out.mono ?_
    rintro e w1 ⟨rfl, f1⟩
    have c2 := f1.cell c1 (by simp)
    go_wp2_with fail
    refine (HD.out w1 f1).mono ?_
    rintro e w2 ⟨s', rfl, t2, f2, hrow⟩
    have hb2 := f2.at (HS.out w1 f1) HPS.out
    have c3 : w2.cell? ⟨p, 0, none⟩ = some s := cell_of hb2 rfl
    have o3 := t2.one
    have z3 : w2.frozen? ⟨p, 0, none⟩ = false := frozen_of hb2
    have T2 := Lib.hid t2
    rcases t2 with ⟨_, rfl⟩ | ⟨q', c', rfl, _⟩
    all_goals
      try generalize List.length (L.take i ++ L.drop (i + 1)) = m at T2 hrow
      go_wp2_with fail
      go_ret
      refine ⟨rfl, _, ⟨heap_setCell_same hb2 _, T2.out.frS ((Fr.refl [p] w2).setCell (.inl (by simp)) _) (fun x hx h => HPS.out (by rw [hrow] at hx; simp at h; exact h ▸ hx)), by have := HPS.out; rw [← hrow] at this; exact this, HU.out⟩, ⟨?_, fun x hx => .inl (by rw [← hrow]; exact hx)⟩, hrow⟩
      exact ((f1.mono (S' := p :: rowsOf s) (fun k h => absurd h (by simp))).trans (f2.mono (S' := p :: rowsOf s) (fun k h => List.mem_cons_of_mem _ h))).setCell (.inl (by simp)) _
theorem drop_any (B : Nat) (w : World) (p : Nat) (L : List (Int × Int)) (k : Int) (hn : L.length ≤ 1000) (ht : TabAt B w p L) : Calls Try.prog 15 #[.pointer (some ⟨p, 0, none⟩), kv k] w fun e w' => e = .returned (.bool (has lt L k)) ∧ TabAt B w' p (drp L k) ∧ Lo B w w' := by
  obtain ⟨s, hs, hr, hps, hlow⟩ := ht.at_
  refine (drop_x w p s L k hn ⟨hs, hr, hps, ht.up⟩).mono ?_
  rintro e w' ⟨he, s', hx, ht', hrow⟩
  exact ⟨he, ⟨⟨s', hx.tab, hx.th, hx.apart, by rw [hrow]; exact hlow⟩, ht.low, hx.up⟩, ht'.lo ht.low hlow⟩

end Go.Proofs.Ytamnmpcnhaeigaa.TabI

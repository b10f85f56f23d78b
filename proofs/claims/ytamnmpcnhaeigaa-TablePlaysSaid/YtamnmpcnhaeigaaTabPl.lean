/- TablePlays: what is known between two operations. -/
import Derived.Test.YtamnmpcnhaeigaaTabRa
namespace Go.Proofs.Ytamnmpcnhaeigaa.TabI
open Go.RowKit
set_option linter.unusedVariables false

/-- An operation. -/
structure OpV where
  kind : Int
  k : Int
  v : Int
def OpsAt (B : Nat) (w : World) (g : Option Addr) (l : List OpV) : Prop :=
  ∀ (j : Nat) (o : OpV), l[j]? = some o → 0 ≤ o.kind ∧ o.kind ≤ 255 ∧ ∃ b f, g = some ⟨b, f, none⟩ ∧ b < B ∧ w.cell? ⟨b, f + j * 3, none⟩ = some (.int .u8 o.kind) ∧ w.cell? ⟨b, f + j * 3 + 1, none⟩ = some (.int .i64 o.k) ∧ w.cell? ⟨b, f + j * 3 + 2, none⟩ = some (.int .i64 o.v)

theorem tabX_frS {w w' : World} {p : Nat} {s : Value} {L : List (Int × Int)} (h : TabX w p s L) {S : List Nat} (f : Fr S w w') (hp : p ∉ S) (hs : ∀ x ∈ rowsOf s, x ∉ S) : TabX w' p s L := ⟨f.at h.tab hp, h.th.frS f hs, h.apart, h.up⟩
theorem tabX_at0 {w : World} {p : Nat} {s : Value} {L : List (Int × Int)} (h : TabX w p s L) : TabAt 0 w p L := ⟨⟨s, h.tab, h.th, h.apart, fun _ _ => Nat.zero_le _⟩, Nat.zero_le _, h.up⟩
theorem tabX_lt {w : World} {p : Nat} {s : Value} {L : List (Int × Int)} (h : TabX w p s L) : ∀ x ∈ rowsOf s, x < w.heap.size := fun x hx => by
  rcases h.th with ⟨_, rfl⟩ | ⟨q, cq, rfl, _, _, hr⟩
  · simp [rowsOf] at hx
  · simp [rowsOf] at hx; subst hx; exact hr.lt
theorem ref_frS {B : Nat} {w w' : World} {r : Nat} {v : Value} {R : List (Int × Int)} (h : RefAt B w r v R) {S : List Nat} (f : Fr S w w') (hr : r ∉ S) (hv : ∀ b ∈ rowsOf v, b ∉ S) : RefAt B w' r v R :=
  ⟨f.at h.tab hr, owns_same h.own (fun b hb => f.block b (h.own.lt b hb).2 (hv b (rows_own.1 hb))), h.low, h.apart⟩

/-- The two tables, each in blocks of its own. -/
structure Sep (B : Nat) (w0 w : World) (p r : Nat) (s v : Value) (L R : List (Int × Int)) : Prop where
  tab : TabX w p s L
  ref : RefAt B w r v R
  pr : p ≠ r
  rs : r ∉ rowsOf s
  pv : p ∉ rowsOf v
  sv : ∀ x ∈ rowsOf s, x ∉ rowsOf v
  lowp : B ≤ p
  lows : ∀ x ∈ rowsOf s, B ≤ x
  lo : Lo B w0 w
  sz : B ≤ w.heap.size

theorem Sep.fr {B : Nat} {w0 w w' : World} {p r : Nat} {s v : Value} {L R : List (Int × Int)} (h : Sep B w0 w p r s v L R) (f : Fr [] w w') : Sep B w0 w' p r s v L R :=
  ⟨tabX_frS h.tab f (by simp) (by simp), ref_frS h.ref f (by simp) (by simp), h.pr, h.rs, h.pv, h.sv, h.lowp, h.lows, h.lo.trans (Lo.of_fr f), Nat.le_trans h.sz f.size⟩
theorem Sep.tabStep {B : Nat} {w0 w w' : World} {p r : Nat} {s s' v : Value} {L L' R : List (Int × Int)} (h : Sep B w0 w p r s v L R) (hx : TabX w' p s' L') (t : Turned w w' p s s') : Sep B w0 w' p r s' v L' R := by
  have hvl : ∀ x ∈ rowsOf v, x < w.heap.size := fun x hx => (h.ref.own.lt x (rows_own.2 hx)).2
  have hrl := heap_lt h.ref.tab
  refine ⟨hx, ref_frS h.ref t.1 (fun m => ?_) (fun b hb m => ?_), h.pr, fun m => ?_, h.pv, fun x hx m => ?_, h.lowp, fun x hx => ?_, h.lo.trans (t.lo h.lowp h.lows), Nat.le_trans h.sz t.1.size⟩
  · rcases List.mem_cons.1 m with e | e
    · exact h.pr e.symm
    · exact h.rs e
  · rcases List.mem_cons.1 m with e | e
    · subst e; exact h.pv hb
    · exact h.sv b e hb
  · rcases t.2 r m with e | e
    · exact h.rs e
    · omega
  · rcases t.2 x hx with e | e
    · exact h.sv x e m
    · have := hvl x m; omega
  · rcases t.2 x hx with e | e
    · exact h.lows x e
    · exact Nat.le_trans h.sz e
theorem Sep.refStep {B : Nat} {w0 w w' : World} {p r : Nat} {s v v' : Value} {L R R' : List (Int × Int)} (h : Sep B w0 w p r s v L R) (hx : RefAt B w' r v' R') (t : Turned w w' r v v') : Sep B w0 w' p r s v' L R' := by
  have hsl := tabX_lt h.tab
  have hpl := heap_lt h.tab.tab
  refine ⟨tabX_frS h.tab t.1 (fun m => ?_) (fun b hb m => ?_), hx, h.pr, h.rs, fun m => ?_, fun x hx m => ?_, h.lowp, h.lows, h.lo.trans (t.lo h.ref.low (fun x hx => (h.ref.own.lt x (rows_own.2 hx)).1)), Nat.le_trans h.sz t.1.size⟩
  · rcases List.mem_cons.1 m with e | e
    · exact h.pr e
    · exact h.pv e
  · rcases List.mem_cons.1 m with e | e
    · subst e; exact h.rs hb
    · exact h.sv b hb e
  · rcases t.2 p m with e | e
    · exact h.pv e
    · omega
  · rcases t.2 x m with e | e
    · exact h.sv x hx e
    · have := hsl x hx; omega

/-- What the two answers of one operation have in common. -/
theorem got_same {R L : List (Int × Int)} {k x : Int} {b : Bool} (h : Rel R L) (hp : GetIs R k x b) : got L k = x ∧ has lt L k = b := by
  obtain ⟨h1, h2, h3⟩ := rel_get h hp
  refine ⟨?_, h1.symm⟩
  cases b with
  | false =>
    have e : has lt L k = false := h1.symm
    unfold got
    rw [e, h2 rfl]; rfl
  | true => exact got_of h.up (h3 rfl)

end Go.Proofs.Ytamnmpcnhaeigaa.TabI

/- What is given, from world to world; the start of the laws of looking twice. -/
import Derived.Test.YtnjoefanafjniaaAwake15
namespace Go.Proofs.Ytnjoefanafjniaa
open Go.RowKit

theorem ByAt.fr {w w' : World} {g : Option Addr} {n : Nat} (h : ByAt w g n) (f : Fr [] w w') : ByAt w' g n := fun j hj => by
  obtain ⟨b, o, x, hg, hc, hx⟩ := h j hj
  exact ⟨b, o, x, hg, f.cell hc (by simp), hx⟩
theorem SlAt.fr {w w' : World} {g : Option Addr} {n : Nat} (h : SlAt w g n) (f : Fr [] w w') : SlAt w' g n := fun j hj => by
  obtain ⟨b, o, s, hg, hc⟩ := h j hj
  exact ⟨b, o, s, hg, fun i v hv => f.cell (hc i v hv) (by simp)⟩
theorem GivV.right.fr {w w' : World} {g : GivV} (h : g.right w) (f : Fr [] w w') : g.right w' := by
  obtain ⟨h1, h2, h3, h4, h5, h6, h7, h8, h9⟩ := h
  exact ⟨h1, h2, h3, h4, h5, h6.fr f, h7.fr f, h8.fr f, h9⟩

/-- A conf's block. -/
def ConfAt (w : World) (b : Nat) (c : ConfV) : Prop := w.heap[b]? = some (.cells #[.int .i64 c.wo, .int .i64 c.sl, .int .i64 c.st, .int .i64 c.wa, .int .i64 c.us] 31)
theorem ConfAt.c0 {w : World} {b : Nat} {c : ConfV} (h : ConfAt w b c) : w.cell? ⟨b, 0, none⟩ = some (.int .i64 c.wo) := cell_of h rfl
theorem ConfAt.c1 {w : World} {b : Nat} {c : ConfV} (h : ConfAt w b c) : w.cell? ⟨b, 1, none⟩ = some (.int .i64 c.sl) := cell_of h rfl
theorem ConfAt.c2 {w : World} {b : Nat} {c : ConfV} (h : ConfAt w b c) : w.cell? ⟨b, 2, none⟩ = some (.int .i64 c.st) := cell_of h rfl
theorem ConfAt.c3 {w : World} {b : Nat} {c : ConfV} (h : ConfAt w b c) : w.cell? ⟨b, 3, none⟩ = some (.int .i64 c.wa) := cell_of h rfl
theorem ConfAt.c4 {w : World} {b : Nat} {c : ConfV} (h : ConfAt w b c) : w.cell? ⟨b, 4, none⟩ = some (.int .i64 c.us) := cell_of h rfl

/-- Where the laws begin: the conf's block is the last one below B; the words of the memory lie in a row, too. -/
structure Begun (w w1 : World) (b q n : Nat) (c : ConfV) (L : List Int) : Prop where
  hc : c.small
  cf : ConfAt w1 b c
  b0 : w.heap.size ≤ b
  bl : b < w1.heap.size
  ql : q < w1.heap.size
  q0 : w.heap.size ≤ q
  hn : c.cells = (n : Int)
  hL : L.length = n
  hI : IntsAt w1 (some ⟨q, 0, none⟩) L
  f : Fr [] w w1
theorem Begun.n100 {w w1 : World} {b q n : Nat} {c : ConfV} {L : List Int} (h : Begun w w1 b q n c L) : n ≤ 16 ∧ 6 ≤ n := by
  obtain ⟨⟨h1, h2⟩, ⟨h3, h4⟩, -⟩ := h.hc
  have := h.hn
  unfold ConfV.cells at this
  omega
theorem begun_of {w wa wm : World} {q n : Nat} {c : ConfV} (fa : Fr [] w wa) (hsm : c.small) (hn : (n : Int) = c.cells) (hq : wa.heap.size ≤ q) (hrow : RowAt wm q n) (f : Fr [] wa wm) :
    ∃ L, Begun w (wm.alloc (.cells #[.int .i64 c.wo, .int .i64 c.sl, .int .i64 c.st, .int .i64 c.wa, .int .i64 c.us] 31)) wm.heap.size q n c L := by
  have hn2 : n ≤ 1000 := by
    obtain ⟨⟨h1, h2⟩, ⟨h3, h4⟩, -⟩ := hsm
    unfold ConfV.cells at hn
    omega
  obtain ⟨L, hL, hI⟩ := hrow.ints hn2
  have hql : q < wm.heap.size := by obtain ⟨cur, h1, _⟩ := hrow; exact heap_lt h1
  have h1 := fa.size
  have h2 := f.size
  exact ⟨L, hsm, heap_alloc_new wm _, by omega, by simp, by simp; omega, by omega, hn.symm, hL, hI.fr ((Fr.refl [] wm).alloc _) (by simp), ((fa.trans f).alloc _)⟩
/-- Behind laid and New. -/
theorem begun_in {w w1 w2 w3 : World} {b q n p pm qm : Nat} {c : ConfV} {L : List Int} (h : Begun w w1 b q n c L) (hpm : w1.heap.size ≤ pm) (hqm : w1.heap.size ≤ qm) (hm : MemAt 78 w2 pm qm (laidK L n L.length) L.length) (f : Fr [] w1 w2)
    (hp : w2.heap.size ≤ p) (ht : TwAt w3 p c (.slice none 0 0) (.slice none 0 0) [] [] 0 false) (f3 : Fr [] w2 w3) : TwIn w1.heap.size w3 p pm qm c ⟨[], [], 0, false⟩ L n (.slice none 0 0) (.slice none 0 0) := by
  rw [laidK_all h.hL, h.hL] at hm
  exact twin_new f.size hm hpm hqm hp ht f3

/-- How a step of one that is alone goes. -/
theorem astep_any (B : Nat) (w : World) (p pm qm : Nat) (c : ConfV) (vR vL : Value) (M : List Int) (t : Int) (j : Nat) (hc : c.small) (h : TwIn B w p pm qm c (alone c.sl.toNat (slotsX c M) j) M t vR vL)
    (ht0 : 0 ≤ t) (ht1 : t ≤ 1000000) (hml : (M.length : Int) = c.cells) :
    Calls Try.prog 13 #[.pointer (some ⟨p, 0, none⟩), .pointer (some ⟨pm, 0, none⟩)] w
      (StepOut B w p pm qm c vR vL (alone c.sl.toNat (slotsX c M) (j + 1)) M (if j < 2 * c.sl.toNat then t + 1 else t)) := by
  have hS1 : 1 ≤ c.sl.toNat := by obtain ⟨-, ⟨h1, h2⟩, -⟩ := hc; omega
  have hX := length_slotsX c M
  have hr := alone_r c.sl.toNat (slotsX c M) j hX hS1
  have hn := alone_n c.sl.toNat (slotsX c M) j
  have hS := tstep_any B w p pm qm c vR vL _ M t hc h ht0 ht1 hn.1 (by omega) hml (by omega)
  rw [← slotsX_at c M hr, alone_step _ _ j hX hS1, alone_d _ _ _ hS1] at hS
  by_cases hj : j < 2 * c.sl.toNat
  · rw [decide_eq_false (by omega), if_neg (by simp)] at hS
    rw [if_pos hj]
    exact hS
  · rw [decide_eq_true (by omega), if_pos rfl] at hS
    rw [if_neg hj]
    exact hS
theorem awords_any (B : Nat) (w : World) (p pm qm : Nat) (c : ConfV) (vR vL : Value) (M : List Int) (t : Int) (j : Nat) (hc : c.small) (h : TwIn B w p pm qm c (alone c.sl.toNat (slotsX c M) j) M t vR vL) :
    Calls Try.prog 17 #[.pointer (some ⟨p, 0, none⟩)] w (NewInts w (if 2 * c.sl.toNat ≤ j then slotsX c M else [])) := by
  have hS1 : 1 ≤ c.sl.toNat ∧ c.sl.toNat ≤ 5 := by obtain ⟨-, ⟨h1, h2⟩, -⟩ := hc; omega
  have hX := length_slotsX c M
  have hl := alone_l c.sl.toNat (slotsX c M) j hX
  have hW := twords_any w p c vR vL _ _ _ _ h.tw (fun hd => by
    rw [alone_d _ _ _ hS1.1] at hd
    rw [alone_end (of_decide_eq_true hd)]
    intro e
    have e2 : (slotsX c M).length = 0 := by show (slotsX c M).length = 0; rw [show slotsX c M = [] from e]; rfl
    omega) (by omega)
  rw [alone_d _ _ _ hS1.1] at hW
  by_cases hj : 2 * c.sl.toNat ≤ j
  · rw [if_pos hj]
    rw [decide_eq_true hj, if_pos rfl, alone_end hj] at hW
    exact hW
  · rw [if_neg hj]
    rw [decide_eq_false hj, if_neg (by simp)] at hW
    exact hW

end Go.Proofs.Ytnjoefanafjniaa

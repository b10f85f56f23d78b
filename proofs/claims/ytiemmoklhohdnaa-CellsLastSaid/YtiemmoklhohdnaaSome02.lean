/- 'some': cells on which operations were done. -/
import Derived.Test.YtiemmoklhohdnaaAwake02
namespace Go.Proofs.Ytiemmoklhohdnaa
open Go.RowKit

/-- A slice of operations reads as l; all of it lies below block B. -/
def OpsAt (B : Nat) (w : World) (g : Option Addr) (l : List OpV) : Prop :=
  ∀ (j : Nat) (o : OpV), l[j]? = some o → 0 ≤ o.k ∧ o.k ≤ 255 ∧ ∃ b f, g = some ⟨b, f, none⟩ ∧ b < B ∧
    w.cell? ⟨b, f + j * 4, none⟩ = some (.int .u8 o.k) ∧ w.cell? ⟨b, f + j * 4 + 1, none⟩ = some (.int .i64 o.i) ∧
    w.cell? ⟨b, f + j * 4 + 2, none⟩ = some (.int .i64 o.v) ∧ w.cell? ⟨b, f + j * 4 + 3, none⟩ = some (.int .i64 o.u)
theorem OpsAt.below {B : Nat} {w w' : World} {g : Option Addr} {l : List OpV} (h : OpsAt B w g l) (hb : Below B w w') : OpsAt B w' g l := by
  intro j o hj
  obtain ⟨h0, h1, b, f, hg, hlt, c0, c1, c2, c3⟩ := h j o hj
  exact ⟨h0, h1, b, f, hg, hlt, (hb.cell (p := ⟨b, _, none⟩) hlt).trans c0, (hb.cell (p := ⟨b, _, none⟩) hlt).trans c1, (hb.cell (p := ⟨b, _, none⟩) hlt).trans c2, (hb.cell (p := ⟨b, _, none⟩) hlt).trans c3⟩
theorem OpsAt.fr {B : Nat} {S : List Nat} {w w' : World} {g : Option Addr} {l : List OpV} (h : OpsAt B w g l) (hf : Fr S w w') (hB : B ≤ w.heap.size) (hs : ∀ k, k ∈ S → B ≤ k) : OpsAt B w' g l :=
  h.below (hf.below hB hs)

/-- Some operations, one behind the other: what the cells have, and how often one was touched. -/
def runs (l : List OpV) (s : List Int × Int) : List Int × Int := l.foldl (fun s o => (opNext o s.1, s.2 + opTch o s.1)) s
theorem runs_nil (s : List Int × Int) : runs [] s = s := rfl
theorem runs_snoc (l : List OpV) (o : OpV) (s : List Int × Int) : runs (l ++ [o]) s = (opNext o (runs l s).1, (runs l s).2 + opTch o (runs l s).1) := by
  simp [runs]
theorem take_snoc {α : Type} (l : List α) (k : Nat) (x : α) (h : l[k]? = some x) : l.take (k + 1) = l.take k ++ [x] := by
  rw [List.take_add_one, h]; rfl
theorem length_runs (l : List OpV) (s : List Int × Int) : (runs l s).1.length = s.1.length := by
  induction l generalizing s with
  | nil => rfl
  | cons o l ih =>
    have := ih (opNext o s.1, s.2 + opTch o s.1)
    rw [show runs (o :: l) s = runs l (opNext o s.1, s.2 + opTch o s.1) from rfl, this]
    exact length_opNext _ _
theorem touched_runs (l : List OpV) (s : List Int × Int) : s.2 ≤ (runs l s).2 ∧ (runs l s).2 ≤ s.2 + l.length := by
  induction l generalizing s with
  | nil => simp [runs]
  | cons o l ih =>
    have := ih (opNext o s.1, s.2 + opTch o s.1)
    rw [show runs (o :: l) s = runs l (opNext o s.1, s.2 + opTch o s.1) from rfl]
    have h2 := opTch_0 o s.1
    simp only [List.length_cons] at *
    omega

/-- What is left by some operations on new memory. -/
def Filled (n : Int) (l : List OpV) (w : World) (p q : Nat) (w' : World) : Prop :=
  w.heap.size ≤ p ∧ w.heap.size ≤ q ∧ MemAt 53 w' p q (runs l (List.replicate n.toNat 0, 0)).1 (runs l (List.replicate n.toNat 0, 0)).2 ∧ Fr [] w w'

def SomePost (n : Int) (l : List OpV) (w : World) (e : Ending) (w' : World) : Prop := ∃ p q, e = .returned (.pointer (some ⟨p, 0, none⟩)) ∧ Filled n l w p q w'

set_option maxHeartbeats 1000000 in
theorem some_any (w : World) (many : Int) (g : Option Addr) (c : Nat) (l : List OpV) (h0 : 0 ≤ many) (h1 : many ≤ 255) (hl : l.length ≤ 60) (hA : OpsAt w.heap.size w g l) :
    Calls Try.prog 20 #[.int .u8 many, .slice g l.length c] w (SomePost (1 + many % 100) l w) := by
  obtain ⟨len, hlen⟩ : ∃ n, n = l.length := ⟨_, rfl⟩
  rw [← hlen] at hl ⊢
  have HL := Lib.hid hlen; clear hlen
  go_enter Try.func20, Try.ntmps20
  go_wp2_with fail
  refine (new_any (1 + many % 100) w (by omega) (by omega)).mono ?_
  rintro e w1 ⟨p, q, rfl, hp, hq, hm, f1⟩
  go_wp2_with fail
  go_loopw [7] (fun i wr => ∃ k : Nat, k ≤ len ∧ i = .int .i64 k ∧ Filled (1 + many % 100) (l.take k) w p q wr) (fun i _ => len - (intOf i).toNat)
  case atStart => exact ⟨0, Nat.zero_le _, rfl, hp, hq, hm, f1⟩
  case round =>
    obtain ⟨k, hk, rfl, hF⟩ := hrel
    by_cases hlt : k < len
    · obtain ⟨o, hget⟩ : ∃ o, l[k]? = some o := ⟨_, List.getElem?_eq_getElem (by have := HL.out; omega)⟩
      obtain ⟨fp, fq, hmr, fr⟩ := hF
      obtain ⟨o0, o1, b, f, rfl, hb, c0, c1, c2, c3⟩ := (hA.fr fr (Nat.le_refl _) (by simp)) k o hget
      have htr := touched_runs (l.take k) (List.replicate (1 + many % 100).toNat 0, 0)
      have hlk : (l.take k).length ≤ 60 := by simp; omega
      have hT := take_snoc l k o hget
      have HT := Lib.hid hT; clear hT
      have HG := Lib.hid hget; clear hget
      have HM := Lib.hid hmr; clear hmr
      have hlt' : (k : Int) < (len : Int) := by omega
      go_wp2_with fail
      refine (do_any wr p q _ _ o HM.out (by omega) (by omega) o0).mono ?_
      rintro e w2 ⟨rfl, hm2, f2⟩
      have hF2 : Filled (1 + many % 100) (l.take (k + 1)) w p q w2 := by
        refine ⟨fp, fq, ?_, fr.then2 f2 fp fq⟩
        rw [HT.out, runs_snoc]
        exact hm2
      go_wp2
      go_roundw
      case rel => exact ⟨k + 1, by omega, by go_num, hF2⟩
      case measure => simp [intOf]; omega
    · have hkl : l.take k = l := List.take_of_length_le (by have := HL.out; omega)
      rw [hkl] at hF
      have hge : ¬ (k : Int) < (len : Int) := by omega
      clear hkl
      go_wp2
      go_ret
      exact ⟨p, q, rfl, hF⟩

end Go.Proofs.Ytiemmoklhohdnaa

/- The layer 'line': digits. -/
import Derived.Test.YtdpefnebghljoaaIterEQ
import Derived.Test.YtdpefnebghljoaaRows
import Derived.Test.YtdpefnebghljoaaIntsQ
import Derived.RangeFuncBox
import Derived.WalkKit
import Derived.WalkSpells
import Derived.WalkLawsBesides
import Derived.RangeFuncBound
import Derived.RangeFuncCalls
import Derived.Shelf.Abstract
import Derived.Shelf.RegionOpen
import Derived.OwnWalkIn
import Derived.TacticsInMore
import Derived.LoopNIn
import Derived.LoopIn
import Derived.Lib.Hide
import Derived.Outline
namespace Go.Proofs.Ytdpefnebghljoaa
open Go.RowKit Go.Shelf
attribute [local go_sem] Oper.semAt_some

/-- Who stands there, by a word: its digits to the base 16, each one less. -/
def digF : Nat → Nat → List Int
  | 0, _ => []
  | f + 1, n => if n = 0 then [] else ((n : Int) % 16 - 1) :: digF f (n / 16)
theorem digF_enough : ∀ (f n : Nat), n < 16 ^ f → digF (f + 1) n = digF f n
  | 0, n, h => by simp at h; simp [digF, h]
  | f + 1, n, h => by
    rw [digF, show digF (f + 1) n = if n = 0 then [] else ((n : Int) % 16 - 1) :: digF f (n / 16) from rfl]
    split
    · rfl
    · rw [digF_enough f (n / 16) (by rw [Nat.div_lt_iff_lt_mul (by decide)]; rw [Nat.pow_succ] at h; omega)]
def digW (n : Nat) : List Int := digF 16 n
theorem digW_0 : digW 0 = [] := by simp [digW, digF]
theorem digW_step {n : Nat} (h0 : n ≠ 0) (h : n < 16 ^ 16) : digW n = ((n : Int) % 16 - 1) :: digW (n / 16) := by
  unfold digW
  rw [digF, if_neg h0, digF_enough 15 (n / 16) (by omega)]
theorem length_digF : ∀ (f n : Nat), (digF f n).length ≤ f
  | 0, _ => by simp [digF]
  | f + 1, n => by
    rw [digF]; split
    · simp
    · have := length_digF f (n / 16); simp; omega
theorem length_digW (n : Nat) : (digW n).length ≤ 16 := length_digF 16 n

def encP (x : Int × Int) : Array Value := #[.int .i64 x.1, .int .i64 x.2]
def digP (n : Nat) : List (Int × Int) := (digW n).mapIdx fun i x => ((i : Int), x)
theorem length_digP (n : Nat) : (digP n).length = (digW n).length := by simp [digP]
theorem get_digP {n k : Nat} {x : Int} (h : (digW n)[k]? = some x) : (digP n)[k]? = some ((k : Int), x) := by simp [digP, h]

set_option maxHeartbeats 400000 in
theorem digits_iter (w : World) (b n : Nat) (hn : n < 9223372036854775808) (h1 : w.heap[b]? = some (.cells #[.int .i64 n] 3)) :
    IterE Try.prog w (fun _ => False) (fun x => x = b) (fun _ _ => True) id 0 68 #[.pointer (some ⟨b, 0, none⟩)] encP (digP n) := by
  refine ⟨fun b' hb => ?_, fun _ _ _ _ _ => trivial, fun W l O J Jx hs hC hCO hO hJ hJx hY h0 => ?_⟩
  · rcases hb with h | rfl
    · exact h.elim
    · exact heap_lt h1
  have c1 : W.heap[b]? = some (.cells #[.int .i64 n] 3) := (hC b (.inr rfl)).trans h1
  refine (callsIn_wide (n := 3)).1 (callsIn_of_wp Try.func68 rfl trivial ?_ rfl)
  simp only [Try.ntmps68, List.size_toArray, List.length_cons, List.length_nil, Nat.reduceAdd, Nat.reduceSub, Array.replicate_succ, Array.replicate_zero, List.push_toArray, List.append_toArray, List.nil_append, List.cons_append]
  have hb1 := hCO b (.inr rfl)
  have hlen := length_digP n
  have h16 := length_digW n
  obtain ⟨len, hl⟩ : ∃ len, len = (digW n).length := ⟨_, rfl⟩
  rw [hlen, ← hl]
  rw [← hl] at h16
  have hbs := heap_lt c1
  clear hlen hC hCO hs h1
  have HY := Lib.hid hY; have HL := Lib.hid hl; clear hY hl
  gi_wp2
  gi_loopw [3] (fun i wr => ∃ (k m : Nat) (O1 : Blk), k ≤ len ∧ m ≤ n ∧ (digW n).drop k = digW m ∧ i = .int .i64 k ∧ J k wr O1 ∧ wr.heap[b]? = some (.cells #[.int .i64 m] 3) ∧ Stp (fun x => O x ∨ x = b) W wr ∧ Grw O O1 W wr) (fun i _ => len - (intOf i).toNat)
  case atStart => exact ⟨0, n, O, Nat.zero_le _, Nat.le_refl _, rfl, rfl, h0, c1, Stp.refl _ _, Grw.refl hO⟩
  case round =>
    obtain ⟨k, m, O1, hk, hm, hd, rfl, hj, hc, hst, hgr⟩ := hrel
    have q1 : wr.cell? ⟨b, 0, none⟩ = some (.int .i64 m) := cell_of (i := 0) hc rfl
    have q2 : wr.frozen? ⟨b, 0, none⟩ = false := frozen_of hc
    have HD := Lib.hid hd; have HC := Lib.hid hc; clear hd hc
    have hs1 := hst.size
    by_cases hm0 : m = 0
    · have hkl : k = len := by
        have h2 := congrArg List.length HD.out
        rw [hm0, digW_0, List.length_drop, List.length_nil] at h2
        have := HL.out; omega
      subst hm0
      gi_wp2
      go_end0
      refine ⟨⟨_, rfl⟩, .inl ⟨O1, ?_, trivial, hst, hgr⟩⟩
      rw [← hkl]; exact hj
    · have hst16 := digW_step hm0 (by omega)
      have hx : (digW n)[k]? = some ((m : Int) % 16 - 1) := by
        have h2 : ((digW n).drop k)[0]? = some ((m : Int) % 16 - 1) := by rw [HD.out, hst16]; rfl
        simpa using h2
      have hd2 : (digW n).drop (k + 1) = digW (m / 16) := by
        rw [← List.drop_drop, HD.out, hst16]; rfl
      have hkl : k < len := by have := (List.getElem?_eq_some_iff.1 hx).1; have := HL.out; omega
      obtain ⟨fn, tmps, assign, body, hy, hR⟩ := (HY.out k _ wr O1 (get_digP hx) hj trivial (fun b hb => (hgr b hb).1)).at 2
      have HD2 := Lib.hid hd2; clear hd2 hx hst16
      unfold encP at hy
      have hm1 : (0 : Int) < (m : Int) := by omega
      gi_wp2
      refine hR.mono ?_
      rintro e W2 (⟨rfl, O2, hj2, hst2, hgr2⟩ | ⟨rfl, O2, hj2, hst2, hgr2⟩)
      · have hbO : ¬ O1 b := fun hb => by rcases (hgr b hb).2 with h | h; exact hb1 h; omega
        have S2 : Stp (fun x => O x ∨ x = b) W W2 := hst.then hst2 (fun x hx => (hgr x hx).2.imp .inl id)
        have G2 : Grw O O2 W W2 := hgr.then hst.size hgr2
        have c2 : W2.heap[b]? = some (.cells #[.int .i64 m] 3) := hst2.at HC.out hbO
        have q3 : W2.cell? ⟨b, 0, none⟩ = some (.int .i64 m) := cell_of (i := 0) c2 rfl
        have q4 : W2.frozen? ⟨b, 0, none⟩ = false := frozen_of c2
        have hbO2 : ¬ O2 b := fun hb => by rcases (G2 b hb).2 with h | h; exact hb1 h; omega
        clear hy
        gi_wp2
        have c3 := heap_setCell_same (i := 0) c2 (.int .i64 ((m : Int) / 16))
        refine ⟨⟨k + 1, m / 16, O2, by omega, by omega, HD2.out, by go_num, hJ.setCell hj2 hbO2 (.inr rfl) _, ?_, S2.setCell (p := ⟨b, 0, none⟩) (.inl (.inr rfl)) _, fun x hx => ⟨by simpa [World.setCell] using (G2 x hx).1, (G2 x hx).2⟩⟩, by simp [intOf]; omega⟩
        simpa using c3
      · have S2 : Stp (fun x => O x ∨ x = b) W W2 := hst.then hst2 (fun x hx => (hgr x hx).2.imp .inl id)
        have G2 : Grw O O2 W W2 := hgr.then hst.size hgr2
        clear hy
        gi_wp2
        refine bodyPost_ret (results_none rfl _ _ _) rfl ?_
        exact ⟨⟨_, rfl⟩, .inr ⟨k, O2, hkl, hj2, trivial, S2, G2⟩⟩

end Go.Proofs.Ytdpefnebghljoaa

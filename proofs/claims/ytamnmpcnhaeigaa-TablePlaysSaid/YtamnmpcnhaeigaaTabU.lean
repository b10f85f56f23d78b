/- Table: pairs in a slice; 'filled'. -/
import Derived.Test.YtamnmpcnhaeigaaTabQI
import Derived.Test.YtamnmpcnhaeigaaTabQS
import Derived.Test.YtamnmpcnhaeigaaTabQW
import Derived.Deep.QuietTactic
import Derived.BigQuiet
import Derived.Deep.RegionHeld3
import Derived.RegionTactic
namespace Go.Proofs.Ytamnmpcnhaeigaa.TabI
open Go.RowKit
set_option linter.unusedVariables false

theorem Lo.refl (B : Nat) (w : World) : Lo B w w := ⟨[], Fr.refl _ _, by simp⟩
theorem Lo.of_fr {B : Nat} {w w' : World} (f : Fr [] w w') : Lo B w w' := ⟨[], f, by simp⟩
theorem Lo.trans {B : Nat} {a b c : World} (h : Lo B a b) (k : Lo B b c) : Lo B a c := by
  obtain ⟨S, h1, h2⟩ := h
  obtain ⟨T, k1, k2⟩ := k
  exact ⟨S ++ T, (h1.mono (S' := S ++ T) (fun x hx => List.mem_append_left _ hx)).trans (k1.mono (fun x hx => List.mem_append_right _ hx)), fun x hx => (List.mem_append.1 hx).elim (h2 x) (k2 x)⟩
theorem Lo.size {B : Nat} {a b : World} (h : Lo B a b) : a.heap.size ≤ b.heap.size := by obtain ⟨S, h1, _⟩ := h; exact h1.size
theorem Lo.at {B : Nat} {w w' : World} (h : Lo B w w') {k : Nat} {o : Obj} (hk : w.heap[k]? = some o) (hB : k < B) : w'.heap[k]? = some o := by
  obtain ⟨S, h1, h2⟩ := h
  exact h1.at hk (fun m => by have := h2 k m; omega)
theorem Lo.cell {B : Nat} {w w' : World} (h : Lo B w w') {p : Addr} {v : Value} (hc : w.cell? p = some v) (hB : p.block < B) : w'.cell? p = some v := by
  obtain ⟨S, h1, h2⟩ := h
  exact h1.cell hc (fun m => by have := h2 _ m; omega)
theorem Lo.mono {B B' : Nat} {w w' : World} (h : Lo B w w') (hB : B' ≤ B) : Lo B' w w' := by
  obtain ⟨S, h1, h2⟩ := h
  exact ⟨S, h1, fun x hx => Nat.le_trans hB (h2 x hx)⟩
/-- What turned was new. -/
theorem Lo.fr {B : Nat} {w w' : World} (h : Lo B w w') (hB : w.heap.size ≤ B) : Fr [] w w' := by
  obtain ⟨S, h1, h2⟩ := h
  exact h1.drop (fun k hk => .inr (Nat.le_trans hB (h2 k hk)))

/-- A slice of pairs reads as l; all of it lies below block B. -/
def PairsAt (B : Nat) (w : World) (g : Option Addr) (l : List (Int × Int)) : Prop :=
  ∀ (j : Nat) (x : Int × Int), l[j]? = some x → ∃ b f, g = some ⟨b, f, none⟩ ∧ b < B ∧ w.cell? ⟨b, f + j * 2, none⟩ = some (.int .i64 x.1) ∧ w.cell? ⟨b, f + j * 2 + 1, none⟩ = some (.int .i64 x.2)
theorem PairsAt.lo {B : Nat} {w w' : World} {g : Option Addr} {l : List (Int × Int)} (h : PairsAt B w g l) (f : Lo B w w') : PairsAt B w' g l := fun j x hx => by
  obtain ⟨b, o, hg, hb, c0, c1⟩ := h j x hx
  exact ⟨b, o, hg, hb, f.cell c0 hb, f.cell c1 hb⟩
theorem PairsAt.up {B B' : Nat} {w : World} {g : Option Addr} {l : List (Int × Int)} (h : PairsAt B w g l) (hB : B ≤ B') : PairsAt B' w g l := fun j x hx => by
  obtain ⟨b, o, hg, hb, c0, c1⟩ := h j x hx
  exact ⟨b, o, hg, by omega, c0, c1⟩
theorem PairsAt.fr {B : Nat} {w w' : World} {g : Option Addr} {l : List (Int × Int)} (h : PairsAt B w g l) (f : Fr [] w w') : PairsAt B w' g l := h.lo (Lo.of_fr f)

theorem TabAt.fr {B : Nat} {w w' : World} {p : Nat} {L : List (Int × Int)} (h : TabAt B w p L) (f : Fr [] w w') : TabAt B w' p L := by
  obtain ⟨s, h1, h2, h3, h4⟩ := h.at_
  exact ⟨⟨s, f.at h1 (by simp), h2.fr f, h3, h4⟩, h.low, h.up⟩
theorem TabAt.lt {B : Nat} {w : World} {p : Nat} {L : List (Int × Int)} (h : TabAt B w p L) : p < w.heap.size := by
  obtain ⟨s, h1, _⟩ := h.at_
  exact heap_lt h1
/-- The pairs of a table in which l was put. -/
def fillL (l : List (Int × Int)) : List (Int × Int) := l.foldl (fun L x => put L x.1 x.2) []
theorem fillL_snoc {l : List (Int × Int)} {k : Nat} {x : Int × Int} (h : l[k]? = some x) : fillL (l.take (k + 1)) = put (fillL (l.take k)) x.1 x.2 := by
  rw [List.take_add_one, h]; simp [fillL]
theorem len_ins (L : List (Int × Int)) (i : Nat) (x : Int × Int) : (ins L i x).length = L.length + 1 := by
  simp only [ins, List.length_append, List.length_take, List.length_cons, List.length_drop]; omega
theorem len_put (L : List (Int × Int)) (k v : Int) : (put L k v).length = if has lt L k then L.length else L.length + 1 := by
  unfold put; split
  · exact List.length_set
  · exact len_ins _ _ _
theorem len_fill (l : List (Int × Int)) : (fillL l).length ≤ l.length := by
  have : ∀ (l M : List (Int × Int)), (l.foldl (fun L x => put L x.1 x.2) M).length ≤ M.length + l.length := by
    intro l
    induction l with
    | nil => intro M; simp
    | cons x l ih =>
      intro M
      have h := ih (put M x.1 x.2)
      have h2 := len_put M x.1 x.2
      simp only [List.foldl_cons, List.length_cons]
      split at h2 <;> omega
  have := this l []
  simpa [fillL] using this

def FillPost (w : World) (l : List (Int × Int)) (e : Ending) (w' : World) : Prop := ∃ p, e = .returned (.pointer (some ⟨p, 0, none⟩)) ∧ TabAt w.heap.size w' p (fillL l) ∧ Fr [] w w'

set_option maxHeartbeats 2000000 in
theorem filled_any (w : World) (g : Option Addr) (c : Nat) (l : List (Int × Int)) (hl : l.length ≤ 60) (hA : PairsAt w.heap.size w g l) :
    Calls Try.prog 10 #[.slice g l.length c] w (FillPost w l) := by
  obtain ⟨len, hlen⟩ : ∃ n, n = l.length := ⟨_, rfl⟩
  rw [← hlen] at hl ⊢
  have HL := Lib.hid hlen; clear hlen
  go_enter Try.func10, Try.ntmps10
  go_wp2_with fail
  refine (new_any w).mono ?_
  rintro e w1 ⟨p, rfl, hp, ht, f1⟩
  go_wp2_with fail
  go_loopw [4] (fun i wr => ∃ k : Nat, k ≤ len ∧ i = .int .i64 k ∧ TabAt w.heap.size wr p (fillL (l.take k)) ∧ Fr [] w wr) (fun i _ => len - (intOf i).toNat)
  case atStart => exact ⟨0, Nat.zero_le _, rfl, ht, f1⟩
  case round =>
    obtain ⟨k, hk, rfl, ht, fr⟩ := hrel
    by_cases hlt : k < len
    · obtain ⟨⟨a, v⟩, hget⟩ : ∃ o, l[k]? = some o := ⟨_, List.getElem?_eq_getElem (by have := HL.out; omega)⟩
      obtain ⟨b, f, rfl, hb, c0, c1⟩ := (hA.fr fr) k _ hget
      dsimp only at c0 c1
      have hlk : (fillL (l.take k)).length ≤ 1000 := Nat.le_trans (len_fill _) (by simp; omega)
      have HPUT := Lib.hid (put_any w.heap.size wr.drew p _ a v hlk fr.size (ht.fr ((Fr.refl _ wr).drew)))
      simp only [kv, vv] at HPUT
      have HS := Lib.hid (fillL_snoc hget)
      generalize hM : fillL (l.take k) = M at HPUT HS ht hlk
      have hlt' : (k : Int) < (len : Int) := by omega
      have FR := Lib.hid fr; have HB := Lib.hid hb
      clear hM ht hA hget fr hlk hb
      go_wp2_with fail
      go_region_held3 (fun w' => w'.cell? ⟨b, f + k * 2, none⟩ = some (.int .i64 a) ∧ w'.cell? ⟨b, f + k * 2 + 1, none⟩ = some (.int .i64 v)) (first | go_keep | exact ⟨f2.cell c0 HB.out, f2.cell c1 HB.out⟩)
        (first | (go_at_call 16; refine HPUT.out.mono ?_; rintro en w2 ⟨rfl, t2, f2⟩))
      have T2 := Lib.hid t2
      clear t2
      go_wp2_with fail
      go_roundw
      case rel => exact ⟨k + 1, by omega, by go_num, by rw [HS.out]; exact T2.out, Lo.fr ((Lo.of_fr FR.out.drew).trans f2) (Nat.le_refl _)⟩
      case measure => simp [intOf]; omega
    · obtain rfl : k = len := by omega
      have hT : l.take k = l := by rw [List.take_of_length_le]; rw [HL.out]; exact Nat.le_refl _
      rw [hT] at ht
      have T := Lib.hid ht; have FR := Lib.hid fr
      clear ht fr hT
      go_wp2_with fail
      go_ret
      exact ⟨p, rfl, T.out, FR.out⟩

end Go.Proofs.Ytamnmpcnhaeigaa.TabI

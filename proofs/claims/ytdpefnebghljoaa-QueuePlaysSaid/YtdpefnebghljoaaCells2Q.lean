/- The layer 'cells', more: memory that is made, told whole, and copied. -/
import Derived.Test.YtdpefnebghljoaaCellsQ
import Derived.Deep.OwnRows
import Derived.Lib.Hide
import Derived.Outline
import Derived.Deep.RegionHeld3
namespace Go.Proofs.Ytdpefnebghljoaa
open Go.RowKit

theorem info_int : (Try.prog.info? 3).map (fun i => (i.zero, i.size, i.bytes)) = some (some (.int .i64 0), 1, 8) := by kernel_rfl

theorem madeCells_one (z : Value) (n : Nat) : madeCells #[z] n = Array.replicate n z := by
  apply Array.toList_inj.1
  rw [toList_madeCells_one]
  simp

/-- Memory that was just made: so many zeros, touched never. -/
theorem memAt_new (T : Nat) (w : World) (n : Nat) (hn : n ≤ 4096) :
    MemAt T ((w.alloc (.cells (madeCells #[.int .i64 0] n) 3)).alloc (.cells #[.slice (some ⟨w.heap.size, 0, none⟩) n n, .int .i64 0] T)) (w.heap.size + 1) w.heap.size (List.replicate n 0) 0 := by
  refine ⟨n, madeCells #[.int .i64 0] n, ?_, ?_, by simp, by unfold maxLen; omega, size_madeCells _ _, fun j v hv => ?_, by omega⟩
  · have h := heap_alloc_new (w.alloc (.cells (madeCells #[.int .i64 0] n) 3)) (.cells #[.slice (some ⟨w.heap.size, 0, none⟩) n n, .int .i64 0] T)
    rw [World.size_alloc] at h
    simpa using h
  · exact heap_alloc_keep (heap_alloc_new w _) _
  · rw [madeCells_one]
    rw [List.getElem?_replicate] at hv
    rw [Array.getElem?_replicate]
    split at hv
    · rename_i hlt; rw [if_pos hlt]; simp at hv; rw [← hv]
    · cases hv

set_option maxHeartbeats 400000 in
theorem new_ok (n : Nat) (w : World) (h1 : 1 ≤ n) (h2 : n ≤ 4096) :
    Calls Try.prog 49 #[.int .i64 n] w fun e w' => e = .returned (.tuple #[.pointer (some ⟨w.heap.size + 1, 0, none⟩), .int .i64 0]) ∧ Left 83 (w.heap.size + 1) w.heap.size (List.replicate n 0) 0 w w' := by
  have hmk := run_make_row' (P := Try.prog) 26 3 (.int .i64 0) 8 Try.underlying26 info_int rfl .i64 .i64 n (by omega) (by omega)
  have H := memAt_new 83 w n h2
  have d1 : decide ((n : Int) < 1) = false := by simp; omega
  have d2 : decide (4096 < (n : Int)) = false := by simp; omega
  go_enter Try.func49, Try.ntmps49
  go_wp2
  go_ret2
  exact ⟨rfl, H, ((Fr.refl _ _).alloc _).alloc _⟩

set_option maxHeartbeats 400000 in
theorem new_bad (n : Int) (w : World) (h : n < 1 ∨ 4096 < n) :
    Calls Try.prog 49 #[.int .i64 n] w fun e w' => e = .returned (.tuple #[.pointer none, .int .i64 1]) ∧ w = w' := by
  rcases h with h | h
  · have d1 : decide (n < 1) = true := by simpa using h
    go_enter Try.func49, Try.ntmps49
    go_wp2
    go_ret2
    exact ⟨rfl, rfl⟩
  · have d1 : decide (n < 1) = false := by simp; omega
    have d2 : decide (4096 < n) = true := by simpa using h
    go_enter Try.func49, Try.ntmps49
    go_wp2
    go_ret2
    exact ⟨rfl, rfl⟩

theorem new_any (n : Int) (w : World) (h1 : 1 ≤ n) (h2 : n ≤ 4096) :
    Calls Try.prog 49 #[.int .i64 n] w fun e w' => ∃ p q, e = .returned (.tuple #[.pointer (some ⟨p, 0, none⟩), .int .i64 0]) ∧ w.heap.size ≤ p ∧ w.heap.size ≤ q ∧ MemAt 83 w' p q (List.replicate n.toNat 0) 0 ∧ Fr [] w w' := by
  obtain ⟨k, rfl⟩ := Int.eq_ofNat_of_zero_le (show 0 ≤ n by omega)
  refine (new_ok k w (by omega) (by omega)).mono fun e w' ⟨he, hm, hf⟩ => ⟨_, _, he, by omega, by omega, hm, ?_⟩
  exact hf.drop (fun j hj => by simp at hj; right; omega)

/-- The cells of a Mem's words, as the law on append takes them. -/
theorem IsMem.news {T : Nat} {w : World} {p q cap : Nat} {cur : Array Value} {L : List Int} {t : Int} (h : IsMem T w p q cap cur L t) :
    ∀ j u, (L.map (Value.int .i64))[j]? = some u → w.cell? ((⟨q, 0, none⟩ : Addr).add j) = some u := by
  intro j u hu
  rw [List.getElem?_map] at hu
  cases hL : L[j]? with
  | none => rw [hL] at hu; cases hu
  | some v =>
    rw [hL] at hu
    simp only [Option.map_some, Option.some.injEq] at hu
    subst hu
    have hadd : (⟨q, 0, none⟩ : Addr).add j = ⟨q, j, none⟩ := by unfold Addr.add; split <;> simp_all
    rw [hadd]; exact h.cq hL

theorem ints_one (L : List Int) : ∀ u ∈ L.map (Value.int .i64), u.oneCell' = true := by
  intro u hu
  obtain ⟨v, _, rfl⟩ := List.mem_map.1 hu
  rfl

theorem ownsRow_base {w : World} {base e n : Nat} {g c : Nat} {xs : List Value} (h : w.ownsRow base e 1 (.slice (some ⟨g, 0, none⟩) n c) n xs) : base ≤ g := (h.lt g rfl).1

theorem memAt_owned (T : Nat) (w1 : World) (base g c : Nat) (L : List Int) (t : Int) (h : w1.ownsRow base 3 1 (.slice (some ⟨g, 0, none⟩) L.length c) L.length (L.map (Value.int .i64))) :
    MemAt T (w1.alloc (.cells #[.slice (some ⟨g, 0, none⟩) L.length c, .int .i64 t] T)) w1.heap.size g L t := by
  rcases h.2 with ⟨h', _⟩ | ⟨g', cap', cur, h', _, hg, hl, hm, hs, htake⟩
  · simp at h'
  · simp only [Value.slice.injEq, Option.some.injEq, Addr.mk.injEq, and_true, true_and] at h'
    obtain ⟨rfl, rfl⟩ := h'
    refine ⟨c, cur, heap_alloc_new w1 _, heap_alloc_keep hg _, hl, hm, by simpa using hs, fun j v hv => ?_, fun e => by have := heap_lt hg; omega⟩
    have hj : j < L.length := (List.getElem?_eq_some_iff.1 hv).1
    have h2 : (cur.toList.take (L.length * 1))[j]? = some (.int .i64 v) := by rw [htake, List.getElem?_map, hv]; rfl
    rw [List.getElem?_take, if_pos (by omega)] at h2
    simpa using h2

set_option maxHeartbeats 400000 in
/-- slices.Clone at numbers, of a list in a row of cells that isn't nil. -/
theorem clone_ints (q n cap : Nat) (L : List Int) (w : World) (hL : L.length = n) (hn : n * 8 ≤ 140737488355328) (hq : q < w.heap.size)
    (hnews : ∀ j u, (L.map (Value.int .i64))[j]? = some u → w.cell? ((⟨q, 0, none⟩ : Addr).add j) = some u) :
    Calls Try.prog 47 #[.slice (some ⟨q, 0, none⟩) n cap] w fun e w' => ∃ g c, e = .returned (.slice (some ⟨g, 0, none⟩) n c) ∧ w'.ownsRow w.heap.size 3 1 (.slice (some ⟨g, 0, none⟩) n c) n (L.map (Value.int .i64)) ∧ Fr [] w w' := by
  obtain ⟨i0, hi, hz0, hz1, hz2⟩ := info_parts info_int
  have hnil := fun (wx : World) => Lib.run_eql_slice_nil (P := Try.prog) wx 26 3 (some ⟨q, 0, none⟩) n cap 0 0 Try.underlying26
  have hown := World.ownsRow_lit (w := w) (base := w.heap.size) (e := 3) (size := 1) #[] 0 (Nat.le_refl _) (by unfold maxLen; omega) rfl
  have hnews' : ∀ j u, (L.map (Value.int .i64))[j]? = some u → (w.alloc (.cells #[] 3)).cell? ((⟨q, 0, none⟩ : Addr).add j) = some u := by
    intro j u hu
    have := hnews j u hu
    have hb : ((⟨q, 0, none⟩ : Addr).add j).block = q := by unfold Addr.add; split <;> rfl
    rw [← this]
    exact World.cell?_of_block (w := w) (Below.heap_alloc _ _ _ (by rw [hb]; exact hq))
  have Hn := Lib.hid hnews; clear hnews
  have Hn' := Lib.hid hnews'; clear hnews'
  have HL := Lib.hid hL; clear hL
  go_enter Try.func47, Try.ntmps47
  go_wp2_with (first | (at_builtin; refine wpList_append_own _ rfl _ _ 26 rfl w.heap.size 3 i0 (.int .i64 0) 1 8 Try.underlying26 hi hz0 hz1 hz2 rfl (by decide) _ _ _ rfl hown ⟨q, 0, none⟩ n cap (L.map (Value.int .i64)) rfl ?c0 Hn'.out (ints_one L) ?c3 ?c4 ?c5 ?c6))
  case c0 => simp [HL.out]
  case c3 => unfold maxLen; omega
  case c6 =>
    intro v' w1 hown1 hgrow hnl
    have hfr : Fr [] w w1 := ((Fr.refl [] w).alloc (.cells #[] 3)).grown hgrow (fun k hk => by simp [Value.ownBlock] at hk; right; omega)
    obtain ⟨g, c, rfl⟩ : ∃ g c, v' = .slice (some ⟨g, 0, none⟩) n c := by
      rcases hown1.2 with ⟨h1, _⟩ | ⟨g, c, _, h1, _⟩
      · exact absurd h1 hnl
      · exact ⟨g, c, h1⟩
    clear hnl
    go_wp2
    go_ret
    exact ⟨g, c, rfl, hown1, hfr⟩

set_option maxHeartbeats 400000 in
theorem words_any (w : World) (p q : Nat) (L : List Int) (t : Int) (hM : MemAt 83 w p q L t) (hb : L.length ≤ 10000) :
    Calls Try.prog 32 #[.pointer (some ⟨p, 0, none⟩)] w fun e w' => ∃ g c, e = .returned (.slice (some ⟨g, 0, none⟩) L.length c) ∧ w'.ownsRow w.heap.size 3 1 (.slice (some ⟨g, 0, none⟩) L.length c) L.length (L.map (Value.int .i64)) ∧ Fr [] w w' := by
  obtain ⟨cap, cur, h⟩ := hM
  have c0 := h.c0
  have K := clone_ints q L.length cap L w rfl (by omega) h.qlt h.news
  have HK := Lib.hid K; clear K
  go_enter Try.func32, Try.ntmps32
  go_wp2_with fail
  refine HK.out.mono ?_
  rintro e w1 ⟨g, c, rfl, hown, hfr⟩
  go_wp2
  go_ret
  exact ⟨g, c, rfl, hown, hfr⟩

end Go.Proofs.Ytdpefnebghljoaa

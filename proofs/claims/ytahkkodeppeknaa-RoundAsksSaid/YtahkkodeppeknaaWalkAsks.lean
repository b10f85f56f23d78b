/- The walk of RoundAsks. -/
import Derived.Test.YtahkkodeppeknaaRoundV
namespace Go.Proofs.Ytahkkodeppeknaa
open Go.RowKit Go.Shelf
attribute [local go_sem] Oper.semAt_some

theorem ints_stp {O : Blk} {w w' : World} {g : Option Addr} {L : List Int} (h : IntsAt w g L) (st : Stp O w w') (hg : ∀ a, g = some a → ¬ O a.block) : IntsAt w' g L :=
  ⟨h.1, fun j x hx => let ⟨b, o, hg', hc⟩ := h.2 j x hx; ⟨b, o, hg', st.cell hc (hg ⟨b, o, none⟩ hg')⟩⟩

theorem leave_ret_at {P : Program} {n : Nat} {fn : Func} {R : Ending → World → Prop} {tmps : Array Value} {D : Nat} {W : World} (v : Value) (hK : W.heap[D]? = some (.deferred (some [])))
    (hv : (results fn tmps).run P (W.putObj D (.deferred none)) = .ok v (W.putObj D (.deferred none))) (hR : R (.returned v) (W.putObj D (.deferred none))) :
    bodyPostM Fence.wide n P fn R .ret { tmps, defers := [{ target := .collected D, args := #[] }] } W := by
  refine ⟨by simp, .inl ⟨_, _, rfl, run_takeDeferred hK, ?_⟩⟩
  exact ⟨v, hv, hR⟩
/-- Between two rounds: how many were told. -/
def AsksInv (w8 : World) (bt ba : Nat) (left : Int) : Nat → World → Blk → Prop := fun k W O =>
  O = (fun x => x = bt) ∧ (k : Int) ≤ left ∧ W.heap[bt]? = some (.cells #[.int .i64 k] 3) ∧ Stp (fun x => x = bt ∨ x = ba) w8 W
def AsksOut (w8 : World) (bt ba : Nat) (left : Int) (c : Code) : Nat → World → Blk → Prop := fun k W O =>
  c = .exit 0 ∧ O = (fun x => x = bt) ∧ left < (k : Int) ∧ W.heap[bt]? = some (.cells #[.int .i64 k] 3) ∧ Stp (fun x => x = bt ∨ x = ba) w8 W
theorem stp_asks {w8 W W' : World} {bt ba : Nat} {B : Nat} (hB : w8.heap.size ≤ B) (hs : Stp (fun x => x = bt ∨ x = ba) w8 W) (e1 : W'.os = W.os) (e2 : W'.tape = W.tape) (e3 : W'.output = W.output) (e4 : W.heap.size ≤ W'.heap.size)
    (e5 : ∀ b, (b = bt ∨ (b < B ∧ ¬ b = ba)) → W'.heap[b]? = W.heap[b]?) : Stp (fun x => x = bt ∨ x = ba) w8 W' :=
  ⟨e1.trans hs.os, e2.trans hs.tape, e3.trans hs.output, Nat.le_trans hs.size e4, fun b hb hn => (e5 b (.inr ⟨by omega, fun h => hn (.inr h)⟩)).trans (hs.block b hb hn)⟩
theorem AsksInv.stable (w8 : World) (bt ba : Nat) (left : Int) {B : Nat} (hB : w8.heap.size ≤ B) : StableE B (fun x => x = ba) (AsksInv w8 bt ba left) := by
  rintro k W _ W' ⟨rfl, hk, ht, hs⟩ e1 e2 e3 e4 e5
  exact ⟨rfl, hk, (e5 bt (.inl rfl)).trans ht, stp_asks hB hs e1 e2 e3 e4 e5⟩
theorem AsksOut.stable (w8 : World) (bt ba : Nat) (left : Int) (c : Code) {B : Nat} (hB : w8.heap.size ≤ B) : StableE B (fun x => x = ba) (AsksOut w8 bt ba left c) := by
  rintro k W _ W' ⟨hc, rfl, hk, ht, hs⟩ e1 e2 e3 e4 e5
  exact ⟨hc, rfl, hk, (e5 bt (.inl rfl)).trans ht, stp_asks hB hs e1 e2 e3 e4 e5⟩

set_option maxHeartbeats 8000000 in
set_option maxRecDepth 100000 in
theorem asks_walk (w : World) (many first left : Int) (hm0 : 0 ≤ many) (hm1 : many ≤ 255) (hf0 : 0 ≤ first) (hf1 : first ≤ 255) (hl0 : 0 ≤ left) (hl1 : left ≤ 255) :
    Calls Try.prog 5 #[.int .u8 many, .int .u8 first, .int .u8 left] w fun e w' => e = .returned (.bool true) ∧ Fr [] w w' := by
  obtain ⟨N, hN⟩ : ∃ N : Nat, (N : Int) = many % 101 := ⟨(many % 101).toNat, by omega⟩
  have hN100 : N ≤ 100 := by omega
  have hNm : many % 101 = (N : Int) := hN.symm
  have HNM := Lib.hid hNm
  clear hN hNm
  refine (callsIn_wide (n := 3)).1 (callsIn_of_wp_marks Try.func5 rfl trivial (wpIn_wide.2 ?_) rfl)
  simp only [Try.ntmps5, List.size_toArray, List.length_cons, List.length_nil, Nat.reduceAdd, Nat.reduceSub, Array.replicate_succ, Array.replicate_zero, List.push_toArray, List.append_toArray, List.nil_append, List.cons_append]
  go_wp2_with fail
  have F0 := (Fr.refl [] w).alloc (.cells #[.int .u8 left] 5)
  have hb5 := heap_alloc_new w (.cells #[.int .u8 left] 5)
  refine (awake_any _).mono ?_
  rintro en w1 ⟨rfl, f1⟩
  have hb51 := f1.at hb5 (by simp)
  have F1 := Lib.hid (F0.trans f1)
  have HB5 := Lib.hid hb51
  have hs1 := F0.size
  have hs1' := f1.size
  simp only [World.size_alloc] at hs1'
  generalize w.heap.size = b5 at HB5 hs1'
  clear F0 hb5 f1 hb51 hs1
  go_wp2_with fail
  rw [HNM.out]
  have hn2 := heap_alloc_keep (heap_alloc_new w1 (.cells #[.int .i64 (N : Int)] 3)) (.cells #[.int .i64 0] 3)
  have ha2 := heap_alloc_new (w1.alloc (.cells #[.int .i64 (N : Int)] 3)) (.cells #[.int .i64 0] 3)
  have F2 := Lib.hid ((F1.out.alloc (.cells #[.int .i64 (N : Int)] 3)).alloc (.cells #[.int .i64 0] 3))
  have HB52 := Lib.hid (heap_alloc_keep (heap_alloc_keep HB5.out (.cells #[.int .i64 (N : Int)] 3)) (.cells #[.int .i64 0] 3))
  have hs2 : ((w1.alloc (.cells #[.int .i64 (N : Int)] 3)).alloc (.cells #[.int .i64 0] 3)).heap.size = w1.heap.size + 2 := by simp
  have hsw := F1.out.size
  have hb5l := heap_lt HB5.out
  simp only [World.size_alloc] at ha2
  generalize ((w1.alloc (.cells #[.int .i64 (N : Int)] 3)).alloc (.cells #[.int .i64 0] 3)) = w2 at hn2 ha2 F2 HB52 hs2 ⊢
  generalize w1.heap.size = bn at hn2 ha2 hs2 hs1' hb5l hsw ⊢
  have hT2 : AskedAt (bn + 1) 0 0 w2 := by unfold AskedAt; simpa using ha2
  have HN2 := Lib.hid hn2
  have hseq := seqE_asks w2 bn (bn + 1) N 0 (by omega) (by omega) (by omega) (cell_of hn2 rfl) hT2 (A := fun _ => True) trivial
  have HFI := Lib.hid (first_anyT w2 _ _ _ _ (fun _ _ => trivial) _ first (by omega) hseq hT2)
  clear hn2 ha2 hseq hT2
  go_wp2_with fail
  refine HFI.out.mono ?_
  rintro en w3 ⟨v3, rfl, hs3, f3⟩
  obtain ⟨A, hA⟩ : ∃ A, A = (upTo N).take first.toNat := ⟨_, rfl⟩
  rw [← hA] at hs3
  have hAl : A.length = min first.toNat N := by rw [hA, List.length_take, length_upTo]
  have HLI := Lib.hid (list_seqT w3 v3 _ _ _ _ _ A (by omega) hs3)
  have HA := Lib.hid hA
  have F3 := Lib.hid f3
  clear hs3 f3 HFI hA
  go_wp2_with fail
  refine HLI.out.mono ?_
  rintro en w4 ⟨v4, rfl, hown4, hT4, st4⟩
  have hs3 := F3.out.size; have hs4 := st4.size
  obtain ⟨g4, c4, rfl, hI4⟩ := (show ∃ (g : Option Addr) (c : Nat), v4 = .slice g A.length c ∧ IntsAt w4 g A from by
    rcases hown4.2 with ⟨rfl, hn⟩ | ⟨g, cap, cur, rfl, _⟩
    · have : A = [] := List.eq_nil_of_length_eq_zero hn
      subst this
      exact ⟨none, 0, rfl, IntsAt.empty _ _⟩
    · exact ⟨_, cap, rfl, IntsAt.of_owns hown4⟩)
  have hg4 : ∀ a, g4 = some a → w3.heap.size ≤ a.block ∧ a.block < w4.heap.size := fun a ha => by subst ha; exact hown4.lt a.block rfl
  obtain ⟨la, hla⟩ : ∃ la, la = A.length := ⟨_, rfl⟩
  rw [← hla] at hAl hT4 ⊢
  have HLA := Lib.hid hla
  have HAL := Lib.hid hAl
  have hla100 : la ≤ 100 := by rw [hAl]; omega
  clear hAl
  have q4 : w4.cell? ⟨bn + 1, 0, none⟩ = some (.int .i64 (la : Int)) := by
    have := cell_of (i := 0) hT4 rfl
    simpa using this
  have z4 : w4.frozen? ⟨bn + 1, 0, none⟩ = false := frozen_of hT4
  have ht5 := heap_setCell_same (i := 0) hT4 (.int .i64 0)
  have HT5 := Lib.hid (show AskedAt (bn + 1) 0 0 (w4.setCell ⟨bn + 1, 0, none⟩ (.int .i64 0)) from by unfold AskedAt; simpa using ht5)
  have hn4 : w4.heap[bn]? = _ := st4.at (F3.out.at HN2.out (by simp)) (by omega)
  have hb54 : w4.heap[b5]? = _ := st4.at (F3.out.at HB52.out (by simp)) (by omega)
  have FS5 : Stp (fun b => b = bn + 1) w4 (w4.setCell ⟨bn + 1, 0, none⟩ (.int .i64 0)) := (Stp.refl (fun b => b = bn + 1) w4).setCell (p := ⟨bn + 1, 0, none⟩) (.inl rfl) _
  have HN5 := Lib.hid (FS5.at hn4 (by omega)); have HB55 := Lib.hid (FS5.at hb54 (by omega))
  have HI5 := Lib.hid (ints_stp hI4 FS5 (fun a ha => by have := hg4 a ha; omega))
  clear hown4 ht5 hn4 hb54 hT4 HLI hla hI4
  go_wp2_with fail
  have hs5 : (w4.setCell ⟨bn + 1, 0, none⟩ (.int .i64 0)).heap.size = w4.heap.size := by simp [World.setCell]
  have HST5 := Lib.hid (((Stp.of_fr F3.out).mono (O' := fun b => b = bn + 1) (by simp)).then (st4.then FS5 (fun b hb => .inl hb)) (fun b hb => .inl hb))
  generalize w4.setCell ⟨bn + 1, 0, none⟩ (.int .i64 0) = w5 at HT5 HN5 HB55 HI5 FS5 hs5 HST5 ⊢
  obtain ⟨bt, hbt⟩ : ∃ bt, bt = w5.heap.size := ⟨_, rfl⟩
  rw [← hs5, ← hbt]
  have hbtn : bn + 1 < bt := by omega
  have ht6 := heap_alloc_new w5 (.cells #[.int .i64 0] 3)
  rw [← hbt] at ht6
  have f56 := (Fr.refl [] w5).alloc (.cells #[.int .i64 0] 3)
  have hs6 : (w5.alloc (.cells #[.int .i64 0] 3)).heap.size = bt + 1 := by simp [hbt]
  have hT6 : AskedAt (bn + 1) 0 0 (w5.alloc (.cells #[.int .i64 0] 3)) := f56.at HT5.out (by simp)
  have HN6 := Lib.hid (f56.at HN5.out (by simp)); have HB56 := Lib.hid (f56.at HB55.out (by simp)); have HI6 := Lib.hid (HI5.out.fr f56 (by simp))
  have HST6 := Lib.hid (HST5.out.then ((Stp.of_fr f56).mono (O' := fun b => b = bn + 1) (by simp)) (fun b hb => .inl hb))
  have HG4 := Lib.hid (show ∀ a, g4 = some a → a.block ≠ bt ∧ a.block ≠ bn + 1 from fun a ha => by have := hg4 a ha; omega)
  generalize w5.alloc (.cells #[.int .i64 0] 3) = w6 at ht6 f56 hs6 hT6 HN6 HB56 HI6 HST6 ⊢
  have hseq := seqE_asks w6 bn (bn + 1) N 0 (by omega) (by omega) (by omega) (cell_of HN6.out rfl) hT6 (A := fun b => b ≠ bt) (by omega)
  have HSE := Lib.hid (second_anyT w6 _ _ _ _ (fun b hb => by omega) _ hseq)
  have HT6 := Lib.hid ht6
  clear hseq hT6 ht6 f56 FS5 HT5 HN5 HB55 HI5 HST5 hbt q4 z4 st4
  go_wp2_with fail
  refine HSE.out.mono ?_
  rintro en w7 ⟨v7, rfl, hs7, f7⟩
  have HWH := Lib.hid (where_anyT w7 v7 _ _ _ _ _ (fun b hb => by have := f7.size; omega) _ _ _ hs7 (asks2_fits w7))
  have F7 := Lib.hid f7
  clear hs7 f7 HSE
  go_wp2_with fail
  refine HWH.out.mono ?_
  rintro en w8 ⟨v8, rfl, ⟨g8, lb8, C8, rfl, hg8, hi8, hc8⟩, f8⟩
  have HC8 := Lib.hid hc8
  clear hc8
  have F8 := Lib.hid (F7.out.trans f8)
  have e1 := fun (wx : World) => run_eql_func_nil (P := Try.prog) wx Try.underlying25 (.func g8) #[] lb8
  have HG8 := Lib.hid hg8; have HI8 := Lib.hid hi8
  have hs8 := F8.out.size
  clear hg8 hi8 f8 HWH
  have ht8 := F8.out.at HT6.out (by simp)
  have hb58 := F8.out.at HB56.out (by simp)
  have hn8 := F8.out.at HN6.out (by simp)
  have HB58 := Lib.hid hb58; have HN8 := Lib.hid hn8; have HT8 := Lib.hid ht8
  have HI48 := Lib.hid (HI6.out.fr F8.out (by simp))
  have hlen8 := length_secondL (upTo N)
  rw [length_upTo] at hlen8
  have hbtl := heap_lt ht8
  have HL8 := Lib.hid hlen8
  have hE8 : ∀ b, b = bn + 1 → b < w8.heap.size := fun b hb => by omega
  clear ht8 hb58 hn8 hlen8
  go_wp2
  refine wp_rangeT (C := C8) (xs := secondL (upTo N)) (enc := encI) rfl HG8.out HI8.out (fun x => rfl)
    (AsksInv w8 bt (bn + 1) left) (AsksOut w8 bt (bn + 1) left) (AsksInv.stable _ _ _ _ (Nat.le_refl _)) (fun c => AsksOut.stable _ _ _ _ c (Nat.le_refl _))
    (fun x => x = bt) (fun x hx => by show x < w8.heap.size; have : x = bt := hx; omega)
    (fun x hx h => by
      have e : x = bt := h
      rcases hx with hx | hx
      · exact HC8.out x hx e
      · omega)
    ⟨rfl, by simpa using hl0, by simpa using HT8.out, Stp.refl _ _⟩ ?round ?done ?stop
  case round =>
    clear e1
    intro l' k x W1 O1 hx
    have hk : k < N := by have := (List.getElem?_eq_some_iff.1 hx).1; have := HL8.out; omega
    clear hx
    simp only [encI, List.zip_toArray, List.zip_cons_cons, List.zip_nil_right, List.foldl_toArray', List.foldl_cons, List.foldl_nil, List.setIfInBounds_toArray, List.set_cons_zero, List.set_cons_succ]
    gi_wp2
    refine ⟨rfl, ?_⟩
    rintro W2 ⟨rfl, hkl, ht, hst⟩ hT hb2 hsz2
    have q1 : W2.cell? ⟨bt, 0, none⟩ = some (.int .i64 (k : Int)) := cell_of (i := 0) ht rfl
    have q2 : W2.frozen? ⟨bt, 0, none⟩ = false := frozen_of ht
    have q3 : W2.cell? ⟨b5, 0, none⟩ = some (.int .u8 left) := cell_of (i := 0) (hst.at HB58.out (by omega)) rfl
    have ht3 := heap_setCell_same (i := 0) ht (.int .i64 ((k : Int) + 1))
    have st3 : Stp (fun x => x = bt) W2 (W2.setCell ⟨bt, 0, none⟩ (.int .i64 ((k : Int) + 1))) := (Stp.refl (fun x => x = bt) W2).setCell (p := ⟨bt, 0, none⟩) (.inl rfl) _
    have st8 : Stp (fun x => x = bt ∨ x = bn + 1) w8 (W2.setCell ⟨bt, 0, none⟩ (.int .i64 ((k : Int) + 1))) := hst.setCell (p := ⟨bt, 0, none⟩) (.inl (.inl rfl)) _
    have gr3 : Grw (fun x => x = bt) (fun x => x = bt) W2 (W2.setCell ⟨bt, 0, none⟩ (.int .i64 ((k : Int) + 1))) := fun b hb => ⟨by simpa [World.setCell] using hb2 b hb, .inl hb⟩
    by_cases hbr : left < (k : Int) + 1
    · have fin : ∃ O', Stp (fun x => x = bt) W2 (W2.setCell ⟨bt, 0, none⟩ (.int .i64 ((k : Int) + 1))) ∧ Grw (fun x => x = bt) O' W2 (W2.setCell ⟨bt, 0, none⟩ (.int .i64 ((k : Int) + 1))) ∧ AsksOut w8 bt (bn + 1) left (.exit 0) (k + 1) (W2.setCell ⟨bt, 0, none⟩ (.int .i64 ((k : Int) + 1))) O' :=
        ⟨_, st3, gr3, rfl, rfl, by omega, by simpa using ht3, st8⟩
      have FIN := Lib.hid fin
      clear fin ht ht3 st3 st8 gr3 hst hT hb2
      gi_wp2
      exact FIN.out
    · have fin : ∃ O', Stp (fun x => x = bt) W2 (W2.setCell ⟨bt, 0, none⟩ (.int .i64 ((k : Int) + 1))) ∧ Grw (fun x => x = bt) O' W2 (W2.setCell ⟨bt, 0, none⟩ (.int .i64 ((k : Int) + 1))) ∧ AsksInv w8 bt (bn + 1) left (k + 1) (W2.setCell ⟨bt, 0, none⟩ (.int .i64 ((k : Int) + 1))) O' :=
        ⟨_, st3, gr3, rfl, by omega, by simpa using ht3, st8⟩
      have FIN := Lib.hid fin
      clear fin ht ht3 st3 st8 gr3 hst hT hb2
      gi_wp2
      exact FIN.out
  case done =>
    rintro D W' O' hD ⟨rfl, hkl, ht, hst⟩ hT _ _ hK hnD
    rw [HL8.out] at ht hkl
    have hT' : AskedAt (bn + 1) 0 N W' := by rw [length_upTo] at hT; exact hT
    obtain ⟨td, htd⟩ : ∃ td : Int, td = (((N + 1) / 2 : Nat) : Int) := ⟨_, rfl⟩
    rw [← htd] at ht hkl
    obtain ⟨aa, haa⟩ : ∃ aa : Nat, aa = N := ⟨_, rfl⟩
    rw [← haa] at hT'
    have haa100 : aa ≤ 100000 := by omega
    have htd0 : 0 ≤ td ∧ td ≤ 101 := by omega
    have q1 : W'.cell? ⟨bn + 1, 0, none⟩ = some (.int .i64 (aa : Int)) := by have := cell_of (i := 0) hT' rfl; simpa using this
    have hT2 : AskedAt (bn + 1) aa 0 W' := by unfold AskedAt at hT' ⊢; simpa using hT'
    have hn9 := hst.at HN8.out (by omega)
    have hb59 := hst.at HB58.out (by omega)
    have hsz9 := hst.size
    have hseq := seqE_asks W' bn (bn + 1) N aa (by omega) haa100 (by omega) (cell_of hn9 rfl) hT2 (A := fun _ => True) trivial
    have HFI := Lib.hid (first_anyT W' _ _ _ _ (fun _ _ => trivial) _ first (by omega) hseq hT2)
    have HTT := Lib.hid ht; have HNN := Lib.hid hn9; have HBB := Lib.hid hb59; have HKK := Lib.hid hK; have HSS := Lib.hid hst
    have hDn : D ≠ bt ∧ D ≠ bn ∧ D ≠ b5 ∧ D ≠ bn + 1 := by omega
    have HTD := Lib.hid htd; have HAA := Lib.hid haa
    clear hT hT' hT2 ht hst hn9 hb59 hseq hK htd haa e1
    go_wp2_with fail
    refine HFI.out.mono ?_
    rintro en w9 ⟨v9, rfl, hs9, f9⟩
    rw [← HA.out] at hs9
    have HLI := Lib.hid (list_seqT w9 v9 _ _ _ _ _ A (by rw [← HLA.out]; omega) hs9)
    have F9 := Lib.hid f9
    clear hs9 f9 HFI
    go_wp2_with fail
    refine HLI.out.mono ?_
    rintro en w10 ⟨v10, rfl, hown10, -, st10⟩
    obtain ⟨g10, c10, rfl, hI10⟩ := (show ∃ (g : Option Addr) (c : Nat), v10 = .slice g A.length c ∧ IntsAt w10 g A from by
      rcases hown10.2 with ⟨rfl, hn⟩ | ⟨g, cap, cur, rfl, _⟩
      · have : A = [] := List.eq_nil_of_length_eq_zero hn
        subst this
        exact ⟨none, 0, rfl, IntsAt.empty _ _⟩
      · exact ⟨_, cap, rfl, IntsAt.of_owns hown10⟩)
    have hs9 := F9.out.size; have hs10 := st10.size
    have st89 := HSS.out.then ((Stp.of_fr F9.out).mono (O' := fun b => b = bn + 1) (by simp)) (fun b hb => .inl (.inr hb)) |>.then st10 (fun b hb => .inl (.inr hb))
    have r1 : w10.cell? ⟨bn, 0, none⟩ = some (.int .i64 (N : Int)) := cell_of (i := 0) (st10.at (F9.out.at HNN.out (by simp)) (by omega)) rfl
    have r2 : w10.cell? ⟨bt, 0, none⟩ = some (.int .i64 td) := cell_of (i := 0) (st10.at (F9.out.at HTT.out (by simp)) (by omega)) rfl
    have r3 : w10.cell? ⟨b5, 0, none⟩ = some (.int .u8 left) := cell_of (i := 0) (st10.at (F9.out.at HBB.out (by simp)) (by omega)) rfl
    have hK10 := st10.at (F9.out.at HKK.out (by simp)) (by omega)
    have HIA := Lib.hid (ints_stp HI48.out st89 (fun a ha h => by have := HG4.out a ha; omega))
    have HIB := Lib.hid hI10
    have hin := ints_same w10 g4 g10 c4 c10 A HIA.out hI10
    rw [← HLA.out] at hin ⊢
    have HIN := Lib.hid hin
    have HK10 := Lib.hid hK10
    have HFR := Lib.hid (show Stp (fun _ => False) w w10 from by
      have x1 := (Stp.of_fr F2.out).mono (O' := fun _ => False) (by simp)
      have x2 := x1.then HST6.out (fun b hb => by right; have := F2.out.size; omega)
      have x3 := x2.then (Stp.of_fr F8.out) (fun b hb => by simp at hb)
      exact x3.then st89 (fun b hb => by right; have := F2.out.size; omega))
    clear hown10 hI10 hin hK10 st10 st89 HLI
    have HALL := Lib.hid HAL.out
    by_cases hA : first ≤ (N : Int)
    · have hfl : first = (la : Int) := by have := HALL.out; omega
      have hfn : first ≤ (N : Int) := hA
      subst hfl
      obtain rfl : aa = N := HAA.out
      by_cases hp : (aa : Int) ≤ 2 * td - 1
      · skip
        clear HALL HTD HAA HAL HA HNM
        go_wp2_with fail
        refine HIN.out.mono ?_
        rintro en w11 ⟨rfl, n, rfl⟩
        have fin : Fr [] w ((w10.drewN n).putObj D (.deferred none)) := ((HFR.out.drewN n).putObj (.inr (by have := F2.out.size; omega)) _).to_fr (fun x hx => hx.elim)
        have FIN := Lib.hid fin
        clear fin HIN
        go_wp2
        exact leave_ret_at (.bool true) HK10.out (results_tmp (t := 6) rfl _ _ _) ⟨rfl, FIN.out⟩
      · have hp2 : 2 * td - 1 < (aa : Int) := by omega
        clear HALL HTD HAA HAL HA HNM
        go_wp2_with fail
        refine HIN.out.mono ?_
        rintro en w11 ⟨rfl, n, rfl⟩
        have fin : Fr [] w ((w10.drewN n).putObj D (.deferred none)) := ((HFR.out.drewN n).putObj (.inr (by have := F2.out.size; omega)) _).to_fr (fun x hx => hx.elim)
        have FIN := Lib.hid fin
        clear fin HIN
        go_wp2
        exact leave_ret_at (.bool true) HK10.out (results_tmp (t := 6) rfl _ _ _) ⟨rfl, FIN.out⟩
    · obtain rfl : la = N := by have := HALL.out; omega
      have hfn : (la : Int) < first := by omega
      obtain rfl : aa = la := HAA.out
      by_cases hp : (aa : Int) ≤ 2 * td - 1
      · skip
        clear HALL HTD HAA HAL HA HNM
        go_wp2_with fail
        refine HIN.out.mono ?_
        rintro en w11 ⟨rfl, n, rfl⟩
        have fin : Fr [] w ((w10.drewN n).putObj D (.deferred none)) := ((HFR.out.drewN n).putObj (.inr (by have := F2.out.size; omega)) _).to_fr (fun x hx => hx.elim)
        have FIN := Lib.hid fin
        clear fin HIN
        go_wp2
        exact leave_ret_at (.bool true) HK10.out (results_tmp (t := 6) rfl _ _ _) ⟨rfl, FIN.out⟩
      · have hp2 : 2 * td - 1 < (aa : Int) := by omega
        clear HALL HTD HAA HAL HA HNM
        go_wp2_with fail
        refine HIN.out.mono ?_
        rintro en w11 ⟨rfl, n, rfl⟩
        have fin : Fr [] w ((w10.drewN n).putObj D (.deferred none)) := ((HFR.out.drewN n).putObj (.inr (by have := F2.out.size; omega)) _).to_fr (fun x hx => hx.elim)
        have FIN := Lib.hid fin
        clear fin HIN
        go_wp2
        exact leave_ret_at (.bool true) HK10.out (results_tmp (t := 6) rfl _ _ _) ⟨rfl, FIN.out⟩
  case stop =>
    rintro D c k W' O' hD hk ⟨rfl, rfl, hkl, ht, hst⟩ hT _ _ hK hnD
    have hkN : 2 * k + 1 ≤ N := by have := HL8.out; omega
    have hT' : AskedAt (bn + 1) 0 (2 * k + 1) W' := hT
    obtain ⟨td, htd⟩ : ∃ td : Int, td = ((k + 1 : Nat) : Int) := ⟨_, rfl⟩
    rw [← htd] at ht hkl
    obtain ⟨aa, haa⟩ : ∃ aa : Nat, aa = (2 * k + 1) := ⟨_, rfl⟩
    rw [← haa] at hT'
    have haa100 : aa ≤ 100000 := by omega
    have htd0 : 0 ≤ td ∧ td ≤ 101 := by omega
    have q1 : W'.cell? ⟨bn + 1, 0, none⟩ = some (.int .i64 (aa : Int)) := by have := cell_of (i := 0) hT' rfl; simpa using this
    have hT2 : AskedAt (bn + 1) aa 0 W' := by unfold AskedAt at hT' ⊢; simpa using hT'
    have hn9 := hst.at HN8.out (by omega)
    have hb59 := hst.at HB58.out (by omega)
    have hsz9 := hst.size
    have hseq := seqE_asks W' bn (bn + 1) N aa (by omega) haa100 (by omega) (cell_of hn9 rfl) hT2 (A := fun _ => True) trivial
    have HFI := Lib.hid (first_anyT W' _ _ _ _ (fun _ _ => trivial) _ first (by omega) hseq hT2)
    have HTT := Lib.hid ht; have HNN := Lib.hid hn9; have HBB := Lib.hid hb59; have HKK := Lib.hid hK; have HSS := Lib.hid hst
    have hDn : D ≠ bt ∧ D ≠ bn ∧ D ≠ b5 ∧ D ≠ bn + 1 := by omega
    have HTD := Lib.hid htd; have HAA := Lib.hid haa
    clear hT hT' hT2 ht hst hn9 hb59 hseq hK htd haa e1
    go_wp2_with fail
    refine HFI.out.mono ?_
    rintro en w9 ⟨v9, rfl, hs9, f9⟩
    rw [← HA.out] at hs9
    have HLI := Lib.hid (list_seqT w9 v9 _ _ _ _ _ A (by rw [← HLA.out]; omega) hs9)
    have F9 := Lib.hid f9
    clear hs9 f9 HFI
    go_wp2_with fail
    refine HLI.out.mono ?_
    rintro en w10 ⟨v10, rfl, hown10, -, st10⟩
    obtain ⟨g10, c10, rfl, hI10⟩ := (show ∃ (g : Option Addr) (c : Nat), v10 = .slice g A.length c ∧ IntsAt w10 g A from by
      rcases hown10.2 with ⟨rfl, hn⟩ | ⟨g, cap, cur, rfl, _⟩
      · have : A = [] := List.eq_nil_of_length_eq_zero hn
        subst this
        exact ⟨none, 0, rfl, IntsAt.empty _ _⟩
      · exact ⟨_, cap, rfl, IntsAt.of_owns hown10⟩)
    have hs9 := F9.out.size; have hs10 := st10.size
    have st89 := HSS.out.then ((Stp.of_fr F9.out).mono (O' := fun b => b = bn + 1) (by simp)) (fun b hb => .inl (.inr hb)) |>.then st10 (fun b hb => .inl (.inr hb))
    have r1 : w10.cell? ⟨bn, 0, none⟩ = some (.int .i64 (N : Int)) := cell_of (i := 0) (st10.at (F9.out.at HNN.out (by simp)) (by omega)) rfl
    have r2 : w10.cell? ⟨bt, 0, none⟩ = some (.int .i64 td) := cell_of (i := 0) (st10.at (F9.out.at HTT.out (by simp)) (by omega)) rfl
    have r3 : w10.cell? ⟨b5, 0, none⟩ = some (.int .u8 left) := cell_of (i := 0) (st10.at (F9.out.at HBB.out (by simp)) (by omega)) rfl
    have hK10 := st10.at (F9.out.at HKK.out (by simp)) (by omega)
    have HIA := Lib.hid (ints_stp HI48.out st89 (fun a ha h => by have := HG4.out a ha; omega))
    have HIB := Lib.hid hI10
    have hin := ints_same w10 g4 g10 c4 c10 A HIA.out hI10
    rw [← HLA.out] at hin ⊢
    have HIN := Lib.hid hin
    have HK10 := Lib.hid hK10
    have HFR := Lib.hid (show Stp (fun _ => False) w w10 from by
      have x1 := (Stp.of_fr F2.out).mono (O' := fun _ => False) (by simp)
      have x2 := x1.then HST6.out (fun b hb => by right; have := F2.out.size; omega)
      have x3 := x2.then (Stp.of_fr F8.out) (fun b hb => by simp at hb)
      exact x3.then st89 (fun b hb => by right; have := F2.out.size; omega))
    clear hown10 hI10 hin hK10 st10 st89 HLI
    have HALL := Lib.hid HAL.out
    by_cases hA : first ≤ (N : Int)
    · have hfl : first = (la : Int) := by have := HALL.out; omega
      have hfn : first ≤ (N : Int) := hA
      subst hfl
      have htd2 : (aa : Int) = 2 * td - 1 := by rw [HTD.out, HAA.out]; omega
      by_cases hp : aa = N
      · subst hp
        have hp2 : (aa : Int) ≤ 2 * td - 1 := by omega
        clear htd2
        clear HALL HTD HAA HAL HA HNM
        go_wp2_with fail
        refine HIN.out.mono ?_
        rintro en w11 ⟨rfl, n, rfl⟩
        have fin : Fr [] w ((w10.drewN n).putObj D (.deferred none)) := ((HFR.out.drewN n).putObj (.inr (by have := F2.out.size; omega)) _).to_fr (fun x hx => hx.elim)
        have FIN := Lib.hid fin
        clear fin HIN
        go_wp2
        exact leave_ret_at (.bool true) HK10.out (results_tmp (t := 6) rfl _ _ _) ⟨rfl, FIN.out⟩
      · have hp2 : 2 * td - 1 < (N : Int) := by have := HAA.out; omega
        clear hp
        clear HALL HTD HAA HAL HA HNM
        go_wp2_with fail
        refine HIN.out.mono ?_
        rintro en w11 ⟨rfl, n, rfl⟩
        have fin : Fr [] w ((w10.drewN n).putObj D (.deferred none)) := ((HFR.out.drewN n).putObj (.inr (by have := F2.out.size; omega)) _).to_fr (fun x hx => hx.elim)
        have FIN := Lib.hid fin
        clear fin HIN
        go_wp2
        exact leave_ret_at (.bool true) HK10.out (results_tmp (t := 6) rfl _ _ _) ⟨rfl, FIN.out⟩
    · obtain rfl : la = N := by have := HALL.out; omega
      have hfn : (la : Int) < first := by omega
      have htd2 : (aa : Int) = 2 * td - 1 := by rw [HTD.out, HAA.out]; omega
      by_cases hp : aa = la
      · subst hp
        have hp2 : (aa : Int) ≤ 2 * td - 1 := by omega
        clear htd2
        clear HALL HTD HAA HAL HA HNM
        go_wp2_with fail
        refine HIN.out.mono ?_
        rintro en w11 ⟨rfl, n, rfl⟩
        have fin : Fr [] w ((w10.drewN n).putObj D (.deferred none)) := ((HFR.out.drewN n).putObj (.inr (by have := F2.out.size; omega)) _).to_fr (fun x hx => hx.elim)
        have FIN := Lib.hid fin
        clear fin HIN
        go_wp2
        exact leave_ret_at (.bool true) HK10.out (results_tmp (t := 6) rfl _ _ _) ⟨rfl, FIN.out⟩
      · have hp2 : 2 * td - 1 < (la : Int) := by have := HAA.out; omega
        clear hp
        clear HALL HTD HAA HAL HA HNM
        go_wp2_with fail
        refine HIN.out.mono ?_
        rintro en w11 ⟨rfl, n, rfl⟩
        have fin : Fr [] w ((w10.drewN n).putObj D (.deferred none)) := ((HFR.out.drewN n).putObj (.inr (by have := F2.out.size; omega)) _).to_fr (fun x hx => hx.elim)
        have FIN := Lib.hid fin
        clear fin HIN
        go_wp2
        exact leave_ret_at (.bool true) HK10.out (results_tmp (t := 6) rfl _ _ _) ⟨rfl, FIN.out⟩

end Go.Proofs.Ytahkkodeppeknaa

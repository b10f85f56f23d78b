/- TableTexts: the walk. -/
import Derived.Test.YtamnmpcnhaeigaaTabY
namespace Go.Proofs.Ytamnmpcnhaeigaa.TabS
open Go.RowKit Go.Shelf
attribute [local go_sem] Oper.semAt_some
set_option linter.unusedVariables false

theorem lo_at {B : Nat} {w w' : World} (h : Lo B w w') {k : Nat} {o : Obj} (hk : w.heap[k]? = some o) (hB : k < B) : w'.heap[k]? = some o := by
  obtain ⟨S, h1, h2⟩ := h
  exact h1.at hk (fun m => by have := h2 k m; omega)
theorem lo_cell {B : Nat} {w w' : World} (h : Lo B w w') {p : Addr} {v : Value} (hc : w.cell? p = some v) (hB : p.block < B) : w'.cell? p = some v := by
  obtain ⟨S, h1, h2⟩ := h
  exact h1.cell hc (fun m => by have := h2 _ m; omega)
theorem lo_trans {B : Nat} {a b c : World} (h : Lo B a b) (k : Lo B b c) : Lo B a c := by
  obtain ⟨S, h1, h2⟩ := h
  obtain ⟨T, k1, k2⟩ := k
  exact ⟨S ++ T, (h1.mono (S' := S ++ T) (fun x hx => List.mem_append_left _ hx)).trans (k1.mono (fun x hx => List.mem_append_right _ hx)), fun x hx => (List.mem_append.1 hx).elim (h2 x) (k2 x)⟩
theorem lo_size {B : Nat} {a b : World} (h : Lo B a b) : a.heap.size ≤ b.heap.size := by obtain ⟨S, h1, _⟩ := h; exact h1.size
theorem lo_fr {B : Nat} {w w' : World} (h : Lo B w w') (hB : w.heap.size ≤ B) : Fr [] w w' := by
  obtain ⟨S, h1, h2⟩ := h
  exact h1.drop (fun k hk => .inr (Nat.le_trans hB (h2 k hk)))
theorem tabX_fr {w w' : World} {p : Nat} {s : Value} {L : List (ByteArray × Int)} (h : TabX w p s L) {S : List Nat} (f : Fr S w w') (hp : p ∉ S) (hs : ∀ x ∈ rowsOf s, x ∉ S) : TabX w' p s L := ⟨f.at h.tab hp, h.th.frS f hs, h.apart, h.up⟩

/-- A slice of texts reads as l; all of it lies below block B. -/
def TextsAt (B : Nat) (w : World) (g : Option Addr) (l : List ByteArray) : Prop :=
  ∀ (j : Nat) (x : ByteArray), l[j]? = some x → ∃ b f, g = some ⟨b, f, none⟩ ∧ b < B ∧ w.cell? ⟨b, f + j, none⟩ = some (.string x)

/-- What a table has in which the first i texts were put. -/
structure TxI (l : List ByteArray) (i : Nat) (M : List (ByteArray × Int)) : Prop where
  few : M.length ≤ i
  what : ∀ x ∈ M, ∃ j : Nat, j < i ∧ x.2 = (j : Int) ∧ l[j]? = some x.1
  all : ∀ (j : Nat) (y : ByteArray), j < i → l[j]? = some y → ∃ x ∈ M, x.1 = y
theorem TxI.next {l : List ByteArray} {i : Nat} {M : List (ByteArray × Int)} {y : ByteArray} (h : TxI l i M) (hs : Rising lt M) (hy : l[i]? = some y) : TxI l (i + 1) (put M y (i : Int)) := by
  refine ⟨?_, fun x hx => ?_, fun j z hj hz => ?_⟩
  · have := len_putG (lt := lt) M y (i : Int)
    have h1 := h.few
    show (putG lt M y (i : Int)).length ≤ i + 1
    rw [this]; split <;> omega
  · rcases (mem_put ord hs y (i : Int) x).1 hx with rfl | ⟨hx, _⟩
    · exact ⟨i, by omega, rfl, hy⟩
    · obtain ⟨j, h1, h2, h3⟩ := h.what x hx
      exact ⟨j, by omega, h2, h3⟩
  · by_cases e : z = y
    · subst e
      exact ⟨(z, (i : Int)), (mem_put ord hs z (i : Int) _).2 (.inl rfl), rfl⟩
    · rcases Nat.lt_or_ge j i with h1 | h1
      · obtain ⟨x, hx, e2⟩ := h.all j z h1 hz
        exact ⟨x, (mem_put ord hs y (i : Int) x).2 (.inr ⟨hx, by rw [e2]; exact e⟩), e2⟩
      · have e3 : j = i := by omega
        rw [e3, hy] at hz
        exact absurd (Option.some.inj hz).symm e

/-- The last text that was told. -/
def lastS (M : List (ByteArray × Int)) (k : Nat) : ByteArray := if k = 0 then ⟨#[]⟩ else ((M[k - 1]?).map (·.1)).getD ⟨#[]⟩
def TxJ (w7 : World) (b6 : Nat) (M : List (ByteArray × Int)) : Nat → World → Blk → Prop := fun k W O =>
  O = (fun x => x = b6 ∨ x = b6 + 1) ∧ W.heap[b6]? = some (.cells #[.string (lastS M k)] 9 (0, 0)) ∧ W.heap[b6 + 1]? = some (.cells #[.int .i64 k] 3 (0, 0)) ∧ Stp (fun x => x = b6 ∨ x = b6 + 1) w7 W
theorem TxJ.stable {w7 : World} {b6 : Nat} {M : List (ByteArray × Int)} : Stable w7.heap.size (TxJ w7 b6 M) := by
  rintro k W _ W' ⟨rfl, h1, h2, hs⟩ e1 e2 e3 e4 e5
  exact ⟨rfl, (e5 b6 (.inl (.inl rfl))).trans h1, (e5 (b6 + 1) (.inl (.inr rfl))).trans h2, hs.outside (O1 := fun x => x = b6 ∨ x = b6 + 1) e1 e2 e3 e4 e5⟩

theorem lastS_next {M : List (ByteArray × Int)} {k : Nat} {y : ByteArray} {v : Int} (h : M[k]? = some (y, v)) : lastS M (k + 1) = y := by
  unfold lastS
  rw [if_neg (by omega), Nat.add_sub_cancel, h]; rfl
theorem TxJ.next {w7 W2 : World} {b6 : Nat} {M : List (ByteArray × Int)} {k : Nat} {y : ByteArray} {v : Int} (h : M[k]? = some (y, v))
    (hc6 : W2.heap[b6]? = some (.cells #[.string (lastS M k)] 9 (0, 0))) (hc7 : W2.heap[b6 + 1]? = some (.cells #[.int .i64 k] 3 (0, 0))) (hst : Stp (fun x => x = b6 ∨ x = b6 + 1) w7 W2) (hb2 : ∀ x, (x = b6 ∨ x = b6 + 1) → x < W2.heap.size) :
    ∃ O', Stp (fun x => x = b6 ∨ x = b6 + 1) W2 ((W2.setCell ⟨b6, 0, none⟩ (.string y)).setCell ⟨b6 + 1, 0, none⟩ (.int .i64 ((k : Int) + 1))) ∧ Grw (fun x => x = b6 ∨ x = b6 + 1) O' W2 ((W2.setCell ⟨b6, 0, none⟩ (.string y)).setCell ⟨b6 + 1, 0, none⟩ (.int .i64 ((k : Int) + 1))) ∧
      TxJ w7 b6 M (k + 1) ((W2.setCell ⟨b6, 0, none⟩ (.string y)).setCell ⟨b6 + 1, 0, none⟩ (.int .i64 ((k : Int) + 1))) O' := by
  have st : Stp (fun x => x = b6 ∨ x = b6 + 1) W2 ((W2.setCell ⟨b6, 0, none⟩ (.string y)).setCell ⟨b6 + 1, 0, none⟩ (.int .i64 ((k : Int) + 1))) :=
    ((Stp.refl _ W2).setCell (p := ⟨b6, 0, none⟩) (.inl (.inl rfl)) _).setCell (p := ⟨b6 + 1, 0, none⟩) (.inl (.inr rfl)) _
  refine ⟨_, st, fun x hx => ⟨by have := hb2 x hx; have := st.size; omega, .inl hx⟩, rfl, ?_, ?_, hst.then st (fun x hx => .inl hx)⟩
  · rw [lastS_next h]
    refine heap_setCell_ne (a := ⟨b6 + 1, 0, none⟩) ?_ (show b6 ≠ b6 + 1 by omega) _
    have := heap_setCell_same (i := 0) hc6 (.string y)
    simpa using this
  · have := heap_setCell_same (i := 0) (heap_setCell_ne (a := ⟨b6, 0, none⟩) hc7 (show b6 + 1 ≠ b6 by omega) (.string y)) (.int .i64 ((k : Int) + 1))
    simpa using this

set_option maxHeartbeats 4000000 in
set_option maxRecDepth 100000 in
theorem texts_walk (W : World) (g : Option Addr) (c : Nat) (l : List ByteArray) (hA : TextsAt W.heap.size W g l) :
    Calls Try.prog 5 #[.slice g l.length c] W fun e w' => e = .returned (.bool true) ∧ Fr [] W w' := by
  obtain ⟨len, hlq⟩ : ∃ n, l.length = n := ⟨_, rfl⟩
  have HL := Lib.hid hlq
  rw [hlq]
  clear hlq
  have F0 := ((Fr.refl [] W).alloc (.cells #[.slice g len c] 40)).alloc (.cells #[.bool false] 4)
  have hv0 : ((W.alloc (.cells #[.slice g len c] 40)).alloc (.cells #[.bool false] 4)).heap[W.heap.size]? = some (.cells #[.slice g len c] 40 (0, 0)) := heap_alloc_keep (heap_alloc_new W _) _
  have hr0 : ((W.alloc (.cells #[.slice g len c] 40)).alloc (.cells #[.bool false] 4)).heap[W.heap.size + 1]? = some (.cells #[.bool false] 4 (0, 0)) := by
    have := heap_alloc_new (W.alloc (.cells #[.slice g len c] 40)) (.cells #[.bool false] 4)
    rw [World.size_alloc] at this; exact this
  have hs0 : ((W.alloc (.cells #[.slice g len c] 40)).alloc (.cells #[.bool false] 4)).heap.size = W.heap.size + 1 + 1 := by simp
  have HAW := Lib.hid (TabW.awake_any ((W.alloc (.cells #[.slice g len c] 40)).alloc (.cells #[.bool false] 4)))
  by_cases hbig : 60 < len
  · have hbig' : (60 : Int) < (len : Int) := by omega
    clear hA
    go_enter Try.func5, Try.ntmps5
    go_wp2_with fail
    refine HAW.out.mono ?_
    rintro e w1 ⟨rfl, f1⟩
    have hr1 := f1.at hr0 (by simp)
    have qv : w1.cell? ⟨W.heap.size, 0, none⟩ = some (.slice g len c) := cell_of (i := 0) (f1.at hv0 (by simp)) rfl
    have q1 : w1.cell? ⟨W.heap.size + 1, 0, none⟩ = some (.bool false) := cell_of (i := 0) hr1 rfl
    have z1 : w1.frozen? ⟨W.heap.size + 1, 0, none⟩ = false := frozen_of hr1
    have FIN := Lib.hid (((F0.trans f1).setCell (p := ⟨W.heap.size + 1, 0, none⟩) (.inr (Nat.le_succ _)) (.bool true)))
    have HR := Lib.hid (cell_of (i := 0) (heap_setCell_same (i := 0) hr1 (.bool true)) rfl)
    clear f1 hr1 F0 hv0 hr0 hs0 HAW
    go_wp2_with fail
    refine bodyPost_ret (v := .bool true) ?_ rfl ⟨rfl, FIN.out⟩
    have hr3 := HR.out
    simp [results, Try.f5, go_sem, hr3]
  have hsm : len ≤ 60 := by omega
  have hbig' : ¬ (60 : Int) < (len : Int) := by omega
  have HA := Lib.hid hA
  have H0 := Lib.hid F0; have HV0 := Lib.hid hv0; have HR0 := Lib.hid hr0; have HS0 := Lib.hid hs0
  clear hA F0 hv0 hr0 hs0
  have e1 := fun (wx : World) (bx : Nat) => run_eql_func_nil (P := Try.prog) wx Try.underlying45 (.func 40) #[] #[.pointer (some ⟨bx, 0, none⟩)]
  refine (callsIn_wide (n := 3)).1 (callsIn_of_wp_marks Try.func5 rfl trivial (wpIn_wide.2 ?_) rfl)
  simp only [Try.ntmps5, List.size_toArray, List.length_cons, List.length_nil, Nat.reduceAdd, Nat.reduceSub, Array.replicate_succ, Array.replicate_zero, List.push_toArray, List.append_toArray, List.nil_append, List.cons_append]
  go_wp2_with fail
  refine HAW.out.mono ?_
  rintro e w1 ⟨rfl, f1⟩
  have F1 := Lib.hid (H0.out.trans f1)
  have HV1 := Lib.hid (f1.at HV0.out (by simp)); have HR1 := Lib.hid (f1.at HR0.out (by simp))
  have hs1 : W.heap.size + 1 + 1 ≤ w1.heap.size := by rw [← HS0.out]; exact f1.size
  have qv1 : w1.cell? ⟨W.heap.size, 0, none⟩ = some (.slice g len c) := cell_of (i := 0) HV1.out rfl
  clear f1 HAW H0 HV0 HR0 HS0
  go_wp2_with fail
  refine (new_any w1).mono ?_
  rintro e w2 ⟨p, rfl, hp, t2, f2⟩
  have F2 := Lib.hid (F1.out.trans f2)
  have HV2 := Lib.hid (f2.at HV1.out (by simp)); have HR2 := Lib.hid (f2.at HR1.out (by simp))
  have hs2 := f2.size
  obtain ⟨B, hB⟩ : ∃ B, w1.heap.size = B := ⟨_, rfl⟩
  obtain ⟨b, hb⟩ : ∃ b, W.heap.size = b := ⟨_, rfl⟩
  rw [hB] at t2 hp hs1 hs2
  rw [hb] at HV2 HR2 hs1
  have HAA := Lib.hid HA.out
  rw [hb] at HAA
  rw [hb]
  have HBb := Lib.hid hb
  have T2 := Lib.hid t2
  clear f2 F1 HV1 HR1 hB hb t2 qv1 HA
  go_wp2_with fail
  go_loopw [5] (fun s5 wr => ∃ (i : Nat) (M : List (ByteArray × Int)), i ≤ len ∧ s5 = .int .i64 i ∧ TabAt B wr p M ∧ TxI l i M ∧ Lo B w2 wr) (fun s5 _ => len - (intOf s5).toNat)
  case atStart => exact ⟨0, [], Nat.zero_le _, rfl, T2.out, ⟨Nat.le_refl _, by simp, fun j y hj => absurd hj (Nat.not_lt_zero _)⟩, [], Fr.refl _ _, by simp⟩
  case round =>
    obtain ⟨i, M, hi, rfl, ht, htx, hlo⟩ := hrel
    obtain ⟨w3, rfl⟩ : ∃ x, x = wr := ⟨_, rfl⟩
    have qv : w3.cell? ⟨b, 0, none⟩ = some (.slice g len c) := lo_cell hlo (cell_of (i := 0) HV2.out rfl) (by show b < B; omega)
    by_cases hlt : i < len
    · obtain ⟨y, hy⟩ : ∃ y, l[i]? = some y := ⟨_, List.getElem?_eq_getElem (by have := HL.out; omega)⟩
      obtain ⟨bg, og, rfl, hbg, d0⟩ := HAA.out i y hy
      have d1 : w3.cell? ⟨bg, og + i, none⟩ = some (.string y) := lo_cell hlo (F2.out.cell d0 (by simp)) (by show bg < B; omega)
      have hlt' : (i : Int) < (len : Int) := by omega
      have HPU := Lib.hid (put_any B w3 p M y (i : Int) (by have := htx.few; omega) (by have := lo_size hlo; omega) ht)
      have HTX := Lib.hid (htx.next ht.up hy)
      have HLO := Lib.hid hlo
      simp only [kv, vv] at HPU
      clear hy ht htx hlo d0 hbg
      go_wp2_with fail
      refine HPU.out.mono ?_
      rintro en w4 ⟨rfl, t4, l4⟩
      have FT := Lib.hid t4; have FL := Lib.hid (lo_trans HLO.out l4)
      clear t4 l4
      go_wp2_with fail
      go_roundw
      case rel => exact ⟨i + 1, _, by omega, by go_num, FT.out, HTX.out, FL.out⟩
      case measure => simp [intOf]; omega
    · obtain rfl : i = len := by omega
      obtain ⟨s, hts, hth, hsap, hslow⟩ := ht.at_
      have hpl := heap_lt hts
      have hrl : ∀ x ∈ rowsOf s, x < w3.heap.size := fun x hx => by
        rcases hth with ⟨_, rfl⟩ | ⟨q, cq, rfl, _, _, hr⟩
        · simp [rowsOf] at hx
        · simp [rowsOf] at hx; subst hx; exact hr.lt
      have T3 := Lib.hid (show TabX w3 p s M from ⟨hts, hth, hsap, ht.up⟩)
      have HTX := Lib.hid htx
      have HSL := Lib.hid hslow; have HRL := Lib.hid hrl
      have HV3 := Lib.hid (lo_at hlo HV2.out (by omega)); have HR3 := Lib.hid (lo_at hlo HR2.out (by omega))
      have HLO := Lib.hid hlo
      have hs3 := lo_size hlo
      have hfew := htx.few
      have F5 : Fr [] w3 ((w3.alloc (.cells #[.string ⟨#[]⟩] 9)).alloc (.cells #[.int .i64 0] 3)) := ((Fr.refl [] w3).alloc _).alloc _
      have h65 := heap_alloc_keep (heap_alloc_new w3 (.cells #[.string ⟨#[]⟩] 9)) (.cells #[.int .i64 0] 3)
      have h75 := heap_alloc_new (w3.alloc (.cells #[.string ⟨#[]⟩] 9)) (.cells #[.int .i64 0] 3)
      rw [World.size_alloc] at h75
      have hs5 : ((w3.alloc (.cells #[.string ⟨#[]⟩] 9)).alloc (.cells #[.int .i64 0] 3)).heap.size = w3.heap.size + 1 + 1 := by simp
      have HAF := Lib.hid (all_fn ((w3.alloc (.cells #[.string ⟨#[]⟩] 9)).alloc (.cells #[.int .i64 0] 3)) p)
      clear ht htx hts hth hsap hslow hrl hlo
      go_wp2_with fail
      refine HAF.out.mono ?_
      rintro en w7 ⟨bx, rfl, hbx, f7⟩
      have F37 := F5.trans f7
      have T7 := Lib.hid (tabX_fr T3.out F37 (by simp) (by simp))
      have H6 := Lib.hid (f7.at h65 (by simp)); have H7 := Lib.hid (f7.at h75 (by simp))
      have HV7 := Lib.hid (F37.at HV3.out (by simp)); have HR7 := Lib.hid (F37.at HR3.out (by simp))
      have hs7 : w3.heap.size + 1 + 1 ≤ w7.heap.size := by rw [← hs5]; exact f7.size
      have HLO7 := Lib.hid (lo_trans HLO.out ⟨[], F37, by simp⟩)
      have HIT := Lib.hid (all_iter w7 p bx s M (by omega) hbx T7.out.tab T7.out.th)
      clear h65 h75 F5 hs5 HAF f7 F37 HV3 HR3 hbx T3 HLO
      obtain ⟨b6, hb6⟩ : ∃ x, w3.heap.size = x := ⟨_, rfl⟩
      rw [hb6] at H6 H7 HRL hpl hs7 hs3
      rw [hb6]
      clear hb6
      go_wp2
      refine wp_range (xs := M) (enc := encP) rfl (fun _ _ => rfl) HIT.out (fun x => rfl)
        (TxJ w7 b6 M) (fun _ _ _ _ => False) TxJ.stable (fun _ _ _ _ _ h _ _ _ _ _ => h)
        (fun x => x = b6 ∨ x = b6 + 1) (fun x hx => by rcases hx with h | h <;> omega)
        ⟨rfl, H6.out, H7.out, Stp.refl _ _⟩ ?round ?done ?stop
      case round =>
        rintro l' k ⟨y, v⟩ W1 O1 hx
        simp only [encP, kv, vv, List.zip_toArray, List.zip_cons_cons, List.zip_nil_right, List.foldl_toArray', List.foldl_cons, List.foldl_nil, List.setIfInBounds_toArray, List.set_cons_zero, List.set_cons_succ]
        have HX := Lib.hid hx; clear hx
        gi_wp2
        refine ⟨rfl, ?_⟩
        rintro W2 ⟨rfl, hc6, hc7, hst⟩ hb2 hsz2
        have q6 : W2.cell? ⟨b6, 0, none⟩ = some (.string (lastS M k)) := cell_of (i := 0) hc6 rfl
        have q7 : W2.cell? ⟨b6 + 1, 0, none⟩ = some (.int .i64 k) := cell_of (i := 0) hc7 rfl
        have z6 : W2.frozen? ⟨b6, 0, none⟩ = false := frozen_of hc6
        have z7 : W2.frozen? ⟨b6 + 1, 0, none⟩ = false := frozen_of hc7
        have qv : W2.cell? ⟨b, 0, none⟩ = some (.slice g i c) := hst.cell (cell_of (i := 0) HV7.out rfl) (by show ¬ (b = b6 ∨ b = b6 + 1); omega)
        obtain ⟨j, hj, hvj, hlj⟩ := HTX.out.what (y, v) (List.mem_of_getElem? HX.out)
        dsimp only at hvj hlj
        subst hvj
        obtain ⟨bg, og, rfl, hbg, d0⟩ := HAA.out j y hlj
        have d1 : W2.cell? ⟨bg, og + j, none⟩ = some (.string y) := hst.cell (lo_cell HLO7.out (F2.out.cell d0 (by simp)) (by show bg < B; omega)) (by show ¬ (bg = b6 ∨ bg = b6 + 1); omega)
        have hji : (j : Int) < (i : Int) := by omega
        have hj0 : (0 : Int) ≤ (j : Int) := by omega
        have hkb : k ≤ 1000 := by have := (List.getElem?_eq_some_iff.1 HX.out).1; omega
        by_cases hk0 : k = 0
        · have hk0' : ¬ (0 : Int) < (k : Int) := by omega
          have FIN := Lib.hid (TxJ.next HX.out hc6 hc7 hst hb2)
          clear hk0 hc6 hc7 hst hb2 d0
          generalize lastS M k = la at q6
          gi_wp2
          exact FIN.out
        · have hk0' : (0 : Int) < (k : Int) := by omega
          obtain ⟨⟨y0, v0'⟩, hx0⟩ : ∃ x, M[k - 1]? = some x := ⟨_, List.getElem?_eq_getElem (by have := (List.getElem?_eq_some_iff.1 HX.out).1; omega)⟩
          have hla : lastS M k = y0 := by
            unfold lastS
            rw [if_neg hk0, hx0]; rfl
          have hlt0 : ltS y0 y = true := T7.out.up (k - 1) k _ _ (by omega) hx0 HX.out
          have hlt1 : Op.bytesLess y0.toList y.toList = true := hlt0
          have hlt2 : Op.bytesLess y.toList y0.toList = false := ordS.asymm hlt0
          have hne2 : ¬ y.toList = y0.toList := fun e => by rw [e, less_irrefl] at hlt1; cases hlt1
          have hne3 : (y.toList == y0.toList) = false := by simpa using hne2
          have FIN := Lib.hid (TxJ.next HX.out hc6 hc7 hst hb2)
          rw [hla] at q6
          clear hk0 hc6 hc7 hst hb2 d0 hla hlt0 hx0
          gi_wp2
          exact FIN.out
      case done =>
        rintro D W' O' hD ⟨rfl, hc6, hc7, hst⟩ _ _ hK hnD
        have t1 : TabX W' p s M := ⟨hst.at T7.out.tab (by show ¬ (p = b6 ∨ p = b6 + 1); omega), by
          rcases T7.out.th with h | ⟨q, cq, h1, h2, h3, h4⟩
          · exact .inl h
          · refine .inr ⟨q, cq, h1, h2, h3, ?_⟩
            obtain ⟨cur, g1, g2, g3⟩ := h4.row
            have hqb := HRL.out q (by rw [h1]; simp [rowsOf])
            exact ⟨cur, hst.at g1 (by show ¬ (q = b6 ∨ q = b6 + 1); omega), g2, g3⟩, T7.out.apart, T7.out.up⟩
        have hvW := hst.at HV7.out (by show ¬ (b = b6 ∨ b = b6 + 1); omega)
        have hrW := hst.at HR7.out (by show ¬ (b + 1 = b6 ∨ b + 1 = b6 + 1); omega)
        have htW : ∀ (j : Nat) (y : ByteArray), l[j]? = some y → ∃ bg og, g = some ⟨bg, og, none⟩ ∧ bg < b ∧ W'.cell? ⟨bg, og + j, none⟩ = some (.string y) := fun j y hy => by
          obtain ⟨bg, og, h1, h2, d0⟩ := HAA.out j y hy
          exact ⟨bg, og, h1, h2, hst.cell (lo_cell HLO7.out (F2.out.cell d0 (by simp)) (by show bg < B; omega)) (by show ¬ (bg = b6 ∨ bg = b6 + 1); omega)⟩
        have FW := Lib.hid (show Stp (fun x => B ≤ x) W W' from ((Stp.of_fr F2.out).mono (fun x hx => by simp at hx)).then (show Stp (fun x => B ≤ x) w2 W' from by
          obtain ⟨S, h1, h2⟩ := HLO7.out
          exact ((Stp.of_fr h1).mono (fun x hx => h2 x hx)).then hst (fun x hx => .inl (by rcases hx with h | h <;> (show B ≤ x; omega)))) (fun x hx => .inl hx))
        have T1 := Lib.hid t1; have HVW := Lib.hid hvW; have HRW := Lib.hid hrW; have HTW := Lib.hid htW; have HK := Lib.hid hK; have HC7 := Lib.hid hc7
        have hDl := heap_lt hK
        have hpB : B ≤ p := hp
        clear t1 hvW hrW htW hK hc6 hc7 hst hnD
        go_wp2_with fail
        go_loopw [11] (fun s11 wr => ∃ (m : Nat) (M' : List (ByteArray × Int)) (s' : Value), m ≤ i ∧ s11 = .int .i64 m ∧ TabX wr p s' M' ∧ rowsOf s' = rowsOf s ∧ wr.heap[b6 + 1]? = some (.cells #[.int .i64 M'.length] 3 (0, 0)) ∧ Stp (fun x => x = b6 + 1 ∨ x = p ∨ x ∈ rowsOf s) W' wr ∧ M'.length ≤ 60 ∧ ∀ x ∈ M', x ∈ M ∧ ∀ y ∈ l.take m, y ≠ x.1) (fun s11 _ => i - (intOf s11).toNat)
        case atStart => exact ⟨0, M, s, Nat.zero_le _, rfl, T1.out, rfl, HC7.out, Stp.refl _ _, by omega, fun x hx => ⟨hx, by simp⟩⟩
        case round =>
          obtain ⟨m, M', s', hm, rfl, tx, hrow, hc, hst, hml, hmm⟩ := hrel
          obtain ⟨w8, rfl⟩ : ∃ x, x = wr := ⟨_, rfl⟩
          have nz : ∀ z, z ≤ b + 1 → ¬ (z = b6 + 1 ∨ z = p ∨ z ∈ rowsOf s) := fun z hz h => by
            rcases h with h | h | h
            · omega
            · omega
            · have := HSL.out z h; omega
          have qv : w8.cell? ⟨b, 0, none⟩ = some (.slice g i c) := hst.cell (cell_of (i := 0) HVW.out rfl) (nz b (by omega))
          by_cases hmi : m < i
          · obtain ⟨y, hy⟩ : ∃ y, l[m]? = some y := ⟨_, List.getElem?_eq_getElem (by have := HL.out; omega)⟩
            obtain ⟨bg, og, rfl, hbg, d0⟩ := HTW.out m y hy
            have d1 : w8.cell? ⟨bg, og + m, none⟩ = some (.string y) := hst.cell d0 (nz bg (by omega))
            have hmi' : (m : Int) < (i : Int) := by omega
            have HD := Lib.hid (drop_x w8 p s' M' y (by omega) tx)
            simp only [kv] at HD
            have hnext : ∀ x ∈ drp M' y, x ∈ M ∧ ∀ z ∈ l.take (m + 1), z ≠ x.1 := fun x hx => by
              obtain ⟨h1, h2⟩ := (mem_drp ord tx.up y x).1 hx
              refine ⟨(hmm x h1).1, fun z hz => ?_⟩
              rw [List.take_add_one, hy] at hz
              rcases List.mem_append.1 hz with h | h
              · exact (hmm x h1).2 z h
              · simp at h; subst h; exact fun e => h2 e.symm
            have hlen := len_drpG (lt := lt) M' y
            have HNX := Lib.hid hnext
            have n7 : b6 + 1 ∉ p :: rowsOf s' := by
              rw [hrow]
              intro h
              rcases List.mem_cons.1 h with h | h
              · omega
              · have := HRL.out _ h; omega
            have q7 : w8.cell? ⟨b6 + 1, 0, none⟩ = some (.int .i64 M'.length) := cell_of (i := 0) hc rfl
            have HROW := Lib.hid hrow; have HST := Lib.hid hst; have HC := Lib.hid hc
            clear hy d0 hmm hnext tx hst hc
            obtain ⟨hh, hhh⟩ : ∃ x, has lt M' y = x := ⟨_, rfl⟩
            have hpos : hh = true → 1 ≤ M'.length := fun e => by have := at_lt (hhh.trans e); omega
            rw [hhh] at HD hlen
            have hlen' : (drp M' y).length = if hh = true then M'.length - 1 else M'.length := hlen
            obtain ⟨N', hN'⟩ : ∃ x, M'.length = x := ⟨_, rfl⟩
            rw [hN'] at hml q7 HC hpos hlen'
            have HLE := Lib.hid hlen'
            clear hlen hhh hN' hlen'
            cases hh with
            | true =>
              have hp1 := hpos rfl
              obtain ⟨N, rfl⟩ : ∃ N, N' = N + 1 := ⟨N' - 1, by omega⟩
              clear hpos
              go_wp2_with fail
              refine HD.out.mono ?_
              rintro en w9 ⟨rfl, s9, tx9, ht9, hr9⟩
              have hc9 := ht9.1.at HC.out n7
              have q9 : w9.cell? ⟨b6 + 1, 0, none⟩ = some (.int .i64 ((N + 1 : Nat) : Int)) := cell_of (i := 0) hc9 rfl
              have z9 : w9.frozen? ⟨b6 + 1, 0, none⟩ = false := frozen_of hc9
              have hsub : ((N + 1 : Nat) : Int) - 1 = (N : Int) := by omega
              have FIN := Lib.hid (show TabX (w9.setCell ⟨b6 + 1, 0, none⟩ (.int .i64 N)) p s9 (drp M' y) ∧ rowsOf s9 = rowsOf s ∧ (w9.setCell ⟨b6 + 1, 0, none⟩ (.int .i64 N)).heap[b6 + 1]? = some (.cells #[.int .i64 (drp M' y).length] 3 (0, 0)) ∧ Stp (fun x => x = b6 + 1 ∨ x = p ∨ x ∈ rowsOf s) W' (w9.setCell ⟨b6 + 1, 0, none⟩ (.int .i64 N)) ∧ (drp M' y).length ≤ 60 from by
                have hl : (drp M' y).length = N := by rw [HLE.out]; simp
                refine ⟨tabX_fr tx9 ((Fr.refl [b6 + 1] w9).setCell (.inl (by simp)) _) (by simp; omega) (fun x hx h => ?_), by rw [hr9, HROW.out], ?_, ?_, by omega⟩
                · simp at h
                  subst h
                  rw [hr9] at hx
                  exact n7 (List.mem_cons_of_mem _ hx)
                · rw [hl]
                  have := heap_setCell_same (i := 0) hc9 (.int .i64 N)
                  simpa using this
                · exact (HST.out.then (Stp.of_fr ht9.1) (fun x hx => .inl (by
                    rcases List.mem_cons.1 hx with h | h
                    · exact .inr (.inl h)
                    · exact .inr (.inr (by rw [← HROW.out]; exact h))))).setCell (p := ⟨b6 + 1, 0, none⟩) (.inl (.inl rfl)) _)
              clear ht9 tx9 hr9 hc9
              go_wp2
              go_roundw
              case rel => exact ⟨m + 1, _, s9, by omega, by go_num, FIN.out.1, FIN.out.2.1, FIN.out.2.2.1, FIN.out.2.2.2.1, FIN.out.2.2.2.2, HNX.out⟩
              case measure => simp [intOf]; omega
            | false =>
              clear hpos
              go_wp2_with fail
              refine HD.out.mono ?_
              rintro en w9 ⟨rfl, s9, tx9, ht9, hr9⟩
              have hc9 := ht9.1.at HC.out n7
              have hl : (drp M' y).length = N' := by rw [HLE.out]; rfl
              have FIN := Lib.hid (show TabX w9 p s9 (drp M' y) ∧ rowsOf s9 = rowsOf s ∧ w9.heap[b6 + 1]? = some (.cells #[.int .i64 (drp M' y).length] 3 (0, 0)) ∧ Stp (fun x => x = b6 + 1 ∨ x = p ∨ x ∈ rowsOf s) W' w9 ∧ (drp M' y).length ≤ 60 from
                ⟨tx9, by rw [hr9, HROW.out], by rw [hl]; exact hc9, HST.out.then (Stp.of_fr ht9.1) (fun x hx => .inl (by
                    rcases List.mem_cons.1 hx with h | h
                    · exact .inr (.inl h)
                    · exact .inr (.inr (by rw [← HROW.out]; exact h)))), by omega⟩)
              clear ht9 tx9 hr9 hc9 hl
              go_wp2
              go_roundw
              case rel => exact ⟨m + 1, _, s9, by omega, by go_num, FIN.out.1, FIN.out.2.1, FIN.out.2.2.1, FIN.out.2.2.2.1, FIN.out.2.2.2.2, HNX.out⟩
              case measure => simp [intOf]; omega
          · obtain rfl : m = i := by omega
            have hM : M' = [] := by
              cases M' with
              | nil => rfl
              | cons x M' =>
                obtain ⟨h1, h2⟩ := hmm x (List.mem_cons_self ..)
                obtain ⟨j, hj, _, hlj⟩ := HTX.out.what x h1
                exact absurd rfl (h2 x.1 (by rw [List.take_of_length_le (by rw [HL.out]; exact Nat.le_refl _)]; exact List.mem_of_getElem? hlj))
            subst hM
            have HLS := Lib.hid (least_any w8 p s' [] (by simp) tx.tab tx.th)
            simp only [leastV, kv, vv, k0, v0] at HLS
            have hr8 := hst.at HRW.out (nz (b + 1) (by omega))
            have hK8 := hst.at HK.out (by rintro (h | h | h); omega; omega; have := HRL.out D h; omega)
            have F8 := FW.out.then hst (fun x hx => .inl (by
              rcases hx with h | h | h
              · show B ≤ x; omega
              · show B ≤ x; omega
              · exact HSL.out x h))
            simp only [List.length_nil] at hc
            have HC8 := Lib.hid hc; have HR8 := Lib.hid hr8; have HK8 := Lib.hid hK8; have HF8 := Lib.hid F8
            have hbW := HBb.out
            clear tx hrow hc hst hml hmm hr8 hK8 F8 nz
            go_wp2_with fail
            refine HLS.out.mono ?_
            rintro en w9 ⟨rfl, f9⟩
            have q7 : w9.cell? ⟨b6 + 1, 0, none⟩ = some (.int .i64 0) := cell_of (i := 0) (f9.at HC8.out (by simp)) rfl
            have hr9 := f9.at HR8.out (by simp)
            have qr : w9.cell? ⟨b + 1, 0, none⟩ = some (.bool false) := cell_of (i := 0) hr9 rfl
            have zr : w9.frozen? ⟨b + 1, 0, none⟩ = false := frozen_of hr9
            have hK9 := f9.at HK8.out (by simp)
            have hDr : D ≠ b + 1 := by omega
            have fin : Fr [] W ((w9.setCell ⟨b + 1, 0, none⟩ (.bool true)).putObj D (.deferred none)) := by
              have h1 := HF8.out.then (Stp.of_fr f9) (fun x hx => by simp at hx)
              refine ((h1.setCell (p := ⟨b + 1, 0, none⟩) (.inr (by show W.heap.size ≤ b + 1; omega)) _).putObj (.inr (by omega)) _).to_fr (fun x hx => .inr ?_)
              have : B ≤ x := hx
              omega
            have c1 := heap_setCell_same (i := 0) hr9 (.bool true)
            have hr : ((w9.setCell ⟨b + 1, 0, none⟩ (.bool true)).putObj D (.deferred none)).cell? ⟨b + 1, 0, none⟩ = some (.bool true) := by
              refine cell_of (i := 0) (c := #[.bool true]) (t := 4) (z := (0, 0)) ?_ rfl
              rw [World.putObj_heap_other (fun e => hDr e.symm)]
              simpa using c1
            have hK2 : (w9.setCell ⟨b + 1, 0, none⟩ (.bool true)).heap[D]? = some (.deferred (some [])) := (Below.heap_setCell _ _ _ _ hDr).trans hK9
            have FIN := Lib.hid fin; have HR := Lib.hid hr; have HK2 := Lib.hid hK2
            clear fin hr hK2 c1 hr9 hK9 f9
            go_wp2_with fail
            refine leave_ret_at (.bool true) HK2.out ?_ ⟨rfl, FIN.out⟩
            have hr3 := HR.out
            simp [results, Try.f5, go_sem, hr3]
      case stop => exact fun _ _ _ _ _ _ _ h => h.elim

end Go.Proofs.Ytamnmpcnhaeigaa.TabS

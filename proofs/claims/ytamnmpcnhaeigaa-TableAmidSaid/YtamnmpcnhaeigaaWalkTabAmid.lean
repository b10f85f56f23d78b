/- TableAmid: the walk. Printed by gen_amid.py. -/
import Derived.Test.YtamnmpcnhaeigaaTabAm
namespace Go.Proofs.Ytamnmpcnhaeigaa.TabI
open Go.RowKit Go.Shelf
attribute [local go_sem] Oper.semAt_some
set_option linter.unusedVariables false

theorem TabX.fr {w w' : World} {p : Nat} {s : Value} {L : List (Int × Int)} (h : TabX w p s L) (f : Fr [] w w') : TabX w' p s L := ⟨f.at h.tab (by simp), h.th.fr f, h.apart, h.up⟩
theorem TabX.at0 {w : World} {p : Nat} {s : Value} {L : List (Int × Int)} (h : TabX w p s L) : TabAt 0 w p L := ⟨⟨s, h.tab, h.th, h.apart, fun _ _ => Nat.zero_le _⟩, Nat.zero_le _, h.up⟩

set_option maxHeartbeats 4000000 in
set_option maxRecDepth 100000 in
theorem amid_walk (W : World) (g : Option Addr) (c : Nat) (l : List (Int × Int)) (v : Int) (hA : PairsAt W.heap.size W g l) :
    Calls Try.prog 4 #[.slice g l.length c, .int .i64 v] W fun e w' => e = .returned (.bool true) ∧ Fr [] W w' := by
  have F0 := ((Fr.refl [] W).alloc (.cells #[.int .i64 v] 3)).alloc (.cells #[.bool false] 4)
  have hv0 : ((W.alloc (.cells #[.int .i64 v] 3)).alloc (.cells #[.bool false] 4)).heap[W.heap.size]? = some (.cells #[.int .i64 v] 3 (0, 0)) := heap_alloc_keep (heap_alloc_new W _) _
  have hr0 : ((W.alloc (.cells #[.int .i64 v] 3)).alloc (.cells #[.bool false] 4)).heap[W.heap.size + 1]? = some (.cells #[.bool false] 4 (0, 0)) := by
    have := heap_alloc_new (W.alloc (.cells #[.int .i64 v] 3)) (.cells #[.bool false] 4)
    rw [World.size_alloc] at this; exact this
  have hs0 : ((W.alloc (.cells #[.int .i64 v] 3)).alloc (.cells #[.bool false] 4)).heap.size = W.heap.size + 1 + 1 := by simp
  have HAW := Lib.hid (TabW.awake_any ((W.alloc (.cells #[.int .i64 v] 3)).alloc (.cells #[.bool false] 4)))
  by_cases hbig : 60 < l.length
  · have hbig' : (60 : Int) < (l.length : Int) := by omega
    clear hA
    go_enter Try.func4, Try.ntmps4
    go_wp2_with fail
    refine HAW.out.mono ?_
    rintro e w1 ⟨rfl, f1⟩
    have hr1 := f1.at hr0 (by simp)
    have q1 : w1.cell? ⟨W.heap.size + 1, 0, none⟩ = some (.bool false) := cell_of (i := 0) hr1 rfl
    have z1 : w1.frozen? ⟨W.heap.size + 1, 0, none⟩ = false := frozen_of hr1
    have FIN := Lib.hid (((F0.trans f1).setCell (p := ⟨W.heap.size + 1, 0, none⟩) (.inr (Nat.le_succ _)) (.bool true)))
    have HR := Lib.hid (cell_of (i := 0) (heap_setCell_same (i := 0) hr1 (.bool true)) rfl)
    clear f1 hr1 F0 hv0 hr0 hs0 HAW
    go_wp2_with fail
    refine bodyPost_ret (v := .bool true) ?_ rfl ⟨rfl, FIN.out⟩
    have hr3 := HR.out
    simp [results, Try.f4, go_sem, hr3]
  have hsm : l.length ≤ 60 := by omega
  have hbig' : ¬ (60 : Int) < (l.length : Int) := by omega
  have HA := Lib.hid fun (w : World) (f : Fr [] W w) => hA.fr f
  have H0 := Lib.hid F0; have HV0 := Lib.hid hv0; have HR0 := Lib.hid hr0; have HS0 := Lib.hid hs0
  obtain ⟨len, hlq⟩ : ∃ n, l.length = n := ⟨_, rfl⟩
  have HL := Lib.hid hlq
  rw [hlq] at hsm hbig' ⊢
  clear hA F0 hv0 hr0 hs0 hlq
  have hmix : Try.prog.follows .mixedOrders = true := by kernel_rfl
  have e1 := fun (wx : World) (bx : Nat) => run_eql_func_nil (P := Try.prog) wx Try.underlying34 (.func 34) #[] #[.pointer (some ⟨bx, 0, none⟩)]
  refine (callsIn_wide (n := 3)).1 (callsIn_of_wp_marks Try.func4 rfl trivial (wpIn_wide.2 ?_) rfl)
  simp only [Try.ntmps4, List.size_toArray, List.length_cons, List.length_nil, Nat.reduceAdd, Nat.reduceSub, Array.replicate_succ, Array.replicate_zero, List.push_toArray, List.append_toArray, List.nil_append, List.cons_append]
  go_wp2_with fail
  refine HAW.out.mono ?_
  rintro e w1 ⟨rfl, f1⟩
  have F1 := Lib.hid (H0.out.trans f1)
  have HV1 := Lib.hid (f1.at HV0.out (by simp)); have HR1 := Lib.hid (f1.at HR0.out (by simp))
  have hs1 : W.heap.size + 1 + 1 ≤ w1.heap.size := by rw [← HS0.out]; exact f1.size
  have HFL := Lib.hid (filled_any w1 g c l (by rw [HL.out]; exact hsm) ((HA.out w1 F1.out).up F1.out.size))
  rw [HL.out] at HFL
  clear f1 HAW H0 HV0 HR0 HS0
  go_wp2_with fail
  refine HFL.out.mono ?_
  rintro e w2 ⟨p, rfl, t2, f2⟩
  have hpl := t2.lt
  have hpb := t2.low
  have F2 := Lib.hid (F1.out.trans f2)
  have HV2 := Lib.hid (f2.at HV1.out (by simp)); have HR2 := Lib.hid (f2.at HR1.out (by simp))
  have hs2 := f2.size
  have hLL : (fillL l).length ≤ 60 := Nat.le_trans (len_fill l) (by rw [HL.out]; exact hsm)
  obtain ⟨L, hL⟩ : ∃ L, fillL l = L := ⟨_, rfl⟩
  rw [hL] at t2 hLL
  obtain ⟨s, hts, hth, hsap, hslow⟩ := t2.at_
  have hup := t2.up
  have hrl : ∀ x ∈ rowsOf s, x < w2.heap.size := fun x hx => by
    rcases hth with ⟨_, rfl⟩ | ⟨q, cq, rfl, _, _, hr⟩
    · simp [rowsOf] at hx
    · simp [rowsOf] at hx; subst hx; exact hr.lt
  have T2 := Lib.hid (show TabX w2 p s L from ⟨hts, hth, hsap, hup⟩)
  have HSL := Lib.hid hslow; have HRL := Lib.hid hrl
  clear f2 hL t2 hts hth hsap hslow hup hrl HFL F1 HV1 HR1
  obtain ⟨n, hnn⟩ : ∃ n, L.length = n := ⟨_, rfl⟩
  have HNL := Lib.hid hnn
  have hbt := heap_alloc_new w2 (.cells #[.pointer (some ⟨p, 0, none⟩)] 26)
  have hs3 : (w2.alloc (.cells #[.pointer (some ⟨p, 0, none⟩)] 26)).heap.size = w2.heap.size + 1 := by simp
  have F3 : Fr [] w2 (w2.alloc (.cells #[.pointer (some ⟨p, 0, none⟩)] 26)) := (Fr.refl [] w2).alloc _
  have T3 := Lib.hid (T2.out.fr F3)
  have HALL := Lib.hid (all_tab 0 _ p L hLL T3.out.at0)
  rw [hnn] at hLL
  go_wp2_with fail
  refine HALL.out.mono ?_
  rintro e w4 ⟨ga, ca, rfl, hla, f4⟩
  rw [hnn]
  have HLA := Lib.hid hla
  have F24 := F3.trans f4
  have hbt4 := f4.at hbt (by simp)
  have HV4 := Lib.hid (F24.at HV2.out (by simp)); have HR4 := Lib.hid (F24.at HR2.out (by simp))
  have T4 := Lib.hid (T2.out.fr F24)
  have F4 := Lib.hid (F2.out.trans F24)
  have hs4 : w2.heap.size + 1 ≤ w4.heap.size := by rw [← hs3]; exact f4.size
  clear hla f4 hbt F3 F24 T3 HALL hs3 HV2 HR2
  have hbw5 := heap_alloc_new w4 (.cells #[.slice ga n ca] 22)
  have F5 : Fr [] w4 ((w4.alloc (.cells #[.slice ga n ca] 22)).alloc (.cells #[.int .i64 0] 3)) := ((Fr.refl [] w4).alloc _).alloc _
  have hbn6 := heap_alloc_new (w4.alloc (.cells #[.slice ga n ca] 22)) (.cells #[.int .i64 0] 3)
  rw [World.size_alloc] at hbn6
  have hbw6 := heap_alloc_keep hbw5 (.cells #[.int .i64 0] 3)
  have hs6 : ((w4.alloc (.cells #[.slice ga n ca] 22)).alloc (.cells #[.int .i64 0] 3)).heap.size = w4.heap.size + 1 + 1 := by simp
  have q6 := cell_of (i := 0) (F5.at hbt4 (by simp)) rfl
  have HAF := Lib.hid (all_fn ((w4.alloc (.cells #[.slice ga n ca] 22)).alloc (.cells #[.int .i64 0] 3)) p)
  go_wp2_with fail
  refine HAF.out.mono ?_
  rintro e w7 ⟨bx, rfl, hbx, f7⟩
  have F47 := F5.trans f7
  have T7 := Lib.hid (T4.out.fr F47)
  have HBW := Lib.hid (f7.at hbw6 (by simp)); have HBN := Lib.hid (f7.at hbn6 (by simp)); have HBT := Lib.hid (F47.at hbt4 (by simp))
  have HV7 := Lib.hid (F47.at HV4.out (by simp)); have HR7 := Lib.hid (F47.at HR4.out (by simp))
  have HL7 := Lib.hid (HLA.out.1.fr F47)
  have HLL := Lib.hid (show ∀ a, ga = some a → w2.heap.size + 1 ≤ a.block from by have := HLA.out.2; rw [World.size_alloc] at this; exact this)
  have F7 := Lib.hid (F4.out.trans F47)
  have hs7 : w4.heap.size + 1 + 1 ≤ w7.heap.size := by rw [← hs6]; exact f7.size
  have HIT := Lib.hid (all_iter w7 p bx s L (by omega) hbx T7.out.tab T7.out.th)
  clear hbt4 hbw5 hbw6 hbn6 F5 hs6 HAF f7 F47 HV4 HR4 T4 F4 hbx
  obtain ⟨b, hb⟩ : ∃ b, W.heap.size = b := ⟨_, rfl⟩
  obtain ⟨bt, hbt⟩ : ∃ b, w2.heap.size = b := ⟨_, rfl⟩
  obtain ⟨bw, hbw⟩ : ∃ b, w4.heap.size = b := ⟨_, rfl⟩
  rw [hb] at HV7 HR7 hs1
  rw [hbt] at HBT HRL hs4 hs2 hpl HLL
  rw [hbw] at HBW HBN HL7 hs7 hs4
  rw [hb, hbt, hbw]
  have hpb' : b + 1 + 1 ≤ p := by omega
  have hbW : W.heap.size ≤ b := by omega
  have HSL' := Lib.hid (show ∀ x ∈ rowsOf s, b + 1 + 1 ≤ x from fun x hx => by have := HSL.out x hx; omega)
  clear hb hbt hbw HSL HLA T2 F2 hnn
  have HZ := Lib.hid (show ∀ z, z < w7.heap.size → z ≠ bw + 1 → z ≠ p → z ∉ rowsOf s → ¬ amO (bw + 1) p s z from fun z _ h1 h2 h3 h => by rcases h with h | h | h; exact h1 h; exact h2 h; exact h3 h)
  have hpr : ∀ z, bt ≤ z → z ∉ rowsOf s := fun z hz h => by have := HRL.out z h; omega
  have hlow : ∀ z, z ≤ b + 1 → z ∉ rowsOf s := fun z hz h => by have := HSL'.out z h; omega
  have HPR := Lib.hid hpr; have HLOW := Lib.hid hlow
  clear hpr hlow
  go_wp2
  refine wp_range (xs := L) (enc := encP) rfl (fun _ _ => rfl) HIT.out (fun x => rfl)
    (AmI w7 (bw + 1) p s L v) (fun _ _ _ _ => False) AmI.stable (fun _ _ _ _ _ h _ _ _ _ _ => h)
    (amO (bw + 1) p s) (fun x hx => by rcases hx with h | h | h; omega; omega; have := HRL.out x h; omega)
    ⟨s, rfl, by rw [show amS L v 0 = L from rfl]; exact T7.out, by omega, HPR.out _ (by omega), HBN.out, fun x hx => .inl hx, Stp.refl _ _⟩ ?round ?done ?stop
  case round =>
    rintro l' k ⟨a, y⟩ W1 O1 hx
    simp only [encP, kv, vv, List.zip_toArray, List.zip_cons_cons, List.zip_nil_right, List.foldl_toArray', List.foldl_cons, List.foldl_nil, List.setIfInBounds_toArray, List.set_cons_zero, List.set_cons_succ]
    have HX := Lib.hid hx; clear hx
    gi_wp2
    refine ⟨rfl, ?_⟩
    rintro W2 ⟨s2, rfl, hX, hne, hnr, hc, hr7, hst⟩ hb2 hsz2
    have hkn : k < n := by have := (List.getElem?_eq_some_iff.1 HX.out).1; have := HNL.out; omega
    have hkn' : (k : Int) < (n : Int) := by omega
    obtain ⟨qg, og, rfl, hqg, d0, d1⟩ := HL7.out k _ HX.out
    dsimp only at d0 d1
    have hqt := HLL.out _ rfl
    dsimp only at hqt
    have nqg : ¬ amO (bw + 1) p s qg := HZ.out qg (by omega) (by omega) (by omega) (HPR.out qg (by omega))
    have nbw : ¬ amO (bw + 1) p s bw := HZ.out bw (by omega) (by omega) (by omega) (HPR.out bw (by omega))
    have nbt : ¬ amO (bw + 1) p s bt := HZ.out bt (by omega) (by omega) (by omega) (HPR.out bt (by omega))
    have nb : ¬ amO (bw + 1) p s b := HZ.out b (by omega) (by omega) (by omega) (HLOW.out b (by omega))
    have nsz : ∀ z, z < w7.heap.size → z ∉ rowsOf s → z ≠ p → z ∉ rowsOf s2 := fun z h1 h2 _ h => (hr7 z h).elim h2 (fun h => by omega)
    have m0 : W2.cell? ⟨qg, og + k * 2, none⟩ = some (.int .i64 a) := hst.cell d0 nqg
    have m1 : W2.cell? ⟨qg, og + k * 2 + 1, none⟩ = some (.int .i64 y) := hst.cell d1 nqg
    have qn : W2.cell? ⟨bw + 1, 0, none⟩ = some (.int .i64 k) := cell_of (i := 0) hc rfl
    have zn : W2.frozen? ⟨bw + 1, 0, none⟩ = false := frozen_of hc
    have qw : W2.cell? ⟨bw, 0, none⟩ = some (.slice (some ⟨qg, og, none⟩) n ca) := hst.cell (cell_of (i := 0) HBW.out rfl) nbw
    have qt : W2.cell? ⟨bt, 0, none⟩ = some (.pointer (some ⟨p, 0, none⟩)) := hst.cell (cell_of (i := 0) HBT.out rfl) nbt
    have qv : W2.cell? ⟨b, 0, none⟩ = some (.int .i64 v) := hst.cell (cell_of (i := 0) HV7.out rfl) nb
    obtain ⟨W3, hW3⟩ : ∃ W3, W3 = W2.setCell ⟨bw + 1, 0, none⟩ (.int .i64 ((k : Int) + 1)) := ⟨_, rfl⟩
    have ks : ∀ z i (x : Value), z ≠ bw + 1 → W2.cell? ⟨z, i, none⟩ = some x → W3.cell? ⟨z, i, none⟩ = some x := fun z i x hz h => by
      rw [hW3]; exact (World.cell?_of_block (w := W2) (a := ⟨z, i, none⟩) (Below.heap_setCell _ _ _ _ hz)).trans h
    have tx3 : TabX W3 p s2 (amS L v k) := by
      rw [hW3]
      exact hX.own (Below.heap_setCell _ _ _ _ (fun e => hne e.symm)) (fun z hz => Below.heap_setCell _ _ _ _ (fun e => hnr (by have e' : z = bw + 1 := e; exact e' ▸ hz)))
    obtain ⟨y', hS⟩ := amS_round (v := v) HX.out
    have hlS := amS_len L v k
    have HD := Lib.hid (drop_x W3 p s2 (amS L v k) a (by have := HNL.out; omega) tx3)
    rw [hS, has_head, drp_head] at HD
    have hn3 : W3.cell? ⟨bw + 1, 0, none⟩ = some (.int .i64 ((k : Int) + 1)) := by
      rw [hW3]
      have := heap_setCell_same (i := 0) hc (.int .i64 ((k : Int) + 1))
      exact cell_of (i := 0) this rfl
    have HNX := Lib.hid fun (W' : World) (s' : Value) => AmI.next (w7 := w7) (W2 := W2) (W3 := W3) (W' := W') (bn := bw + 1) (p := p) (s7 := s) (s := s2) (s' := s') (L := L) (v := v) (k := k) rfl hb2 hst hr7 hW3 hc
    have kd := ks
    have hn' : ∀ z, z ∉ rowsOf s2 → z ≠ p → z ∉ p :: rowsOf s2 := fun z h1 h2 h => by rcases List.mem_cons.1 h with e | e; exact h2 e; exact h1 e
    have e0 := ks bw 0 _ (by omega) qw
    have e1' := ks bt 0 _ (by omega) qt
    have e2 := ks b 0 _ (by omega) qv
    have hbw2 := hn' bw (nsz bw (by omega) (HPR.out bw (by omega)) (by omega)) (by omega)
    have hbt2 := hn' bt (nsz bt (by omega) (HPR.out bt (by omega)) (by omega)) (by omega)
    have hb22 := hn' b (nsz b (by omega) (HLOW.out b (by omega)) (by omega)) (by omega)
    have hbn2 := hn' (bw + 1) hnr (by omega)
    have hqg2 := hn' qg (nsz qg (by omega) (HPR.out qg (by omega)) (by omega)) (by omega)
    simp only [kv] at HD
    have HHN := Lib.hid hnr; have HHS := Lib.hid hst
    have hw72 := hst.size
    have hsz3 : W3.heap.size = W2.heap.size := by rw [hW3]; simp [World.setCell]
    have KS := Lib.hid ks
    have hne' : ¬ (n : Int) ≤ (k : Int) := by omega
    have HNY := Lib.hid hne
    clear hX tx3 hr7 hst ks kd hS hlS hc nqg nbw nbt nb nsz hn' hb2 hnr hne d0 d1
    subst hW3
    gi_wp2_with fail
    refine ⟨trivial, rfl, (CallsIn.inRound l' (callsIn_wide.2 HD.out)).mono ?_⟩
    rintro en W4 ⟨rfl, s3, tx4, ht4, hrow⟩
    have g0 := ht4.1.cell e0 hbw2
    have g1 := ht4.1.cell e1' hbt2
    have g2 := ht4.1.cell e2 hb22
    have gn := ht4.1.cell hn3 hbn2
    by_cases hkl : k + 1 < n
    · have hkl' : (k : Int) + 1 < (n : Int) := by omega
      obtain ⟨⟨a', y2⟩, hx'⟩ : ∃ x, L[k + 1]? = some x := ⟨_, List.getElem?_eq_getElem (by rw [HNL.out]; exact hkl)⟩
      obtain ⟨q', o', hq', _, d0, -⟩ := HL7.out (k + 1) _ hx'
      simp only [Option.some.injEq, Addr.mk.injEq, and_true] at hq'
      obtain ⟨rfl, rfl⟩ := hq'
      dsimp only at d0
      have m2 : W4.cell? ⟨qg, og + (k + 1) * 2, none⟩ = some (.int .i64 a') := ht4.1.cell (KS.out qg _ _ (by omega) (HHS.out.cell d0 (HZ.out qg (by omega) (by omega) (by omega) (HPR.out qg (by omega))))) hqg2
      have hk10 : (0 : Int) ≤ (k : Int) + 1 := by omega
      have hput := amS_next (v := v) hx'
      have HP := Lib.hid (put_x W4.drew p s3 (L.drop (k + 1)) a' v (by rw [List.length_drop]; have := HNL.out; omega) (tx4.fr (Fr.refl _ W4).drew))
      rw [hput] at HP
      simp only [kv, vv] at HP
      have hbt3 : bt ∉ p :: rowsOf s3 := by rw [hrow]; exact hbt2
      have hbw3 : bw ∉ p :: rowsOf s3 := by rw [hrow]; exact hbw2
      have hb3 : b ∉ p :: rowsOf s3 := by rw [hrow]; exact hb22
      have hbn3 : bw + 1 ∉ p :: rowsOf s3 := by rw [hrow]; exact hbn2
      have hqg3 : qg ∉ p :: rowsOf s3 := by rw [hrow]; exact hqg2
      clear d0 hx' hput
      gi_wp2_with fail
      refine region_round_held (S := fun w' => w'.cell? ⟨bt, 0, none⟩ = some (.pointer (some ⟨p, 0, none⟩)) ∧ w'.cell? ⟨bw, 0, none⟩ = some (.slice (some ⟨qg, og, none⟩) n ca) ∧ w'.cell? ⟨bw + 1, 0, none⟩ = some (.int .i64 ((k : Int) + 1)) ∧ w'.cell? ⟨qg, og + (k + 1) * 2, none⟩ = some (.int .i64 a') ∧ w'.cell? ⟨b, 0, none⟩ = some (.int .i64 v)) hmix (by simp) ?_
      have hHeld : W4.drew.cell? ⟨bt, 0, none⟩ = some (.pointer (some ⟨p, 0, none⟩)) ∧ W4.drew.cell? ⟨bw, 0, none⟩ = some (.slice (some ⟨qg, og, none⟩) n ca) ∧ W4.drew.cell? ⟨bw + 1, 0, none⟩ = some (.int .i64 ((k : Int) + 1)) ∧ W4.drew.cell? ⟨qg, og + (k + 1) * 2, none⟩ = some (.int .i64 a') ∧ W4.drew.cell? ⟨b, 0, none⟩ = some (.int .i64 v) := ⟨g1, g0, gn, m2, g2⟩
      refine wpAnyH_take (i := 0) (oi := _) (v := ?_) rfl (by kernel_rfl) (by kernel_rfl) (by kernel_rfl) (fun _ _ _ h => h) (Or.inl ⟨by rfl, ?_⟩) (by assumption) ?_
      rotate_left
      · intro w hSw
        try dsimp only at hSw
        try simp only [List.getElem_toArray, List.getElem_cons_zero]
        go_split_ands
        go_simp
        try with_reducible rfl
      try simp only [Act.put, List.getElem_toArray, List.getElem_cons_zero, List.setIfInBounds_toArray, List.set_cons_zero, List.set_cons_succ]
      refine wpAnyH_take (i := 1) (oi := _) (v := ?_) rfl (by kernel_rfl) (by kernel_rfl) (by kernel_rfl) (fun _ _ _ h => h) (Or.inl ⟨by rfl, ?_⟩) (by assumption) ?_
      rotate_left
      · intro w hSw
        try dsimp only at hSw
        try simp only [List.getElem_toArray, List.getElem_cons_succ, List.getElem_cons_zero]
        go_split_ands
        go_simp
        try with_reducible rfl
      try simp only [Act.put, List.getElem_toArray, List.getElem_cons_succ, List.getElem_cons_zero, List.setIfInBounds_toArray, List.set_cons_zero, List.set_cons_succ]
      refine wpAnyH_take (i := 2) (oi := _) (v := ?_) rfl (by kernel_rfl) (by kernel_rfl) (by kernel_rfl) (fun _ _ _ h => h) (Or.inl ⟨by rfl, ?_⟩) (by assumption) ?_
      rotate_left
      · intro w hSw
        try dsimp only at hSw
        try simp only [List.getElem_toArray, List.getElem_cons_succ, List.getElem_cons_zero]
        go_split_ands
        go_simp
        try with_reducible rfl
      try simp only [Act.put, List.getElem_toArray, List.getElem_cons_succ, List.getElem_cons_zero, List.setIfInBounds_toArray, List.set_cons_zero, List.set_cons_succ]
      refine wpAnyH_take (i := 3) (oi := _) (v := ?_) rfl (by kernel_rfl) (by kernel_rfl) (by kernel_rfl) (fun _ _ _ h => h) (Or.inl ⟨by rfl, ?_⟩) (by assumption) ?_
      rotate_left
      · intro w hSw
        try dsimp only at hSw
        try simp only [List.getElem_toArray, List.getElem_cons_succ, List.getElem_cons_zero]
        go_split_ands
        go_simp
        try with_reducible rfl
      try simp only [Act.put, List.getElem_toArray, List.getElem_cons_succ, List.getElem_cons_zero, List.setIfInBounds_toArray, List.set_cons_zero, List.set_cons_succ]
      refine wpAnyH_take (i := 4) (oi := _) (v := ?_) rfl (by kernel_rfl) (by kernel_rfl) (by kernel_rfl) (fun _ _ _ h => h) (Or.inl ⟨by rfl, ?_⟩) (by assumption) ?_
      rotate_left
      · intro w hSw
        try dsimp only at hSw
        try simp only [List.getElem_toArray, List.getElem_cons_succ, List.getElem_cons_zero]
        go_split_ands
        go_simp
        try with_reducible rfl
      try simp only [Act.put, List.getElem_toArray, List.getElem_cons_succ, List.getElem_cons_zero, List.setIfInBounds_toArray, List.set_cons_zero, List.set_cons_succ]
      refine wpAnyH_take (i := 5) (oi := _) (v := ?_) rfl (by kernel_rfl) (by kernel_rfl) (by kernel_rfl) (fun _ _ _ h => h) (Or.inl ⟨by rfl, ?_⟩) (by assumption) ?_
      rotate_left
      · intro w hSw
        try dsimp only at hSw
        try simp only [List.getElem_toArray, List.getElem_cons_succ, List.getElem_cons_zero]
        go_split_ands
        go_simp
        try with_reducible rfl
      try simp only [Act.put, List.getElem_toArray, List.getElem_cons_succ, List.getElem_cons_zero, List.setIfInBounds_toArray, List.set_cons_zero, List.set_cons_succ]
      refine wpAnyH_take (i := 6) (oi := _) (v := ?_) rfl (by kernel_rfl) (by kernel_rfl) (by kernel_rfl) (fun _ _ _ h => h) (Or.inl ⟨by rfl, ?_⟩) (by assumption) ?_
      rotate_left
      · intro w hSw
        try dsimp only at hSw
        try simp only [List.getElem_toArray, List.getElem_cons_succ, List.getElem_cons_zero]
        go_split_ands
        go_simp
        try with_reducible rfl
      try simp only [Act.put, List.getElem_toArray, List.getElem_cons_succ, List.getElem_cons_zero, List.setIfInBounds_toArray, List.set_cons_zero, List.set_cons_succ]
      refine wpAnyH_ready (rs := [7]) (by kernel_rfl) (by simp) ?_
      refine AllReadyH.cons (o := _) rfl (fun K hK => ?_) AllReadyH.nil
      simp only [List.getElem_toArray, List.getElem_cons_succ, List.getElem_cons_zero]
      go_simp
      refine (HP.out).mono ?_
      rintro en2 W5 ⟨rfl, s4, tx5, ht5⟩
      go_wp2_with fail
      refine hK.out _ _ ⟨ht5.1.cell g1 hbt3, ht5.1.cell g0 hbw3, ht5.1.cell gn hbn3, ht5.1.cell m2 hqg3, ht5.1.cell g2 hb3⟩ (fun hHeld => ?_)
      clear hK K
      try simp only [Act.put, List.getElem_toArray, List.getElem_cons_succ, List.getElem_cons_zero, List.setIfInBounds_toArray, List.set_cons_zero, List.set_cons_succ]
      refine wpAnyH_done (by kernel_rfl) ?_ _
      dsimp only [onlyN]
      have h' := ((Stp.of_fr ht4.1).drew.then (Stp.of_fr ht5.1) (fun x hx => .inl (by rw [hrow] at hx; exact hx))).mono (O' := fun x => x = p ∨ x ∈ rowsOf s2) (fun x hx => List.mem_cons.1 hx)
      have fin := HNX.out W5 s4 h' (fun x hx => (ht5.2 x hx).imp (fun h => by rw [← hrow]; exact h) (fun h => by have := ht4.1.size; rw [hsz3] at this; exact Nat.le_trans this h)) tx5 HNY.out HHN.out
      have FIN := Lib.hid fin
      clear fin h' tx5 ht5
      gi_wp2
      exact FIN.out
    · have hkl' : ¬ ((k : Int) + 1 < (n : Int)) := by omega
      have hend : TabX W4 p s3 (amS L v (k + 1)) := by
        rw [← amS_end (by have := HNL.out; omega)]; exact tx4
      have fin := HNX.out W4 s3 ((Stp.of_fr ht4.1).mono (fun x hx => List.mem_cons.1 hx)) (fun x hx => .inl (by rw [← hrow]; exact hx)) hend HNY.out HHN.out
      have FIN := Lib.hid fin
      clear fin hend
      gi_wp2
      exact FIN.out
  case done =>
    rintro D W' O' hD ⟨s2, rfl, hX, hne, hnr, hc, hr7, hst⟩ _ _ hK hnD
    rw [amS_last] at hX
    rw [HNL.out] at hc
    have nbw : ¬ amO (bw + 1) p s bw := HZ.out bw (by omega) (by omega) (by omega) (HPR.out bw (by omega))
    have nbt : ¬ amO (bw + 1) p s bt := HZ.out bt (by omega) (by omega) (by omega) (HPR.out bt (by omega))
    have nb1 : ¬ amO (bw + 1) p s (b + 1) := HZ.out (b + 1) (by omega) (by omega) (by omega) (HLOW.out (b + 1) (by omega))
    have qn : W'.cell? ⟨bw + 1, 0, none⟩ = some (.int .i64 n) := cell_of (i := 0) hc rfl
    have qw : W'.cell? ⟨bw, 0, none⟩ = some (.slice ga n ca) := hst.cell (cell_of (i := 0) HBW.out rfl) nbw
    have qt : W'.cell? ⟨bt, 0, none⟩ = some (.pointer (some ⟨p, 0, none⟩)) := hst.cell (cell_of (i := 0) HBT.out rfl) nbt
    have hr1 := hst.at HR7.out nb1
    have qr : W'.cell? ⟨b + 1, 0, none⟩ = some (.bool false) := cell_of (i := 0) hr1 rfl
    have zr : W'.frozen? ⟨b + 1, 0, none⟩ = false := frozen_of hr1
    have HLN := Lib.hid (len_any 0 W' p [] hX.at0)
    simp only [List.length_nil] at HLN
    have hDr : D ≠ b + 1 := by omega
    have fin : Fr [] W ((W'.setCell ⟨b + 1, 0, none⟩ (.bool true)).putObj D (.deferred none)) := by
      have h1 : Stp (fun _ => False) W W' := ((Stp.of_fr F7.out).mono (fun x hx => by simp at hx)).then hst (fun x hx => .inr (by
        rcases hx with h | h | h
        · omega
        · omega
        · have := HSL'.out x h; omega))
      exact ((h1.setCell (p := ⟨b + 1, 0, none⟩) (.inr (Nat.le_succ_of_le hbW)) _).putObj (.inr (by have := F7.out.size; omega)) _).to_fr (fun x hx => hx.elim)
    have c1 := heap_setCell_same (i := 0) hr1 (.bool true)
    have hr : ((W'.setCell ⟨b + 1, 0, none⟩ (.bool true)).putObj D (.deferred none)).cell? ⟨b + 1, 0, none⟩ = some (.bool true) := by
      refine cell_of (i := 0) (c := #[.bool true]) (t := 4) (z := (0, 0)) ?_ rfl
      rw [World.putObj_heap_other (fun e => hDr e.symm)]
      simpa using c1
    have hK2 : (W'.setCell ⟨b + 1, 0, none⟩ (.bool true)).heap[D]? = some (.deferred (some [])) := (Below.heap_setCell _ _ _ _ hDr).trans hK
    have FIN := Lib.hid fin; have HR := Lib.hid hr; have HK2 := Lib.hid hK2
    clear fin hr hK2 hst c1 hc hX hne hnr hr7 nbw nbt nb1 hr1
    go_wp2_with fail
    refine HLN.out.mono ?_
    rintro en W5 ⟨rfl, rfl⟩
    go_wp2_with fail
    refine leave_ret_at (.bool true) HK2.out ?_ ⟨rfl, FIN.out⟩
    have hr3 := HR.out
    simp [results, Try.f4, go_sem, hr3]
  case stop => exact fun _ _ _ _ _ _ _ h => h.elim

end Go.Proofs.Ytamnmpcnhaeigaa.TabI

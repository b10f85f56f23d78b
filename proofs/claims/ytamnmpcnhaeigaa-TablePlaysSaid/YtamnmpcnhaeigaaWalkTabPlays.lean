/- TablePlays: the walk. Printed by gen_tabplays.py. -/
import Derived.Test.YtamnmpcnhaeigaaTabPl
namespace Go.Proofs.Ytamnmpcnhaeigaa.TabI
open Go.RowKit
set_option linter.unusedVariables false

theorem wp_region_held_dr {P : Program} {ops : Array Oper} {Q : Exit → Act → World → Prop} {S : World → Prop} {id : Nat} {a : Act} {w : World} (hm : P.follows .mixedOrders = true) (hS : S w.drew)
    (h : S w.drew → wpAnyH P .any ops Q S ops.size (Array.replicate ops.size false) a w.drew) : (Code.region id ops true).wp P Q a w := wp_region_held hm (h hS)
theorem ref_shape {B : Nat} {w : World} {r : Nat} {v : Value} {R : List (Int × Int)} (h : RefAt B w r v R) : ∃ g c, v = .slice g R.length c := by
  rcases own_some h.own with ⟨rfl, rfl⟩ | ⟨q, c, rfl, _⟩
  · exact ⟨none, 0, rfl⟩
  · exact ⟨_, c, rfl⟩

set_option maxHeartbeats 16000000 in
set_option maxRecDepth 100000 in
theorem tabplays_walk (W : World) (g : Option Addr) (c : Nat) (l : List OpV) (hA : OpsAt W.heap.size W g l) :
    Calls Try.prog 6 #[.slice g l.length c] W fun e w' => e = .returned (.bool true) ∧ Fr [] W w' := by
  obtain ⟨len, hlq⟩ : ∃ n, l.length = n := ⟨_, rfl⟩
  have HL := Lib.hid hlq
  rw [hlq]
  clear hlq
  by_cases hbig : 60 < len
  · have hbig' : (60 : Int) < (len : Int) := by omega
    clear hA
    go_enter Try.func6, Try.ntmps6
    go_wp2_with fail
    refine (TabW.awake_any W).mono ?_
    rintro e w1 ⟨rfl, f1⟩
    go_wp2_with fail
    go_ret
    exact ⟨rfl, f1⟩
  have hsm : len ≤ 60 := by omega
  have hbig' : ¬ (60 : Int) < (len : Int) := by omega
  have HA := Lib.hid hA
  clear hA
  go_enter Try.func6, Try.ntmps6
  go_wp2_with fail
  refine (TabW.awake_any W).mono ?_
  rintro e w1 ⟨rfl, f1⟩
  go_wp2_with fail
  refine (new_any w1).mono ?_
  rintro e w2 ⟨p, rfl, hp, t2, f2⟩
  obtain ⟨s0, hts, hth, hsap, hslow⟩ := t2.at_
  have tx2 : TabX w2 p s0 [] := ⟨hts, hth, hsap, t2.up⟩
  have hsl := tabX_lt tx2
  have hpl := heap_lt hts
  have F3 : Fr [] w2 (w2.alloc (.cells #[.slice none 0 0] 55)) := (Fr.refl [] w2).alloc _
  have SEP := Lib.hid (show Sep w1.heap.size w1 (w2.alloc (.cells #[.slice none 0 0] 55)) p w2.heap.size s0 (.slice none 0 0) [] [] from
    ⟨tabX_frS tx2 F3 (by simp) (by simp), ⟨heap_alloc_new w2 _, World.ownsRow_nil _ _ _ _, f2.size, by simp [rowsOf]⟩, by omega, fun h => by have := hsl _ h; omega, by simp [rowsOf], by simp [rowsOf], hp, hslow, Lo.of_fr (f2.trans F3), Nat.le_trans f2.size F3.size⟩)
  have HOP := Lib.hid fun (w : World) (h : Lo w1.heap.size w1 w) (j : Nat) (o : OpV) (hj : l[j]? = some o) => (show 0 ≤ o.kind ∧ o.kind ≤ 255 ∧ ∃ b f, g = some ⟨b, f, none⟩ ∧ b < w1.heap.size ∧ w.cell? ⟨b, f + j * 3, none⟩ = some (.int .u8 o.kind) ∧ w.cell? ⟨b, f + j * 3 + 1, none⟩ = some (.int .i64 o.k) ∧ w.cell? ⟨b, f + j * 3 + 2, none⟩ = some (.int .i64 o.v) from by
    obtain ⟨h0, h1, b, f, hg, hb, c0, c1, c2⟩ := HA.out j o hj
    have hb' : b < w1.heap.size := Nat.lt_of_lt_of_le hb f1.size
    exact ⟨h0, h1, b, f, hg, hb', h.cell (f1.cell c0 (by simp)) hb', h.cell (f1.cell c1 (by simp)) hb', h.cell (f1.cell c2 (by simp)) hb'⟩)
  have FF := Lib.hid f1
  have hWB := f1.size
  obtain ⟨r, hr⟩ : ∃ r, w2.heap.size = r := ⟨_, rfl⟩
  obtain ⟨B, hB⟩ : ∃ r, w1.heap.size = r := ⟨_, rfl⟩
  rw [hr, hB] at SEP
  rw [hB] at HOP hWB
  have HB := Lib.hid hB
  clear hB hts hth hsap hslow tx2 hsl hpl F3 t2 f1 f2 hp HA
  have HR0 := Lib.hid hr
  clear hr
  go_wp2_with fail
  rw [HR0.out]
  clear HR0
  go_loopw [6] (fun s6 wr => ∃ (i : Nat) (s v : Value) (L R : List (Int × Int)), i ≤ len ∧ s6 = .int .i64 i ∧ Sep B w1 wr p r s v L R ∧ Rel R L ∧ L.length ≤ i) (fun s6 _ => len - (intOf s6).toNat)
  case atStart => exact ⟨0, s0, .slice none 0 0, [], [], Nat.zero_le _, rfl, SEP.out, ⟨by simp, rfl, by simp [UnlikeZ], Rising.nil⟩, Nat.le_refl _⟩
  case round =>
    obtain ⟨i, s, v, L, R, hi, rfl, hsep, hrel2, hLi⟩ := hrel
    obtain ⟨w3, rfl⟩ : ∃ x, x = wr := ⟨_, rfl⟩
    by_cases hlt : i < len
    · obtain ⟨⟨ok, k, x⟩, hget⟩ : ∃ o, l[i]? = some o := ⟨_, List.getElem?_eq_getElem (by have := HL.out; omega)⟩
      obtain ⟨ho0, ho1, b, f, rfl, hb, c0, c1, c2⟩ := HOP.out w3 hsep.lo i _ hget
      dsimp only at ho0 ho1 c0 c1 c2
      have hlt' : (i : Int) < (len : Int) := by omega
      have hi0 : (0 : Int) ≤ (i : Int) := by omega
      have HS := Lib.hid hsep; have HR := Lib.hid hrel2
      clear hget
      by_cases hk0 : ok = 0
      · subst hk0
        have HP := Lib.hid (put_x w3.drew p s L k x (by omega) (tabX_frS HS.out.tab ((Fr.refl [] w3).drew) (by simp) (by simp)))
        simp only [kv, vv] at HP
        have HSd := Lib.hid (HS.out.fr ((Fr.refl [] w3).drew))
        obtain ⟨bb, hbb⟩ : ∃ y, has lt L k = y := ⟨_, rfl⟩
        rw [hbb] at HP
        have hlp := len_putG (lt := lt) L k x
        clear hsep hrel2
        go_wp2_with fail
        go_region_held3 (fun w' => w'.cell? ⟨b, f + i * 3 + 1, none⟩ = some (.int .i64 k) ∧ w'.cell? ⟨b, f + i * 3 + 2, none⟩ = some (.int .i64 x)) (first | go_keep | exact ⟨e1, e2⟩)
          (first | (go_at_call 16; refine HP.out.mono ?_; rintro en w4 ⟨rfl, s2, tx4, ht4⟩; have HS4 := HSd.out.tabStep tx4 ht4; have hx4 := (HOP.out w4 HS4.lo); have e1 := (ht4.lo HS.out.lowp HS.out.lows).cell c1 hb; have e2 := (ht4.lo HS.out.lowp HS.out.lows).cell c2 hb))
        have HS4 := Lib.hid HS4
        clear tx4 ht4 hx4 HP HSd
        have HRP := Lib.hid (rput_any B w4.drew r v R k x (by have := HR.out.len; omega) (by have := HS4.out.sz; exact this) (ref_frS HS4.out.ref ((Fr.refl [] w4).drew) (by simp) (by simp)))
        have HSd := Lib.hid (HS4.out.fr ((Fr.refl [] w4).drew))
        go_wp2_with fail
        go_region_held3 (fun w' => w'.cell? ⟨b, f + i * 3 + 1, none⟩ = some (.int .i64 k) ∧ w'.cell? ⟨b, f + i * 3 + 2, none⟩ = some (.int .i64 x)) (first | go_keep | exact ⟨e3, e4⟩)
          (first | (go_at_call 24; refine HRP.out.mono ?_; rintro en wC ⟨b2, v2, R2, rfl, hpi, hra, htu⟩; have HS2 := HSd.out.refStep hra htu; have e3 := (htu.lo HS4.out.ref.low (fun y hy => (HS4.out.ref.own.lt y (rows_own.2 hy)).1)).cell e1 hb; have e4 := (htu.lo HS4.out.ref.low (fun y hy => (HS4.out.ref.own.lt y (rows_own.2 hy)).1)).cell e2 hb))
        have HS2 := Lib.hid HS2
        obtain ⟨hr2, hb2⟩ := rel_put HR.out hpi
        have HR2 := Lib.hid hr2
        have hb2' : b2 = bb := by rw [hb2]; exact hbb
        subst hb2'
        obtain ⟨L2, hL2q⟩ : ∃ y, putG ltI L k x = y := ⟨_, rfl⟩
        have HS2' := Lib.hid (show Sep B w1 wC p r s2 v2 (putG ltI L k x) R2 from HS2.out)
        rw [hL2q] at HS2' HR2
        have hL2 : L2.length ≤ i + 1 := by
          have h5 : (putG ltI L k x).length = if has ltI L k = true then L.length else L.length + 1 := hlp
          rw [hL2q] at h5
          split at h5 <;> omega
        clear HS2
        have HS2 := HS2'
        clear HS2' hpi hra htu hr2 hb2 hL2q hlp hbb HRP HSd HS4 HS HR e1 e2 e3 e4 c0 c1 c2
        go_wp2_with fail
        obtain ⟨gv, cv, hv⟩ := ref_shape HS2.out.ref
        obtain ⟨m, hm⟩ : ∃ m, L2.length = m := ⟨_, rfl⟩
        have hRm : R2.length = m := by rw [HR2.out.len, hm]
        rw [hRm] at hv
        subst hv
        have qr : wC.drew.cell? ⟨r, 0, none⟩ = some (.slice gv m cv) := cell_of (i := 0) HS2.out.ref.tab rfl
        have HLEN := Lib.hid (len_any 0 wC.drew p L2 (tabX_at0 (tabX_frS HS2.out.tab ((Fr.refl [] wC).drew) (by simp) (by simp))))
        rw [hm] at HLEN
        have HALL := Lib.hid (all_tab 0 wC.drew p L2 (by omega) (tabX_at0 (tabX_frS HS2.out.tab ((Fr.refl [] wC).drew) (by simp) (by simp))))
        have HRALL := Lib.hid fun (w : World) (fa : Fr [] wC.drew w) => rall_any B w r _ R2 L2 (by omega) (ref_frS HS2.out.ref (((Fr.refl [] wC).drew).trans fa) (by simp) (by simp)) HR2.out
        have hm60 : m ≤ 60 := by omega
        clear hRm
        refine wp_region_held_dr (S := fun w' => w'.cell? ⟨r, 0, none⟩ = some (.slice gv m cv)) (by kernel_rfl) qr (fun hHeld => ?_)
        refine wpAnyH_take (i := 0) (oi := _) (v := ?_) rfl (by kernel_rfl) (by kernel_rfl) (by kernel_rfl) (fun _ _ _ h => h) (Or.inl ⟨by rfl, ?_⟩) (by assumption) ?_
        rotate_left
        · intro w hSw
          try dsimp only at hSw
          try simp only [List.getElem_toArray, List.getElem_cons_zero]
          go_split_ands
          go_simp
          try with_reducible rfl
        try simp only [Act.put, List.getElem_toArray, List.getElem_cons_zero, List.setIfInBounds_toArray, List.set_cons_zero, List.set_cons_succ]
        refine wpAnyH_take (i := 1) (oi := _) (v := ?_) rfl (by kernel_rfl) (by kernel_rfl) (by kernel_rfl) (fun _ _ _ h => h) (Or.inl ⟨by rfl, ?_⟩) (by assumption) ?_
        rotate_left
        · intro w hSw
          try dsimp only at hSw
          try simp only [List.getElem_toArray, List.getElem_cons_succ, List.getElem_cons_zero]
          go_split_ands
          go_simp
          try with_reducible rfl
        try simp only [Act.put, List.getElem_toArray, List.getElem_cons_succ, List.getElem_cons_zero, List.setIfInBounds_toArray, List.set_cons_zero, List.set_cons_succ]
        refine wpAnyH_take (i := 2) (oi := _) (v := ?_) rfl (by kernel_rfl) (by kernel_rfl) (by kernel_rfl) (fun _ _ _ h => h) (Or.inl ⟨by rfl, ?_⟩) (by assumption) ?_
        rotate_left
        · intro w hSw
          try dsimp only at hSw
          try simp only [List.getElem_toArray, List.getElem_cons_succ, List.getElem_cons_zero]
          go_split_ands
          go_simp
          try with_reducible rfl
        try simp only [Act.put, List.getElem_toArray, List.getElem_cons_succ, List.getElem_cons_zero, List.setIfInBounds_toArray, List.set_cons_zero, List.set_cons_succ]
        refine wpAnyH_take (i := 3) (oi := _) (v := ?_) rfl (by kernel_rfl) (by kernel_rfl) (by kernel_rfl) (fun _ _ _ h => h) (Or.inl ⟨by rfl, ?_⟩) (by assumption) ?_
        rotate_left
        · intro w hSw
          try dsimp only at hSw
          try simp only [List.getElem_toArray, List.getElem_cons_succ, List.getElem_cons_zero]
          go_split_ands
          go_simp
          try with_reducible rfl
        try simp only [Act.put, List.getElem_toArray, List.getElem_cons_succ, List.getElem_cons_zero, List.setIfInBounds_toArray, List.set_cons_zero, List.set_cons_succ]
        refine wpAnyH_take (i := 4) (oi := _) (v := ?_) rfl (by kernel_rfl) (by kernel_rfl) (by kernel_rfl) (fun _ _ _ h => h) (Or.inl ⟨by rfl, ?_⟩) (by assumption) ?_
        rotate_left
        · intro w hSw
          try dsimp only at hSw
          try simp only [List.getElem_toArray, List.getElem_cons_succ, List.getElem_cons_zero]
          go_split_ands
          go_simp
          try with_reducible rfl
        try simp only [Act.put, List.getElem_toArray, List.getElem_cons_succ, List.getElem_cons_zero, List.setIfInBounds_toArray, List.set_cons_zero, List.set_cons_succ]
        refine wpAnyH_take (i := 5) (oi := _) (v := ?_) rfl (by kernel_rfl) (by kernel_rfl) (by kernel_rfl) (fun _ _ _ h => h) (Or.inl ⟨by rfl, ?_⟩) (by assumption) ?_
        rotate_left
        · intro w hSw
          try dsimp only at hSw
          try simp only [List.getElem_toArray, List.getElem_cons_succ, List.getElem_cons_zero]
          go_split_ands
          go_simp
          try with_reducible rfl
        try simp only [Act.put, List.getElem_toArray, List.getElem_cons_succ, List.getElem_cons_zero, List.setIfInBounds_toArray, List.set_cons_zero, List.set_cons_succ]
        refine wpAnyH_take (i := 6) (oi := _) (v := ?_) rfl (by kernel_rfl) (by kernel_rfl) (by kernel_rfl) (fun _ _ _ h => h) (Or.inl ⟨by rfl, ?_⟩) (by assumption) ?_
        rotate_left
        · intro w hSw
          try dsimp only at hSw
          try simp only [List.getElem_toArray, List.getElem_cons_succ, List.getElem_cons_zero]
          go_split_ands
          go_simp
          try with_reducible rfl
        try simp only [Act.put, List.getElem_toArray, List.getElem_cons_succ, List.getElem_cons_zero, List.setIfInBounds_toArray, List.set_cons_zero, List.set_cons_succ]
        refine wpAnyH_take (i := 7) (oi := _) (v := ?_) rfl (by kernel_rfl) (by kernel_rfl) (by kernel_rfl) (fun _ _ _ h => h) (Or.inl ⟨by rfl, ?_⟩) (by assumption) ?_
        rotate_left
        · intro w hSw
          try dsimp only at hSw
          try simp only [List.getElem_toArray, List.getElem_cons_succ, List.getElem_cons_zero]
          go_split_ands
          go_simp
          try with_reducible rfl
        try simp only [Act.put, List.getElem_toArray, List.getElem_cons_succ, List.getElem_cons_zero, List.setIfInBounds_toArray, List.set_cons_zero, List.set_cons_succ]
        refine wpAnyH_take (i := 8) (oi := _) (v := ?_) rfl (by kernel_rfl) (by kernel_rfl) (by kernel_rfl) (fun _ _ _ h => h) (Or.inl ⟨by rfl, ?_⟩) (by assumption) ?_
        rotate_left
        · intro w hSw
          try dsimp only at hSw
          try simp only [List.getElem_toArray, List.getElem_cons_succ, List.getElem_cons_zero]
          go_split_ands
          go_simp
          try with_reducible rfl
        try simp only [Act.put, List.getElem_toArray, List.getElem_cons_succ, List.getElem_cons_zero, List.setIfInBounds_toArray, List.set_cons_zero, List.set_cons_succ]
        refine wpAnyH_take (i := 9) (oi := _) (v := ?_) rfl (by kernel_rfl) (by kernel_rfl) (by kernel_rfl) (fun _ _ _ h => h) (Or.inl ⟨by rfl, ?_⟩) (by assumption) ?_
        rotate_left
        · intro w hSw
          try dsimp only at hSw
          try simp only [List.getElem_toArray, List.getElem_cons_succ, List.getElem_cons_zero]
          go_split_ands
          go_simp
          try with_reducible rfl
        try simp only [Act.put, List.getElem_toArray, List.getElem_cons_succ, List.getElem_cons_zero, List.setIfInBounds_toArray, List.set_cons_zero, List.set_cons_succ]
        refine wpAnyH_take (i := 11) (oi := _) (v := ?_) rfl (by kernel_rfl) (by kernel_rfl) (by kernel_rfl) (fun _ _ _ h => h) (Or.inl ⟨by rfl, ?_⟩) (by assumption) ?_
        rotate_left
        · intro w hSw
          try dsimp only at hSw
          try simp only [List.getElem_toArray, List.getElem_cons_succ, List.getElem_cons_zero]
          go_split_ands
          go_simp
          try with_reducible rfl
        try simp only [Act.put, List.getElem_toArray, List.getElem_cons_succ, List.getElem_cons_zero, List.setIfInBounds_toArray, List.set_cons_zero, List.set_cons_succ]
        refine wpAnyH_take (i := 12) (oi := _) (v := ?_) rfl (by kernel_rfl) (by kernel_rfl) (by kernel_rfl) (fun _ _ _ h => h) (Or.inl ⟨by rfl, ?_⟩) (by assumption) ?_
        rotate_left
        · intro w hSw
          try dsimp only at hSw
          try simp only [List.getElem_toArray, List.getElem_cons_succ, List.getElem_cons_zero]
          go_split_ands
          go_simp
          try with_reducible rfl
        try simp only [Act.put, List.getElem_toArray, List.getElem_cons_succ, List.getElem_cons_zero, List.setIfInBounds_toArray, List.set_cons_zero, List.set_cons_succ]
        refine wpAnyH_take (i := 13) (oi := _) (v := ?_) rfl (by kernel_rfl) (by kernel_rfl) (by kernel_rfl) (fun _ _ _ h => h) (Or.inl ⟨by rfl, ?_⟩) (by assumption) ?_
        rotate_left
        · intro w hSw
          try dsimp only at hSw
          try simp only [List.getElem_toArray, List.getElem_cons_succ, List.getElem_cons_zero]
          go_split_ands
          go_simp
          try with_reducible rfl
        try simp only [Act.put, List.getElem_toArray, List.getElem_cons_succ, List.getElem_cons_zero, List.setIfInBounds_toArray, List.set_cons_zero, List.set_cons_succ]
        refine wpAnyH_take (i := 14) (oi := _) (v := ?_) rfl (by kernel_rfl) (by kernel_rfl) (by kernel_rfl) (fun _ _ _ h => h) (Or.inl ⟨by rfl, ?_⟩) (by assumption) ?_
        rotate_left
        · intro w hSw
          try dsimp only at hSw
          try simp only [List.getElem_toArray, List.getElem_cons_succ, List.getElem_cons_zero]
          go_split_ands
          go_simp
          try with_reducible rfl
        try simp only [Act.put, List.getElem_toArray, List.getElem_cons_succ, List.getElem_cons_zero, List.setIfInBounds_toArray, List.set_cons_zero, List.set_cons_succ]
        refine wpAnyH_take (i := 15) (oi := _) (v := ?_) rfl (by kernel_rfl) (by kernel_rfl) (by kernel_rfl) (fun _ _ _ h => h) (Or.inl ⟨by rfl, ?_⟩) (by assumption) ?_
        rotate_left
        · intro w hSw
          try dsimp only at hSw
          try simp only [List.getElem_toArray, List.getElem_cons_succ, List.getElem_cons_zero]
          go_split_ands
          go_simp
          try with_reducible rfl
        try simp only [Act.put, List.getElem_toArray, List.getElem_cons_succ, List.getElem_cons_zero, List.setIfInBounds_toArray, List.set_cons_zero, List.set_cons_succ]
        refine wpAnyH_ready (rs := [10]) (by kernel_rfl) (by simp) ?_
        refine AllReadyH.cons (o := _) rfl (fun K hK => ?_) AllReadyH.nil
        simp only [List.getElem_toArray, List.getElem_cons_succ, List.getElem_cons_zero]
        go_simp
        refine (HLEN.out).mono ?_
        rintro en wl ⟨rfl, rfl⟩
        go_wp2_with fail
        refine hK.out _ _ qr (fun hHeld => ?_)
        clear hK K
        try simp only [Act.put, List.getElem_toArray, List.getElem_cons_succ, List.getElem_cons_zero, List.setIfInBounds_toArray, List.set_cons_zero, List.set_cons_succ]
        refine wpAnyH_take (i := 16) (oi := _) (v := ?_) rfl (by kernel_rfl) (by kernel_rfl) (by kernel_rfl) (fun _ _ _ h => h) (Or.inl ⟨by rfl, ?_⟩) (by assumption) ?_
        rotate_left
        · intro w hSw
          try dsimp only at hSw
          try simp only [List.getElem_toArray, List.getElem_cons_succ, List.getElem_cons_zero]
          go_split_ands
          go_simp
          try with_reducible rfl
        try simp only [Act.put, List.getElem_toArray, List.getElem_cons_succ, List.getElem_cons_zero, List.setIfInBounds_toArray, List.set_cons_zero, List.set_cons_succ]
        refine wpAnyH_take (i := 17) (oi := _) (v := ?_) rfl (by kernel_rfl) (by kernel_rfl) (by kernel_rfl) (fun _ _ _ h => h) (Or.inl ⟨by rfl, ?_⟩) (by assumption) ?_
        rotate_left
        · intro w hSw
          try dsimp only at hSw
          try simp only [List.getElem_toArray, List.getElem_cons_succ, List.getElem_cons_zero]
          go_split_ands
          go_simp
          try with_reducible rfl
        try simp only [Act.put, List.getElem_toArray, List.getElem_cons_succ, List.getElem_cons_zero, List.setIfInBounds_toArray, List.set_cons_zero, List.set_cons_succ]
        refine wpAnyH_take (i := 18) (oi := _) (v := ?_) rfl (by kernel_rfl) (by kernel_rfl) (by kernel_rfl) (fun _ _ _ h => h) (Or.inl ⟨by rfl, ?_⟩) (by assumption) ?_
        rotate_left
        · intro w hSw
          try dsimp only at hSw
          try simp only [List.getElem_toArray, List.getElem_cons_succ, List.getElem_cons_zero]
          go_split_ands
          go_simp
          try with_reducible rfl
        try simp only [Act.put, List.getElem_toArray, List.getElem_cons_succ, List.getElem_cons_zero, List.setIfInBounds_toArray, List.set_cons_zero, List.set_cons_succ]
        refine wpAnyH_take (i := 19) (oi := _) (v := ?_) rfl (by kernel_rfl) (by kernel_rfl) (by kernel_rfl) (fun _ _ _ h => h) (Or.inl ⟨by rfl, ?_⟩) (by assumption) ?_
        rotate_left
        · intro w hSw
          try dsimp only at hSw
          try simp only [List.getElem_toArray, List.getElem_cons_succ, List.getElem_cons_zero]
          go_split_ands
          go_simp
          try with_reducible rfl
        try simp only [Act.put, List.getElem_toArray, List.getElem_cons_succ, List.getElem_cons_zero, List.setIfInBounds_toArray, List.set_cons_zero, List.set_cons_succ]
        refine wpAnyH_take (i := 21) (oi := _) (v := ?_) rfl (by kernel_rfl) (by kernel_rfl) (by kernel_rfl) (fun _ _ _ h => h) (Or.inl ⟨by rfl, ?_⟩) (by assumption) ?_
        rotate_left
        · intro w hSw
          try dsimp only at hSw
          try simp only [List.getElem_toArray, List.getElem_cons_succ, List.getElem_cons_zero]
          go_split_ands
          go_simp
          try with_reducible rfl
        try simp only [Act.put, List.getElem_toArray, List.getElem_cons_succ, List.getElem_cons_zero, List.setIfInBounds_toArray, List.set_cons_zero, List.set_cons_succ]
        refine wpAnyH_ready (rs := [20]) (by kernel_rfl) (by simp) ?_
        refine AllReadyH.cons (o := _) rfl (fun K hK => ?_) AllReadyH.nil
        simp only [List.getElem_toArray, List.getElem_cons_succ, List.getElem_cons_zero]
        go_simp
        refine (HALL.out).mono ?_
        rintro en wa ⟨ga, ca, rfl, hla, fa⟩
        have qa := fa.cell qr (by simp)
        go_wp2_with fail
        refine hK.out _ _ qa (fun hHeld => ?_)
        clear hK K
        try simp only [Act.put, List.getElem_toArray, List.getElem_cons_succ, List.getElem_cons_zero, List.setIfInBounds_toArray, List.set_cons_zero, List.set_cons_succ]
        refine wpAnyH_ready (rs := [22]) (by kernel_rfl) (by simp) ?_
        refine AllReadyH.cons (o := _) rfl (fun K hK => ?_) AllReadyH.nil
        simp only [List.getElem_toArray, List.getElem_cons_succ, List.getElem_cons_zero]
        go_simp
        refine ((HRALL.out wa fa)).mono ?_
        rintro en wb ⟨gb, cb, rfl, hlb, fb⟩
        have qb := fb.cell qa (by simp)
        have HSM := Lib.hid (same_any wb ga gb ca cb L2 (by omega) (hla.1.fr fb) hlb.1)
        rw [hm] at HSM
        go_wp2_with fail
        refine hK.out _ _ qb (fun hHeld => ?_)
        clear hK K
        try simp only [Act.put, List.getElem_toArray, List.getElem_cons_succ, List.getElem_cons_zero, List.setIfInBounds_toArray, List.set_cons_zero, List.set_cons_succ]
        refine wpAnyH_ready (rs := [23]) (by kernel_rfl) (by simp) ?_
        refine AllReadyH.cons (o := _) rfl (fun K hK => ?_) AllReadyH.nil
        simp only [List.getElem_toArray, List.getElem_cons_succ, List.getElem_cons_zero]
        go_simp
        refine (HSM.out).mono ?_
        rintro en wd ⟨rfl, fd⟩
        have qd := fd.cell qb (by simp)
        go_wp2_with fail
        refine hK.out _ _ qd (fun hHeld => ?_)
        clear hK K
        try simp only [Act.put, List.getElem_toArray, List.getElem_cons_succ, List.getElem_cons_zero, List.setIfInBounds_toArray, List.set_cons_zero, List.set_cons_succ]
        refine wpAnyH_take (i := 24) (oi := _) (v := ?_) rfl (by kernel_rfl) (by kernel_rfl) (by kernel_rfl) (fun _ _ _ h => h) (Or.inl ⟨by rfl, ?_⟩) (by assumption) ?_
        rotate_left
        · intro w hSw
          try dsimp only at hSw
          try simp only [List.getElem_toArray, List.getElem_cons_succ, List.getElem_cons_zero]
          go_split_ands
          go_simp
          try with_reducible rfl
        try simp only [Act.put, List.getElem_toArray, List.getElem_cons_succ, List.getElem_cons_zero, List.setIfInBounds_toArray, List.set_cons_zero, List.set_cons_succ]
        refine wpAnyH_take (i := 25) (oi := _) (v := ?_) rfl (by kernel_rfl) (by kernel_rfl) (by kernel_rfl) (fun _ _ _ h => h) (Or.inl ⟨by rfl, ?_⟩) (by assumption) ?_
        rotate_left
        · intro w hSw
          try dsimp only at hSw
          try simp only [List.getElem_toArray, List.getElem_cons_succ, List.getElem_cons_zero]
          go_split_ands
          go_simp
          try with_reducible rfl
        try simp only [Act.put, List.getElem_toArray, List.getElem_cons_succ, List.getElem_cons_zero, List.setIfInBounds_toArray, List.set_cons_zero, List.set_cons_succ]
        refine wpAnyH_done (by kernel_rfl) ?_ _
        have HS3 := Lib.hid (HS2.out.fr (((((Fr.refl [] wC).drew).trans fa).trans fb).trans fd))
        clear hla hlb fa fb fd qa qb qd qr
        go_wp2_with fail
        go_roundw
        case rel => exact ⟨i + 1, _, _, L2, R2, by omega, by go_num, HS3.out, HR2.out, hL2⟩
        case measure => simp [intOf]; omega
      by_cases hk1 : ok = 1
      · subst hk1
        have HG := Lib.hid (get_any 0 w3 p L k (by omega) (tabX_at0 HS.out.tab))
        simp only [kv, vv] at HG
        clear hsep hrel2
        go_wp2_with fail
        refine HG.out.mono ?_
        rintro en w4 ⟨rfl, f4⟩
        have HS4 := Lib.hid (HS.out.fr f4)
        have e1 := f4.cell c1 (by simp)
        have HRG := Lib.hid (rget_any B w4 r v R k (by have := HR.out.len; omega) HS4.out.ref)
        go_wp2_with fail
        refine HRG.out.mono ?_
        rintro en wC ⟨x2, b2, rfl, hgi, rfl⟩
        obtain ⟨hg1, hg2⟩ := got_same HR.out hgi
        rw [hg1, hg2]
        have HS2 := HS4
        have HR2 := HR
        obtain ⟨L2, rfl⟩ : ∃ y, y = L := ⟨_, rfl⟩
        obtain ⟨R2, rfl⟩ : ∃ y, y = R := ⟨_, rfl⟩
        obtain ⟨s2, rfl⟩ : ∃ y, y = s := ⟨_, rfl⟩
        obtain ⟨v2, rfl⟩ : ∃ y, y = v := ⟨_, rfl⟩
        have hL2 : L2.length ≤ i + 1 := by omega
        clear HS4 hgi hg1 hg2 HG HRG HS HR e1 c0 c1 c2 f4
        go_wp2_with fail
        obtain ⟨gv, cv, hv⟩ := ref_shape HS2.out.ref
        obtain ⟨m, hm⟩ : ∃ m, L2.length = m := ⟨_, rfl⟩
        have hRm : R2.length = m := by rw [HR2.out.len, hm]
        rw [hRm] at hv
        subst hv
        have qr : wC.drew.cell? ⟨r, 0, none⟩ = some (.slice gv m cv) := cell_of (i := 0) HS2.out.ref.tab rfl
        have HLEN := Lib.hid (len_any 0 wC.drew p L2 (tabX_at0 (tabX_frS HS2.out.tab ((Fr.refl [] wC).drew) (by simp) (by simp))))
        rw [hm] at HLEN
        have HALL := Lib.hid (all_tab 0 wC.drew p L2 (by omega) (tabX_at0 (tabX_frS HS2.out.tab ((Fr.refl [] wC).drew) (by simp) (by simp))))
        have HRALL := Lib.hid fun (w : World) (fa : Fr [] wC.drew w) => rall_any B w r _ R2 L2 (by omega) (ref_frS HS2.out.ref (((Fr.refl [] wC).drew).trans fa) (by simp) (by simp)) HR2.out
        have hm60 : m ≤ 60 := by omega
        clear hRm
        refine wp_region_held_dr (S := fun w' => w'.cell? ⟨r, 0, none⟩ = some (.slice gv m cv)) (by kernel_rfl) qr (fun hHeld => ?_)
        refine wpAnyH_take (i := 0) (oi := _) (v := ?_) rfl (by kernel_rfl) (by kernel_rfl) (by kernel_rfl) (fun _ _ _ h => h) (Or.inl ⟨by rfl, ?_⟩) (by assumption) ?_
        rotate_left
        · intro w hSw
          try dsimp only at hSw
          try simp only [List.getElem_toArray, List.getElem_cons_zero]
          go_split_ands
          go_simp
          try with_reducible rfl
        try simp only [Act.put, List.getElem_toArray, List.getElem_cons_zero, List.setIfInBounds_toArray, List.set_cons_zero, List.set_cons_succ]
        refine wpAnyH_take (i := 1) (oi := _) (v := ?_) rfl (by kernel_rfl) (by kernel_rfl) (by kernel_rfl) (fun _ _ _ h => h) (Or.inl ⟨by rfl, ?_⟩) (by assumption) ?_
        rotate_left
        · intro w hSw
          try dsimp only at hSw
          try simp only [List.getElem_toArray, List.getElem_cons_succ, List.getElem_cons_zero]
          go_split_ands
          go_simp
          try with_reducible rfl
        try simp only [Act.put, List.getElem_toArray, List.getElem_cons_succ, List.getElem_cons_zero, List.setIfInBounds_toArray, List.set_cons_zero, List.set_cons_succ]
        refine wpAnyH_take (i := 2) (oi := _) (v := ?_) rfl (by kernel_rfl) (by kernel_rfl) (by kernel_rfl) (fun _ _ _ h => h) (Or.inl ⟨by rfl, ?_⟩) (by assumption) ?_
        rotate_left
        · intro w hSw
          try dsimp only at hSw
          try simp only [List.getElem_toArray, List.getElem_cons_succ, List.getElem_cons_zero]
          go_split_ands
          go_simp
          try with_reducible rfl
        try simp only [Act.put, List.getElem_toArray, List.getElem_cons_succ, List.getElem_cons_zero, List.setIfInBounds_toArray, List.set_cons_zero, List.set_cons_succ]
        refine wpAnyH_take (i := 3) (oi := _) (v := ?_) rfl (by kernel_rfl) (by kernel_rfl) (by kernel_rfl) (fun _ _ _ h => h) (Or.inl ⟨by rfl, ?_⟩) (by assumption) ?_
        rotate_left
        · intro w hSw
          try dsimp only at hSw
          try simp only [List.getElem_toArray, List.getElem_cons_succ, List.getElem_cons_zero]
          go_split_ands
          go_simp
          try with_reducible rfl
        try simp only [Act.put, List.getElem_toArray, List.getElem_cons_succ, List.getElem_cons_zero, List.setIfInBounds_toArray, List.set_cons_zero, List.set_cons_succ]
        refine wpAnyH_take (i := 4) (oi := _) (v := ?_) rfl (by kernel_rfl) (by kernel_rfl) (by kernel_rfl) (fun _ _ _ h => h) (Or.inl ⟨by rfl, ?_⟩) (by assumption) ?_
        rotate_left
        · intro w hSw
          try dsimp only at hSw
          try simp only [List.getElem_toArray, List.getElem_cons_succ, List.getElem_cons_zero]
          go_split_ands
          go_simp
          try with_reducible rfl
        try simp only [Act.put, List.getElem_toArray, List.getElem_cons_succ, List.getElem_cons_zero, List.setIfInBounds_toArray, List.set_cons_zero, List.set_cons_succ]
        refine wpAnyH_take (i := 5) (oi := _) (v := ?_) rfl (by kernel_rfl) (by kernel_rfl) (by kernel_rfl) (fun _ _ _ h => h) (Or.inl ⟨by rfl, ?_⟩) (by assumption) ?_
        rotate_left
        · intro w hSw
          try dsimp only at hSw
          try simp only [List.getElem_toArray, List.getElem_cons_succ, List.getElem_cons_zero]
          go_split_ands
          go_simp
          try with_reducible rfl
        try simp only [Act.put, List.getElem_toArray, List.getElem_cons_succ, List.getElem_cons_zero, List.setIfInBounds_toArray, List.set_cons_zero, List.set_cons_succ]
        refine wpAnyH_take (i := 6) (oi := _) (v := ?_) rfl (by kernel_rfl) (by kernel_rfl) (by kernel_rfl) (fun _ _ _ h => h) (Or.inl ⟨by rfl, ?_⟩) (by assumption) ?_
        rotate_left
        · intro w hSw
          try dsimp only at hSw
          try simp only [List.getElem_toArray, List.getElem_cons_succ, List.getElem_cons_zero]
          go_split_ands
          go_simp
          try with_reducible rfl
        try simp only [Act.put, List.getElem_toArray, List.getElem_cons_succ, List.getElem_cons_zero, List.setIfInBounds_toArray, List.set_cons_zero, List.set_cons_succ]
        refine wpAnyH_take (i := 7) (oi := _) (v := ?_) rfl (by kernel_rfl) (by kernel_rfl) (by kernel_rfl) (fun _ _ _ h => h) (Or.inl ⟨by rfl, ?_⟩) (by assumption) ?_
        rotate_left
        · intro w hSw
          try dsimp only at hSw
          try simp only [List.getElem_toArray, List.getElem_cons_succ, List.getElem_cons_zero]
          go_split_ands
          go_simp
          try with_reducible rfl
        try simp only [Act.put, List.getElem_toArray, List.getElem_cons_succ, List.getElem_cons_zero, List.setIfInBounds_toArray, List.set_cons_zero, List.set_cons_succ]
        refine wpAnyH_take (i := 8) (oi := _) (v := ?_) rfl (by kernel_rfl) (by kernel_rfl) (by kernel_rfl) (fun _ _ _ h => h) (Or.inl ⟨by rfl, ?_⟩) (by assumption) ?_
        rotate_left
        · intro w hSw
          try dsimp only at hSw
          try simp only [List.getElem_toArray, List.getElem_cons_succ, List.getElem_cons_zero]
          go_split_ands
          go_simp
          try with_reducible rfl
        try simp only [Act.put, List.getElem_toArray, List.getElem_cons_succ, List.getElem_cons_zero, List.setIfInBounds_toArray, List.set_cons_zero, List.set_cons_succ]
        refine wpAnyH_take (i := 9) (oi := _) (v := ?_) rfl (by kernel_rfl) (by kernel_rfl) (by kernel_rfl) (fun _ _ _ h => h) (Or.inl ⟨by rfl, ?_⟩) (by assumption) ?_
        rotate_left
        · intro w hSw
          try dsimp only at hSw
          try simp only [List.getElem_toArray, List.getElem_cons_succ, List.getElem_cons_zero]
          go_split_ands
          go_simp
          try with_reducible rfl
        try simp only [Act.put, List.getElem_toArray, List.getElem_cons_succ, List.getElem_cons_zero, List.setIfInBounds_toArray, List.set_cons_zero, List.set_cons_succ]
        refine wpAnyH_take (i := 11) (oi := _) (v := ?_) rfl (by kernel_rfl) (by kernel_rfl) (by kernel_rfl) (fun _ _ _ h => h) (Or.inl ⟨by rfl, ?_⟩) (by assumption) ?_
        rotate_left
        · intro w hSw
          try dsimp only at hSw
          try simp only [List.getElem_toArray, List.getElem_cons_succ, List.getElem_cons_zero]
          go_split_ands
          go_simp
          try with_reducible rfl
        try simp only [Act.put, List.getElem_toArray, List.getElem_cons_succ, List.getElem_cons_zero, List.setIfInBounds_toArray, List.set_cons_zero, List.set_cons_succ]
        refine wpAnyH_take (i := 12) (oi := _) (v := ?_) rfl (by kernel_rfl) (by kernel_rfl) (by kernel_rfl) (fun _ _ _ h => h) (Or.inl ⟨by rfl, ?_⟩) (by assumption) ?_
        rotate_left
        · intro w hSw
          try dsimp only at hSw
          try simp only [List.getElem_toArray, List.getElem_cons_succ, List.getElem_cons_zero]
          go_split_ands
          go_simp
          try with_reducible rfl
        try simp only [Act.put, List.getElem_toArray, List.getElem_cons_succ, List.getElem_cons_zero, List.setIfInBounds_toArray, List.set_cons_zero, List.set_cons_succ]
        refine wpAnyH_take (i := 13) (oi := _) (v := ?_) rfl (by kernel_rfl) (by kernel_rfl) (by kernel_rfl) (fun _ _ _ h => h) (Or.inl ⟨by rfl, ?_⟩) (by assumption) ?_
        rotate_left
        · intro w hSw
          try dsimp only at hSw
          try simp only [List.getElem_toArray, List.getElem_cons_succ, List.getElem_cons_zero]
          go_split_ands
          go_simp
          try with_reducible rfl
        try simp only [Act.put, List.getElem_toArray, List.getElem_cons_succ, List.getElem_cons_zero, List.setIfInBounds_toArray, List.set_cons_zero, List.set_cons_succ]
        refine wpAnyH_take (i := 14) (oi := _) (v := ?_) rfl (by kernel_rfl) (by kernel_rfl) (by kernel_rfl) (fun _ _ _ h => h) (Or.inl ⟨by rfl, ?_⟩) (by assumption) ?_
        rotate_left
        · intro w hSw
          try dsimp only at hSw
          try simp only [List.getElem_toArray, List.getElem_cons_succ, List.getElem_cons_zero]
          go_split_ands
          go_simp
          try with_reducible rfl
        try simp only [Act.put, List.getElem_toArray, List.getElem_cons_succ, List.getElem_cons_zero, List.setIfInBounds_toArray, List.set_cons_zero, List.set_cons_succ]
        refine wpAnyH_take (i := 15) (oi := _) (v := ?_) rfl (by kernel_rfl) (by kernel_rfl) (by kernel_rfl) (fun _ _ _ h => h) (Or.inl ⟨by rfl, ?_⟩) (by assumption) ?_
        rotate_left
        · intro w hSw
          try dsimp only at hSw
          try simp only [List.getElem_toArray, List.getElem_cons_succ, List.getElem_cons_zero]
          go_split_ands
          go_simp
          try with_reducible rfl
        try simp only [Act.put, List.getElem_toArray, List.getElem_cons_succ, List.getElem_cons_zero, List.setIfInBounds_toArray, List.set_cons_zero, List.set_cons_succ]
        refine wpAnyH_ready (rs := [10]) (by kernel_rfl) (by simp) ?_
        refine AllReadyH.cons (o := _) rfl (fun K hK => ?_) AllReadyH.nil
        simp only [List.getElem_toArray, List.getElem_cons_succ, List.getElem_cons_zero]
        go_simp
        refine (HLEN.out).mono ?_
        rintro en wl ⟨rfl, rfl⟩
        go_wp2_with fail
        refine hK.out _ _ qr (fun hHeld => ?_)
        clear hK K
        try simp only [Act.put, List.getElem_toArray, List.getElem_cons_succ, List.getElem_cons_zero, List.setIfInBounds_toArray, List.set_cons_zero, List.set_cons_succ]
        refine wpAnyH_take (i := 16) (oi := _) (v := ?_) rfl (by kernel_rfl) (by kernel_rfl) (by kernel_rfl) (fun _ _ _ h => h) (Or.inl ⟨by rfl, ?_⟩) (by assumption) ?_
        rotate_left
        · intro w hSw
          try dsimp only at hSw
          try simp only [List.getElem_toArray, List.getElem_cons_succ, List.getElem_cons_zero]
          go_split_ands
          go_simp
          try with_reducible rfl
        try simp only [Act.put, List.getElem_toArray, List.getElem_cons_succ, List.getElem_cons_zero, List.setIfInBounds_toArray, List.set_cons_zero, List.set_cons_succ]
        refine wpAnyH_take (i := 17) (oi := _) (v := ?_) rfl (by kernel_rfl) (by kernel_rfl) (by kernel_rfl) (fun _ _ _ h => h) (Or.inl ⟨by rfl, ?_⟩) (by assumption) ?_
        rotate_left
        · intro w hSw
          try dsimp only at hSw
          try simp only [List.getElem_toArray, List.getElem_cons_succ, List.getElem_cons_zero]
          go_split_ands
          go_simp
          try with_reducible rfl
        try simp only [Act.put, List.getElem_toArray, List.getElem_cons_succ, List.getElem_cons_zero, List.setIfInBounds_toArray, List.set_cons_zero, List.set_cons_succ]
        refine wpAnyH_take (i := 18) (oi := _) (v := ?_) rfl (by kernel_rfl) (by kernel_rfl) (by kernel_rfl) (fun _ _ _ h => h) (Or.inl ⟨by rfl, ?_⟩) (by assumption) ?_
        rotate_left
        · intro w hSw
          try dsimp only at hSw
          try simp only [List.getElem_toArray, List.getElem_cons_succ, List.getElem_cons_zero]
          go_split_ands
          go_simp
          try with_reducible rfl
        try simp only [Act.put, List.getElem_toArray, List.getElem_cons_succ, List.getElem_cons_zero, List.setIfInBounds_toArray, List.set_cons_zero, List.set_cons_succ]
        refine wpAnyH_take (i := 19) (oi := _) (v := ?_) rfl (by kernel_rfl) (by kernel_rfl) (by kernel_rfl) (fun _ _ _ h => h) (Or.inl ⟨by rfl, ?_⟩) (by assumption) ?_
        rotate_left
        · intro w hSw
          try dsimp only at hSw
          try simp only [List.getElem_toArray, List.getElem_cons_succ, List.getElem_cons_zero]
          go_split_ands
          go_simp
          try with_reducible rfl
        try simp only [Act.put, List.getElem_toArray, List.getElem_cons_succ, List.getElem_cons_zero, List.setIfInBounds_toArray, List.set_cons_zero, List.set_cons_succ]
        refine wpAnyH_take (i := 21) (oi := _) (v := ?_) rfl (by kernel_rfl) (by kernel_rfl) (by kernel_rfl) (fun _ _ _ h => h) (Or.inl ⟨by rfl, ?_⟩) (by assumption) ?_
        rotate_left
        · intro w hSw
          try dsimp only at hSw
          try simp only [List.getElem_toArray, List.getElem_cons_succ, List.getElem_cons_zero]
          go_split_ands
          go_simp
          try with_reducible rfl
        try simp only [Act.put, List.getElem_toArray, List.getElem_cons_succ, List.getElem_cons_zero, List.setIfInBounds_toArray, List.set_cons_zero, List.set_cons_succ]
        refine wpAnyH_ready (rs := [20]) (by kernel_rfl) (by simp) ?_
        refine AllReadyH.cons (o := _) rfl (fun K hK => ?_) AllReadyH.nil
        simp only [List.getElem_toArray, List.getElem_cons_succ, List.getElem_cons_zero]
        go_simp
        refine (HALL.out).mono ?_
        rintro en wa ⟨ga, ca, rfl, hla, fa⟩
        have qa := fa.cell qr (by simp)
        go_wp2_with fail
        refine hK.out _ _ qa (fun hHeld => ?_)
        clear hK K
        try simp only [Act.put, List.getElem_toArray, List.getElem_cons_succ, List.getElem_cons_zero, List.setIfInBounds_toArray, List.set_cons_zero, List.set_cons_succ]
        refine wpAnyH_ready (rs := [22]) (by kernel_rfl) (by simp) ?_
        refine AllReadyH.cons (o := _) rfl (fun K hK => ?_) AllReadyH.nil
        simp only [List.getElem_toArray, List.getElem_cons_succ, List.getElem_cons_zero]
        go_simp
        refine ((HRALL.out wa fa)).mono ?_
        rintro en wb ⟨gb, cb, rfl, hlb, fb⟩
        have qb := fb.cell qa (by simp)
        have HSM := Lib.hid (same_any wb ga gb ca cb L2 (by omega) (hla.1.fr fb) hlb.1)
        rw [hm] at HSM
        go_wp2_with fail
        refine hK.out _ _ qb (fun hHeld => ?_)
        clear hK K
        try simp only [Act.put, List.getElem_toArray, List.getElem_cons_succ, List.getElem_cons_zero, List.setIfInBounds_toArray, List.set_cons_zero, List.set_cons_succ]
        refine wpAnyH_ready (rs := [23]) (by kernel_rfl) (by simp) ?_
        refine AllReadyH.cons (o := _) rfl (fun K hK => ?_) AllReadyH.nil
        simp only [List.getElem_toArray, List.getElem_cons_succ, List.getElem_cons_zero]
        go_simp
        refine (HSM.out).mono ?_
        rintro en wd ⟨rfl, fd⟩
        have qd := fd.cell qb (by simp)
        go_wp2_with fail
        refine hK.out _ _ qd (fun hHeld => ?_)
        clear hK K
        try simp only [Act.put, List.getElem_toArray, List.getElem_cons_succ, List.getElem_cons_zero, List.setIfInBounds_toArray, List.set_cons_zero, List.set_cons_succ]
        refine wpAnyH_take (i := 24) (oi := _) (v := ?_) rfl (by kernel_rfl) (by kernel_rfl) (by kernel_rfl) (fun _ _ _ h => h) (Or.inl ⟨by rfl, ?_⟩) (by assumption) ?_
        rotate_left
        · intro w hSw
          try dsimp only at hSw
          try simp only [List.getElem_toArray, List.getElem_cons_succ, List.getElem_cons_zero]
          go_split_ands
          go_simp
          try with_reducible rfl
        try simp only [Act.put, List.getElem_toArray, List.getElem_cons_succ, List.getElem_cons_zero, List.setIfInBounds_toArray, List.set_cons_zero, List.set_cons_succ]
        refine wpAnyH_take (i := 25) (oi := _) (v := ?_) rfl (by kernel_rfl) (by kernel_rfl) (by kernel_rfl) (fun _ _ _ h => h) (Or.inl ⟨by rfl, ?_⟩) (by assumption) ?_
        rotate_left
        · intro w hSw
          try dsimp only at hSw
          try simp only [List.getElem_toArray, List.getElem_cons_succ, List.getElem_cons_zero]
          go_split_ands
          go_simp
          try with_reducible rfl
        try simp only [Act.put, List.getElem_toArray, List.getElem_cons_succ, List.getElem_cons_zero, List.setIfInBounds_toArray, List.set_cons_zero, List.set_cons_succ]
        refine wpAnyH_done (by kernel_rfl) ?_ _
        have HS3 := Lib.hid (HS2.out.fr (((((Fr.refl [] wC).drew).trans fa).trans fb).trans fd))
        clear hla hlb fa fb fd qa qb qd qr
        go_wp2_with fail
        go_roundw
        case rel => exact ⟨i + 1, _, _, L2, R2, by omega, by go_num, HS3.out, HR2.out, hL2⟩
        case measure => simp [intOf]; omega
      by_cases hk2 : ok = 2
      · subst hk2
        have HD := Lib.hid (drop_x w3 p s L k (by omega) HS.out.tab)
        simp only [kv] at HD
        obtain ⟨bb, hbb⟩ : ∃ y, has lt L k = y := ⟨_, rfl⟩
        rw [hbb] at HD
        have hlp := len_drpG (lt := lt) L k
        clear hsep hrel2
        go_wp2_with fail
        refine HD.out.mono ?_
        rintro en w4 ⟨rfl, s2, tx4, ht4, _⟩
        have HS4 := Lib.hid (HS.out.tabStep tx4 ht4)
        have e1 := (ht4.lo HS.out.lowp HS.out.lows).cell c1 hb
        clear tx4 ht4
        have HRD := Lib.hid (rdrop_any B w4 r v R k (by have := HR.out.len; omega) HS4.out.sz HS4.out.ref)
        go_wp2_with fail
        refine HRD.out.mono ?_
        rintro en wC ⟨b2, v2, R2, rfl, hdi, hra, htu⟩
        have HS2 := HS4.out.refStep hra htu
        obtain ⟨hr2, hb2⟩ := rel_drop HR.out hdi
        have HR2 := Lib.hid hr2
        have hb2' : b2 = bb := by rw [hb2]; exact hbb
        subst hb2'
        obtain ⟨L2, hL2q⟩ : ∃ y, drpG ltI L k = y := ⟨_, rfl⟩
        have HS2' := Lib.hid (show Sep B w1 wC p r s2 v2 (drpG ltI L k) R2 from HS2)
        rw [hL2q] at HS2' HR2
        have hL2 : L2.length ≤ i + 1 := by
          have h5 : (drpG ltI L k).length = if has ltI L k = true then L.length - 1 else L.length := hlp
          rw [hL2q] at h5
          split at h5 <;> omega
        clear HS2
        have HS2 := HS2'
        clear HS2' hdi hra htu hr2 hb2 hL2q hlp hbb HRD HS4 HS HR e1 c0 c1 c2 HD
        go_wp2_with fail
        obtain ⟨gv, cv, hv⟩ := ref_shape HS2.out.ref
        obtain ⟨m, hm⟩ : ∃ m, L2.length = m := ⟨_, rfl⟩
        have hRm : R2.length = m := by rw [HR2.out.len, hm]
        rw [hRm] at hv
        subst hv
        have qr : wC.drew.cell? ⟨r, 0, none⟩ = some (.slice gv m cv) := cell_of (i := 0) HS2.out.ref.tab rfl
        have HLEN := Lib.hid (len_any 0 wC.drew p L2 (tabX_at0 (tabX_frS HS2.out.tab ((Fr.refl [] wC).drew) (by simp) (by simp))))
        rw [hm] at HLEN
        have HALL := Lib.hid (all_tab 0 wC.drew p L2 (by omega) (tabX_at0 (tabX_frS HS2.out.tab ((Fr.refl [] wC).drew) (by simp) (by simp))))
        have HRALL := Lib.hid fun (w : World) (fa : Fr [] wC.drew w) => rall_any B w r _ R2 L2 (by omega) (ref_frS HS2.out.ref (((Fr.refl [] wC).drew).trans fa) (by simp) (by simp)) HR2.out
        have hm60 : m ≤ 60 := by omega
        clear hRm
        refine wp_region_held_dr (S := fun w' => w'.cell? ⟨r, 0, none⟩ = some (.slice gv m cv)) (by kernel_rfl) qr (fun hHeld => ?_)
        refine wpAnyH_take (i := 0) (oi := _) (v := ?_) rfl (by kernel_rfl) (by kernel_rfl) (by kernel_rfl) (fun _ _ _ h => h) (Or.inl ⟨by rfl, ?_⟩) (by assumption) ?_
        rotate_left
        · intro w hSw
          try dsimp only at hSw
          try simp only [List.getElem_toArray, List.getElem_cons_zero]
          go_split_ands
          go_simp
          try with_reducible rfl
        try simp only [Act.put, List.getElem_toArray, List.getElem_cons_zero, List.setIfInBounds_toArray, List.set_cons_zero, List.set_cons_succ]
        refine wpAnyH_take (i := 1) (oi := _) (v := ?_) rfl (by kernel_rfl) (by kernel_rfl) (by kernel_rfl) (fun _ _ _ h => h) (Or.inl ⟨by rfl, ?_⟩) (by assumption) ?_
        rotate_left
        · intro w hSw
          try dsimp only at hSw
          try simp only [List.getElem_toArray, List.getElem_cons_succ, List.getElem_cons_zero]
          go_split_ands
          go_simp
          try with_reducible rfl
        try simp only [Act.put, List.getElem_toArray, List.getElem_cons_succ, List.getElem_cons_zero, List.setIfInBounds_toArray, List.set_cons_zero, List.set_cons_succ]
        refine wpAnyH_take (i := 2) (oi := _) (v := ?_) rfl (by kernel_rfl) (by kernel_rfl) (by kernel_rfl) (fun _ _ _ h => h) (Or.inl ⟨by rfl, ?_⟩) (by assumption) ?_
        rotate_left
        · intro w hSw
          try dsimp only at hSw
          try simp only [List.getElem_toArray, List.getElem_cons_succ, List.getElem_cons_zero]
          go_split_ands
          go_simp
          try with_reducible rfl
        try simp only [Act.put, List.getElem_toArray, List.getElem_cons_succ, List.getElem_cons_zero, List.setIfInBounds_toArray, List.set_cons_zero, List.set_cons_succ]
        refine wpAnyH_take (i := 3) (oi := _) (v := ?_) rfl (by kernel_rfl) (by kernel_rfl) (by kernel_rfl) (fun _ _ _ h => h) (Or.inl ⟨by rfl, ?_⟩) (by assumption) ?_
        rotate_left
        · intro w hSw
          try dsimp only at hSw
          try simp only [List.getElem_toArray, List.getElem_cons_succ, List.getElem_cons_zero]
          go_split_ands
          go_simp
          try with_reducible rfl
        try simp only [Act.put, List.getElem_toArray, List.getElem_cons_succ, List.getElem_cons_zero, List.setIfInBounds_toArray, List.set_cons_zero, List.set_cons_succ]
        refine wpAnyH_take (i := 4) (oi := _) (v := ?_) rfl (by kernel_rfl) (by kernel_rfl) (by kernel_rfl) (fun _ _ _ h => h) (Or.inl ⟨by rfl, ?_⟩) (by assumption) ?_
        rotate_left
        · intro w hSw
          try dsimp only at hSw
          try simp only [List.getElem_toArray, List.getElem_cons_succ, List.getElem_cons_zero]
          go_split_ands
          go_simp
          try with_reducible rfl
        try simp only [Act.put, List.getElem_toArray, List.getElem_cons_succ, List.getElem_cons_zero, List.setIfInBounds_toArray, List.set_cons_zero, List.set_cons_succ]
        refine wpAnyH_take (i := 5) (oi := _) (v := ?_) rfl (by kernel_rfl) (by kernel_rfl) (by kernel_rfl) (fun _ _ _ h => h) (Or.inl ⟨by rfl, ?_⟩) (by assumption) ?_
        rotate_left
        · intro w hSw
          try dsimp only at hSw
          try simp only [List.getElem_toArray, List.getElem_cons_succ, List.getElem_cons_zero]
          go_split_ands
          go_simp
          try with_reducible rfl
        try simp only [Act.put, List.getElem_toArray, List.getElem_cons_succ, List.getElem_cons_zero, List.setIfInBounds_toArray, List.set_cons_zero, List.set_cons_succ]
        refine wpAnyH_take (i := 6) (oi := _) (v := ?_) rfl (by kernel_rfl) (by kernel_rfl) (by kernel_rfl) (fun _ _ _ h => h) (Or.inl ⟨by rfl, ?_⟩) (by assumption) ?_
        rotate_left
        · intro w hSw
          try dsimp only at hSw
          try simp only [List.getElem_toArray, List.getElem_cons_succ, List.getElem_cons_zero]
          go_split_ands
          go_simp
          try with_reducible rfl
        try simp only [Act.put, List.getElem_toArray, List.getElem_cons_succ, List.getElem_cons_zero, List.setIfInBounds_toArray, List.set_cons_zero, List.set_cons_succ]
        refine wpAnyH_take (i := 7) (oi := _) (v := ?_) rfl (by kernel_rfl) (by kernel_rfl) (by kernel_rfl) (fun _ _ _ h => h) (Or.inl ⟨by rfl, ?_⟩) (by assumption) ?_
        rotate_left
        · intro w hSw
          try dsimp only at hSw
          try simp only [List.getElem_toArray, List.getElem_cons_succ, List.getElem_cons_zero]
          go_split_ands
          go_simp
          try with_reducible rfl
        try simp only [Act.put, List.getElem_toArray, List.getElem_cons_succ, List.getElem_cons_zero, List.setIfInBounds_toArray, List.set_cons_zero, List.set_cons_succ]
        refine wpAnyH_take (i := 8) (oi := _) (v := ?_) rfl (by kernel_rfl) (by kernel_rfl) (by kernel_rfl) (fun _ _ _ h => h) (Or.inl ⟨by rfl, ?_⟩) (by assumption) ?_
        rotate_left
        · intro w hSw
          try dsimp only at hSw
          try simp only [List.getElem_toArray, List.getElem_cons_succ, List.getElem_cons_zero]
          go_split_ands
          go_simp
          try with_reducible rfl
        try simp only [Act.put, List.getElem_toArray, List.getElem_cons_succ, List.getElem_cons_zero, List.setIfInBounds_toArray, List.set_cons_zero, List.set_cons_succ]
        refine wpAnyH_take (i := 9) (oi := _) (v := ?_) rfl (by kernel_rfl) (by kernel_rfl) (by kernel_rfl) (fun _ _ _ h => h) (Or.inl ⟨by rfl, ?_⟩) (by assumption) ?_
        rotate_left
        · intro w hSw
          try dsimp only at hSw
          try simp only [List.getElem_toArray, List.getElem_cons_succ, List.getElem_cons_zero]
          go_split_ands
          go_simp
          try with_reducible rfl
        try simp only [Act.put, List.getElem_toArray, List.getElem_cons_succ, List.getElem_cons_zero, List.setIfInBounds_toArray, List.set_cons_zero, List.set_cons_succ]
        refine wpAnyH_take (i := 11) (oi := _) (v := ?_) rfl (by kernel_rfl) (by kernel_rfl) (by kernel_rfl) (fun _ _ _ h => h) (Or.inl ⟨by rfl, ?_⟩) (by assumption) ?_
        rotate_left
        · intro w hSw
          try dsimp only at hSw
          try simp only [List.getElem_toArray, List.getElem_cons_succ, List.getElem_cons_zero]
          go_split_ands
          go_simp
          try with_reducible rfl
        try simp only [Act.put, List.getElem_toArray, List.getElem_cons_succ, List.getElem_cons_zero, List.setIfInBounds_toArray, List.set_cons_zero, List.set_cons_succ]
        refine wpAnyH_take (i := 12) (oi := _) (v := ?_) rfl (by kernel_rfl) (by kernel_rfl) (by kernel_rfl) (fun _ _ _ h => h) (Or.inl ⟨by rfl, ?_⟩) (by assumption) ?_
        rotate_left
        · intro w hSw
          try dsimp only at hSw
          try simp only [List.getElem_toArray, List.getElem_cons_succ, List.getElem_cons_zero]
          go_split_ands
          go_simp
          try with_reducible rfl
        try simp only [Act.put, List.getElem_toArray, List.getElem_cons_succ, List.getElem_cons_zero, List.setIfInBounds_toArray, List.set_cons_zero, List.set_cons_succ]
        refine wpAnyH_take (i := 13) (oi := _) (v := ?_) rfl (by kernel_rfl) (by kernel_rfl) (by kernel_rfl) (fun _ _ _ h => h) (Or.inl ⟨by rfl, ?_⟩) (by assumption) ?_
        rotate_left
        · intro w hSw
          try dsimp only at hSw
          try simp only [List.getElem_toArray, List.getElem_cons_succ, List.getElem_cons_zero]
          go_split_ands
          go_simp
          try with_reducible rfl
        try simp only [Act.put, List.getElem_toArray, List.getElem_cons_succ, List.getElem_cons_zero, List.setIfInBounds_toArray, List.set_cons_zero, List.set_cons_succ]
        refine wpAnyH_take (i := 14) (oi := _) (v := ?_) rfl (by kernel_rfl) (by kernel_rfl) (by kernel_rfl) (fun _ _ _ h => h) (Or.inl ⟨by rfl, ?_⟩) (by assumption) ?_
        rotate_left
        · intro w hSw
          try dsimp only at hSw
          try simp only [List.getElem_toArray, List.getElem_cons_succ, List.getElem_cons_zero]
          go_split_ands
          go_simp
          try with_reducible rfl
        try simp only [Act.put, List.getElem_toArray, List.getElem_cons_succ, List.getElem_cons_zero, List.setIfInBounds_toArray, List.set_cons_zero, List.set_cons_succ]
        refine wpAnyH_take (i := 15) (oi := _) (v := ?_) rfl (by kernel_rfl) (by kernel_rfl) (by kernel_rfl) (fun _ _ _ h => h) (Or.inl ⟨by rfl, ?_⟩) (by assumption) ?_
        rotate_left
        · intro w hSw
          try dsimp only at hSw
          try simp only [List.getElem_toArray, List.getElem_cons_succ, List.getElem_cons_zero]
          go_split_ands
          go_simp
          try with_reducible rfl
        try simp only [Act.put, List.getElem_toArray, List.getElem_cons_succ, List.getElem_cons_zero, List.setIfInBounds_toArray, List.set_cons_zero, List.set_cons_succ]
        refine wpAnyH_ready (rs := [10]) (by kernel_rfl) (by simp) ?_
        refine AllReadyH.cons (o := _) rfl (fun K hK => ?_) AllReadyH.nil
        simp only [List.getElem_toArray, List.getElem_cons_succ, List.getElem_cons_zero]
        go_simp
        refine (HLEN.out).mono ?_
        rintro en wl ⟨rfl, rfl⟩
        go_wp2_with fail
        refine hK.out _ _ qr (fun hHeld => ?_)
        clear hK K
        try simp only [Act.put, List.getElem_toArray, List.getElem_cons_succ, List.getElem_cons_zero, List.setIfInBounds_toArray, List.set_cons_zero, List.set_cons_succ]
        refine wpAnyH_take (i := 16) (oi := _) (v := ?_) rfl (by kernel_rfl) (by kernel_rfl) (by kernel_rfl) (fun _ _ _ h => h) (Or.inl ⟨by rfl, ?_⟩) (by assumption) ?_
        rotate_left
        · intro w hSw
          try dsimp only at hSw
          try simp only [List.getElem_toArray, List.getElem_cons_succ, List.getElem_cons_zero]
          go_split_ands
          go_simp
          try with_reducible rfl
        try simp only [Act.put, List.getElem_toArray, List.getElem_cons_succ, List.getElem_cons_zero, List.setIfInBounds_toArray, List.set_cons_zero, List.set_cons_succ]
        refine wpAnyH_take (i := 17) (oi := _) (v := ?_) rfl (by kernel_rfl) (by kernel_rfl) (by kernel_rfl) (fun _ _ _ h => h) (Or.inl ⟨by rfl, ?_⟩) (by assumption) ?_
        rotate_left
        · intro w hSw
          try dsimp only at hSw
          try simp only [List.getElem_toArray, List.getElem_cons_succ, List.getElem_cons_zero]
          go_split_ands
          go_simp
          try with_reducible rfl
        try simp only [Act.put, List.getElem_toArray, List.getElem_cons_succ, List.getElem_cons_zero, List.setIfInBounds_toArray, List.set_cons_zero, List.set_cons_succ]
        refine wpAnyH_take (i := 18) (oi := _) (v := ?_) rfl (by kernel_rfl) (by kernel_rfl) (by kernel_rfl) (fun _ _ _ h => h) (Or.inl ⟨by rfl, ?_⟩) (by assumption) ?_
        rotate_left
        · intro w hSw
          try dsimp only at hSw
          try simp only [List.getElem_toArray, List.getElem_cons_succ, List.getElem_cons_zero]
          go_split_ands
          go_simp
          try with_reducible rfl
        try simp only [Act.put, List.getElem_toArray, List.getElem_cons_succ, List.getElem_cons_zero, List.setIfInBounds_toArray, List.set_cons_zero, List.set_cons_succ]
        refine wpAnyH_take (i := 19) (oi := _) (v := ?_) rfl (by kernel_rfl) (by kernel_rfl) (by kernel_rfl) (fun _ _ _ h => h) (Or.inl ⟨by rfl, ?_⟩) (by assumption) ?_
        rotate_left
        · intro w hSw
          try dsimp only at hSw
          try simp only [List.getElem_toArray, List.getElem_cons_succ, List.getElem_cons_zero]
          go_split_ands
          go_simp
          try with_reducible rfl
        try simp only [Act.put, List.getElem_toArray, List.getElem_cons_succ, List.getElem_cons_zero, List.setIfInBounds_toArray, List.set_cons_zero, List.set_cons_succ]
        refine wpAnyH_take (i := 21) (oi := _) (v := ?_) rfl (by kernel_rfl) (by kernel_rfl) (by kernel_rfl) (fun _ _ _ h => h) (Or.inl ⟨by rfl, ?_⟩) (by assumption) ?_
        rotate_left
        · intro w hSw
          try dsimp only at hSw
          try simp only [List.getElem_toArray, List.getElem_cons_succ, List.getElem_cons_zero]
          go_split_ands
          go_simp
          try with_reducible rfl
        try simp only [Act.put, List.getElem_toArray, List.getElem_cons_succ, List.getElem_cons_zero, List.setIfInBounds_toArray, List.set_cons_zero, List.set_cons_succ]
        refine wpAnyH_ready (rs := [20]) (by kernel_rfl) (by simp) ?_
        refine AllReadyH.cons (o := _) rfl (fun K hK => ?_) AllReadyH.nil
        simp only [List.getElem_toArray, List.getElem_cons_succ, List.getElem_cons_zero]
        go_simp
        refine (HALL.out).mono ?_
        rintro en wa ⟨ga, ca, rfl, hla, fa⟩
        have qa := fa.cell qr (by simp)
        go_wp2_with fail
        refine hK.out _ _ qa (fun hHeld => ?_)
        clear hK K
        try simp only [Act.put, List.getElem_toArray, List.getElem_cons_succ, List.getElem_cons_zero, List.setIfInBounds_toArray, List.set_cons_zero, List.set_cons_succ]
        refine wpAnyH_ready (rs := [22]) (by kernel_rfl) (by simp) ?_
        refine AllReadyH.cons (o := _) rfl (fun K hK => ?_) AllReadyH.nil
        simp only [List.getElem_toArray, List.getElem_cons_succ, List.getElem_cons_zero]
        go_simp
        refine ((HRALL.out wa fa)).mono ?_
        rintro en wb ⟨gb, cb, rfl, hlb, fb⟩
        have qb := fb.cell qa (by simp)
        have HSM := Lib.hid (same_any wb ga gb ca cb L2 (by omega) (hla.1.fr fb) hlb.1)
        rw [hm] at HSM
        go_wp2_with fail
        refine hK.out _ _ qb (fun hHeld => ?_)
        clear hK K
        try simp only [Act.put, List.getElem_toArray, List.getElem_cons_succ, List.getElem_cons_zero, List.setIfInBounds_toArray, List.set_cons_zero, List.set_cons_succ]
        refine wpAnyH_ready (rs := [23]) (by kernel_rfl) (by simp) ?_
        refine AllReadyH.cons (o := _) rfl (fun K hK => ?_) AllReadyH.nil
        simp only [List.getElem_toArray, List.getElem_cons_succ, List.getElem_cons_zero]
        go_simp
        refine (HSM.out).mono ?_
        rintro en wd ⟨rfl, fd⟩
        have qd := fd.cell qb (by simp)
        go_wp2_with fail
        refine hK.out _ _ qd (fun hHeld => ?_)
        clear hK K
        try simp only [Act.put, List.getElem_toArray, List.getElem_cons_succ, List.getElem_cons_zero, List.setIfInBounds_toArray, List.set_cons_zero, List.set_cons_succ]
        refine wpAnyH_take (i := 24) (oi := _) (v := ?_) rfl (by kernel_rfl) (by kernel_rfl) (by kernel_rfl) (fun _ _ _ h => h) (Or.inl ⟨by rfl, ?_⟩) (by assumption) ?_
        rotate_left
        · intro w hSw
          try dsimp only at hSw
          try simp only [List.getElem_toArray, List.getElem_cons_succ, List.getElem_cons_zero]
          go_split_ands
          go_simp
          try with_reducible rfl
        try simp only [Act.put, List.getElem_toArray, List.getElem_cons_succ, List.getElem_cons_zero, List.setIfInBounds_toArray, List.set_cons_zero, List.set_cons_succ]
        refine wpAnyH_take (i := 25) (oi := _) (v := ?_) rfl (by kernel_rfl) (by kernel_rfl) (by kernel_rfl) (fun _ _ _ h => h) (Or.inl ⟨by rfl, ?_⟩) (by assumption) ?_
        rotate_left
        · intro w hSw
          try dsimp only at hSw
          try simp only [List.getElem_toArray, List.getElem_cons_succ, List.getElem_cons_zero]
          go_split_ands
          go_simp
          try with_reducible rfl
        try simp only [Act.put, List.getElem_toArray, List.getElem_cons_succ, List.getElem_cons_zero, List.setIfInBounds_toArray, List.set_cons_zero, List.set_cons_succ]
        refine wpAnyH_done (by kernel_rfl) ?_ _
        have HS3 := Lib.hid (HS2.out.fr (((((Fr.refl [] wC).drew).trans fa).trans fb).trans fd))
        clear hla hlb fa fb fd qa qb qd qr
        go_wp2_with fail
        go_roundw
        case rel => exact ⟨i + 1, _, _, L2, R2, by omega, by go_num, HS3.out, HR2.out, hL2⟩
        case measure => simp [intOf]; omega
      have HS2 := HS
      have HR2 := HR
      obtain ⟨L2, rfl⟩ : ∃ y, y = L := ⟨_, rfl⟩
      obtain ⟨R2, rfl⟩ : ∃ y, y = R := ⟨_, rfl⟩
      obtain ⟨s2, rfl⟩ : ∃ y, y = s := ⟨_, rfl⟩
      obtain ⟨v2, rfl⟩ : ∃ y, y = v := ⟨_, rfl⟩
      obtain ⟨wC, rfl⟩ : ∃ y, y = w3 := ⟨_, rfl⟩
      have hL2 : L2.length ≤ i + 1 := by omega
      clear HS HR hsep hrel2
      go_wp2_with fail
      obtain ⟨gv, cv, hv⟩ := ref_shape HS2.out.ref
      obtain ⟨m, hm⟩ : ∃ m, L2.length = m := ⟨_, rfl⟩
      have hRm : R2.length = m := by rw [HR2.out.len, hm]
      rw [hRm] at hv
      subst hv
      have qr : wC.drew.cell? ⟨r, 0, none⟩ = some (.slice gv m cv) := cell_of (i := 0) HS2.out.ref.tab rfl
      have HLEN := Lib.hid (len_any 0 wC.drew p L2 (tabX_at0 (tabX_frS HS2.out.tab ((Fr.refl [] wC).drew) (by simp) (by simp))))
      rw [hm] at HLEN
      have HALL := Lib.hid (all_tab 0 wC.drew p L2 (by omega) (tabX_at0 (tabX_frS HS2.out.tab ((Fr.refl [] wC).drew) (by simp) (by simp))))
      have HRALL := Lib.hid fun (w : World) (fa : Fr [] wC.drew w) => rall_any B w r _ R2 L2 (by omega) (ref_frS HS2.out.ref (((Fr.refl [] wC).drew).trans fa) (by simp) (by simp)) HR2.out
      have hm60 : m ≤ 60 := by omega
      clear hRm
      refine wp_region_held_dr (S := fun w' => w'.cell? ⟨r, 0, none⟩ = some (.slice gv m cv)) (by kernel_rfl) qr (fun hHeld => ?_)
      refine wpAnyH_take (i := 0) (oi := _) (v := ?_) rfl (by kernel_rfl) (by kernel_rfl) (by kernel_rfl) (fun _ _ _ h => h) (Or.inl ⟨by rfl, ?_⟩) (by assumption) ?_
      rotate_left
      · intro w hSw
        try dsimp only at hSw
        try simp only [List.getElem_toArray, List.getElem_cons_zero]
        go_split_ands
        go_simp
        try with_reducible rfl
      try simp only [Act.put, List.getElem_toArray, List.getElem_cons_zero, List.setIfInBounds_toArray, List.set_cons_zero, List.set_cons_succ]
      refine wpAnyH_take (i := 1) (oi := _) (v := ?_) rfl (by kernel_rfl) (by kernel_rfl) (by kernel_rfl) (fun _ _ _ h => h) (Or.inl ⟨by rfl, ?_⟩) (by assumption) ?_
      rotate_left
      · intro w hSw
        try dsimp only at hSw
        try simp only [List.getElem_toArray, List.getElem_cons_succ, List.getElem_cons_zero]
        go_split_ands
        go_simp
        try with_reducible rfl
      try simp only [Act.put, List.getElem_toArray, List.getElem_cons_succ, List.getElem_cons_zero, List.setIfInBounds_toArray, List.set_cons_zero, List.set_cons_succ]
      refine wpAnyH_take (i := 2) (oi := _) (v := ?_) rfl (by kernel_rfl) (by kernel_rfl) (by kernel_rfl) (fun _ _ _ h => h) (Or.inl ⟨by rfl, ?_⟩) (by assumption) ?_
      rotate_left
      · intro w hSw
        try dsimp only at hSw
        try simp only [List.getElem_toArray, List.getElem_cons_succ, List.getElem_cons_zero]
        go_split_ands
        go_simp
        try with_reducible rfl
      try simp only [Act.put, List.getElem_toArray, List.getElem_cons_succ, List.getElem_cons_zero, List.setIfInBounds_toArray, List.set_cons_zero, List.set_cons_succ]
      refine wpAnyH_take (i := 3) (oi := _) (v := ?_) rfl (by kernel_rfl) (by kernel_rfl) (by kernel_rfl) (fun _ _ _ h => h) (Or.inl ⟨by rfl, ?_⟩) (by assumption) ?_
      rotate_left
      · intro w hSw
        try dsimp only at hSw
        try simp only [List.getElem_toArray, List.getElem_cons_succ, List.getElem_cons_zero]
        go_split_ands
        go_simp
        try with_reducible rfl
      try simp only [Act.put, List.getElem_toArray, List.getElem_cons_succ, List.getElem_cons_zero, List.setIfInBounds_toArray, List.set_cons_zero, List.set_cons_succ]
      refine wpAnyH_take (i := 4) (oi := _) (v := ?_) rfl (by kernel_rfl) (by kernel_rfl) (by kernel_rfl) (fun _ _ _ h => h) (Or.inl ⟨by rfl, ?_⟩) (by assumption) ?_
      rotate_left
      · intro w hSw
        try dsimp only at hSw
        try simp only [List.getElem_toArray, List.getElem_cons_succ, List.getElem_cons_zero]
        go_split_ands
        go_simp
        try with_reducible rfl
      try simp only [Act.put, List.getElem_toArray, List.getElem_cons_succ, List.getElem_cons_zero, List.setIfInBounds_toArray, List.set_cons_zero, List.set_cons_succ]
      refine wpAnyH_take (i := 5) (oi := _) (v := ?_) rfl (by kernel_rfl) (by kernel_rfl) (by kernel_rfl) (fun _ _ _ h => h) (Or.inl ⟨by rfl, ?_⟩) (by assumption) ?_
      rotate_left
      · intro w hSw
        try dsimp only at hSw
        try simp only [List.getElem_toArray, List.getElem_cons_succ, List.getElem_cons_zero]
        go_split_ands
        go_simp
        try with_reducible rfl
      try simp only [Act.put, List.getElem_toArray, List.getElem_cons_succ, List.getElem_cons_zero, List.setIfInBounds_toArray, List.set_cons_zero, List.set_cons_succ]
      refine wpAnyH_take (i := 6) (oi := _) (v := ?_) rfl (by kernel_rfl) (by kernel_rfl) (by kernel_rfl) (fun _ _ _ h => h) (Or.inl ⟨by rfl, ?_⟩) (by assumption) ?_
      rotate_left
      · intro w hSw
        try dsimp only at hSw
        try simp only [List.getElem_toArray, List.getElem_cons_succ, List.getElem_cons_zero]
        go_split_ands
        go_simp
        try with_reducible rfl
      try simp only [Act.put, List.getElem_toArray, List.getElem_cons_succ, List.getElem_cons_zero, List.setIfInBounds_toArray, List.set_cons_zero, List.set_cons_succ]
      refine wpAnyH_take (i := 7) (oi := _) (v := ?_) rfl (by kernel_rfl) (by kernel_rfl) (by kernel_rfl) (fun _ _ _ h => h) (Or.inl ⟨by rfl, ?_⟩) (by assumption) ?_
      rotate_left
      · intro w hSw
        try dsimp only at hSw
        try simp only [List.getElem_toArray, List.getElem_cons_succ, List.getElem_cons_zero]
        go_split_ands
        go_simp
        try with_reducible rfl
      try simp only [Act.put, List.getElem_toArray, List.getElem_cons_succ, List.getElem_cons_zero, List.setIfInBounds_toArray, List.set_cons_zero, List.set_cons_succ]
      refine wpAnyH_take (i := 8) (oi := _) (v := ?_) rfl (by kernel_rfl) (by kernel_rfl) (by kernel_rfl) (fun _ _ _ h => h) (Or.inl ⟨by rfl, ?_⟩) (by assumption) ?_
      rotate_left
      · intro w hSw
        try dsimp only at hSw
        try simp only [List.getElem_toArray, List.getElem_cons_succ, List.getElem_cons_zero]
        go_split_ands
        go_simp
        try with_reducible rfl
      try simp only [Act.put, List.getElem_toArray, List.getElem_cons_succ, List.getElem_cons_zero, List.setIfInBounds_toArray, List.set_cons_zero, List.set_cons_succ]
      refine wpAnyH_take (i := 9) (oi := _) (v := ?_) rfl (by kernel_rfl) (by kernel_rfl) (by kernel_rfl) (fun _ _ _ h => h) (Or.inl ⟨by rfl, ?_⟩) (by assumption) ?_
      rotate_left
      · intro w hSw
        try dsimp only at hSw
        try simp only [List.getElem_toArray, List.getElem_cons_succ, List.getElem_cons_zero]
        go_split_ands
        go_simp
        try with_reducible rfl
      try simp only [Act.put, List.getElem_toArray, List.getElem_cons_succ, List.getElem_cons_zero, List.setIfInBounds_toArray, List.set_cons_zero, List.set_cons_succ]
      refine wpAnyH_take (i := 11) (oi := _) (v := ?_) rfl (by kernel_rfl) (by kernel_rfl) (by kernel_rfl) (fun _ _ _ h => h) (Or.inl ⟨by rfl, ?_⟩) (by assumption) ?_
      rotate_left
      · intro w hSw
        try dsimp only at hSw
        try simp only [List.getElem_toArray, List.getElem_cons_succ, List.getElem_cons_zero]
        go_split_ands
        go_simp
        try with_reducible rfl
      try simp only [Act.put, List.getElem_toArray, List.getElem_cons_succ, List.getElem_cons_zero, List.setIfInBounds_toArray, List.set_cons_zero, List.set_cons_succ]
      refine wpAnyH_take (i := 12) (oi := _) (v := ?_) rfl (by kernel_rfl) (by kernel_rfl) (by kernel_rfl) (fun _ _ _ h => h) (Or.inl ⟨by rfl, ?_⟩) (by assumption) ?_
      rotate_left
      · intro w hSw
        try dsimp only at hSw
        try simp only [List.getElem_toArray, List.getElem_cons_succ, List.getElem_cons_zero]
        go_split_ands
        go_simp
        try with_reducible rfl
      try simp only [Act.put, List.getElem_toArray, List.getElem_cons_succ, List.getElem_cons_zero, List.setIfInBounds_toArray, List.set_cons_zero, List.set_cons_succ]
      refine wpAnyH_take (i := 13) (oi := _) (v := ?_) rfl (by kernel_rfl) (by kernel_rfl) (by kernel_rfl) (fun _ _ _ h => h) (Or.inl ⟨by rfl, ?_⟩) (by assumption) ?_
      rotate_left
      · intro w hSw
        try dsimp only at hSw
        try simp only [List.getElem_toArray, List.getElem_cons_succ, List.getElem_cons_zero]
        go_split_ands
        go_simp
        try with_reducible rfl
      try simp only [Act.put, List.getElem_toArray, List.getElem_cons_succ, List.getElem_cons_zero, List.setIfInBounds_toArray, List.set_cons_zero, List.set_cons_succ]
      refine wpAnyH_take (i := 14) (oi := _) (v := ?_) rfl (by kernel_rfl) (by kernel_rfl) (by kernel_rfl) (fun _ _ _ h => h) (Or.inl ⟨by rfl, ?_⟩) (by assumption) ?_
      rotate_left
      · intro w hSw
        try dsimp only at hSw
        try simp only [List.getElem_toArray, List.getElem_cons_succ, List.getElem_cons_zero]
        go_split_ands
        go_simp
        try with_reducible rfl
      try simp only [Act.put, List.getElem_toArray, List.getElem_cons_succ, List.getElem_cons_zero, List.setIfInBounds_toArray, List.set_cons_zero, List.set_cons_succ]
      refine wpAnyH_take (i := 15) (oi := _) (v := ?_) rfl (by kernel_rfl) (by kernel_rfl) (by kernel_rfl) (fun _ _ _ h => h) (Or.inl ⟨by rfl, ?_⟩) (by assumption) ?_
      rotate_left
      · intro w hSw
        try dsimp only at hSw
        try simp only [List.getElem_toArray, List.getElem_cons_succ, List.getElem_cons_zero]
        go_split_ands
        go_simp
        try with_reducible rfl
      try simp only [Act.put, List.getElem_toArray, List.getElem_cons_succ, List.getElem_cons_zero, List.setIfInBounds_toArray, List.set_cons_zero, List.set_cons_succ]
      refine wpAnyH_ready (rs := [10]) (by kernel_rfl) (by simp) ?_
      refine AllReadyH.cons (o := _) rfl (fun K hK => ?_) AllReadyH.nil
      simp only [List.getElem_toArray, List.getElem_cons_succ, List.getElem_cons_zero]
      go_simp
      refine (HLEN.out).mono ?_
      rintro en wl ⟨rfl, rfl⟩
      go_wp2_with fail
      refine hK.out _ _ qr (fun hHeld => ?_)
      clear hK K
      try simp only [Act.put, List.getElem_toArray, List.getElem_cons_succ, List.getElem_cons_zero, List.setIfInBounds_toArray, List.set_cons_zero, List.set_cons_succ]
      refine wpAnyH_take (i := 16) (oi := _) (v := ?_) rfl (by kernel_rfl) (by kernel_rfl) (by kernel_rfl) (fun _ _ _ h => h) (Or.inl ⟨by rfl, ?_⟩) (by assumption) ?_
      rotate_left
      · intro w hSw
        try dsimp only at hSw
        try simp only [List.getElem_toArray, List.getElem_cons_succ, List.getElem_cons_zero]
        go_split_ands
        go_simp
        try with_reducible rfl
      try simp only [Act.put, List.getElem_toArray, List.getElem_cons_succ, List.getElem_cons_zero, List.setIfInBounds_toArray, List.set_cons_zero, List.set_cons_succ]
      refine wpAnyH_take (i := 17) (oi := _) (v := ?_) rfl (by kernel_rfl) (by kernel_rfl) (by kernel_rfl) (fun _ _ _ h => h) (Or.inl ⟨by rfl, ?_⟩) (by assumption) ?_
      rotate_left
      · intro w hSw
        try dsimp only at hSw
        try simp only [List.getElem_toArray, List.getElem_cons_succ, List.getElem_cons_zero]
        go_split_ands
        go_simp
        try with_reducible rfl
      try simp only [Act.put, List.getElem_toArray, List.getElem_cons_succ, List.getElem_cons_zero, List.setIfInBounds_toArray, List.set_cons_zero, List.set_cons_succ]
      refine wpAnyH_take (i := 18) (oi := _) (v := ?_) rfl (by kernel_rfl) (by kernel_rfl) (by kernel_rfl) (fun _ _ _ h => h) (Or.inl ⟨by rfl, ?_⟩) (by assumption) ?_
      rotate_left
      · intro w hSw
        try dsimp only at hSw
        try simp only [List.getElem_toArray, List.getElem_cons_succ, List.getElem_cons_zero]
        go_split_ands
        go_simp
        try with_reducible rfl
      try simp only [Act.put, List.getElem_toArray, List.getElem_cons_succ, List.getElem_cons_zero, List.setIfInBounds_toArray, List.set_cons_zero, List.set_cons_succ]
      refine wpAnyH_take (i := 19) (oi := _) (v := ?_) rfl (by kernel_rfl) (by kernel_rfl) (by kernel_rfl) (fun _ _ _ h => h) (Or.inl ⟨by rfl, ?_⟩) (by assumption) ?_
      rotate_left
      · intro w hSw
        try dsimp only at hSw
        try simp only [List.getElem_toArray, List.getElem_cons_succ, List.getElem_cons_zero]
        go_split_ands
        go_simp
        try with_reducible rfl
      try simp only [Act.put, List.getElem_toArray, List.getElem_cons_succ, List.getElem_cons_zero, List.setIfInBounds_toArray, List.set_cons_zero, List.set_cons_succ]
      refine wpAnyH_take (i := 21) (oi := _) (v := ?_) rfl (by kernel_rfl) (by kernel_rfl) (by kernel_rfl) (fun _ _ _ h => h) (Or.inl ⟨by rfl, ?_⟩) (by assumption) ?_
      rotate_left
      · intro w hSw
        try dsimp only at hSw
        try simp only [List.getElem_toArray, List.getElem_cons_succ, List.getElem_cons_zero]
        go_split_ands
        go_simp
        try with_reducible rfl
      try simp only [Act.put, List.getElem_toArray, List.getElem_cons_succ, List.getElem_cons_zero, List.setIfInBounds_toArray, List.set_cons_zero, List.set_cons_succ]
      refine wpAnyH_ready (rs := [20]) (by kernel_rfl) (by simp) ?_
      refine AllReadyH.cons (o := _) rfl (fun K hK => ?_) AllReadyH.nil
      simp only [List.getElem_toArray, List.getElem_cons_succ, List.getElem_cons_zero]
      go_simp
      refine (HALL.out).mono ?_
      rintro en wa ⟨ga, ca, rfl, hla, fa⟩
      have qa := fa.cell qr (by simp)
      go_wp2_with fail
      refine hK.out _ _ qa (fun hHeld => ?_)
      clear hK K
      try simp only [Act.put, List.getElem_toArray, List.getElem_cons_succ, List.getElem_cons_zero, List.setIfInBounds_toArray, List.set_cons_zero, List.set_cons_succ]
      refine wpAnyH_ready (rs := [22]) (by kernel_rfl) (by simp) ?_
      refine AllReadyH.cons (o := _) rfl (fun K hK => ?_) AllReadyH.nil
      simp only [List.getElem_toArray, List.getElem_cons_succ, List.getElem_cons_zero]
      go_simp
      refine ((HRALL.out wa fa)).mono ?_
      rintro en wb ⟨gb, cb, rfl, hlb, fb⟩
      have qb := fb.cell qa (by simp)
      have HSM := Lib.hid (same_any wb ga gb ca cb L2 (by omega) (hla.1.fr fb) hlb.1)
      rw [hm] at HSM
      go_wp2_with fail
      refine hK.out _ _ qb (fun hHeld => ?_)
      clear hK K
      try simp only [Act.put, List.getElem_toArray, List.getElem_cons_succ, List.getElem_cons_zero, List.setIfInBounds_toArray, List.set_cons_zero, List.set_cons_succ]
      refine wpAnyH_ready (rs := [23]) (by kernel_rfl) (by simp) ?_
      refine AllReadyH.cons (o := _) rfl (fun K hK => ?_) AllReadyH.nil
      simp only [List.getElem_toArray, List.getElem_cons_succ, List.getElem_cons_zero]
      go_simp
      refine (HSM.out).mono ?_
      rintro en wd ⟨rfl, fd⟩
      have qd := fd.cell qb (by simp)
      go_wp2_with fail
      refine hK.out _ _ qd (fun hHeld => ?_)
      clear hK K
      try simp only [Act.put, List.getElem_toArray, List.getElem_cons_succ, List.getElem_cons_zero, List.setIfInBounds_toArray, List.set_cons_zero, List.set_cons_succ]
      refine wpAnyH_take (i := 24) (oi := _) (v := ?_) rfl (by kernel_rfl) (by kernel_rfl) (by kernel_rfl) (fun _ _ _ h => h) (Or.inl ⟨by rfl, ?_⟩) (by assumption) ?_
      rotate_left
      · intro w hSw
        try dsimp only at hSw
        try simp only [List.getElem_toArray, List.getElem_cons_succ, List.getElem_cons_zero]
        go_split_ands
        go_simp
        try with_reducible rfl
      try simp only [Act.put, List.getElem_toArray, List.getElem_cons_succ, List.getElem_cons_zero, List.setIfInBounds_toArray, List.set_cons_zero, List.set_cons_succ]
      refine wpAnyH_take (i := 25) (oi := _) (v := ?_) rfl (by kernel_rfl) (by kernel_rfl) (by kernel_rfl) (fun _ _ _ h => h) (Or.inl ⟨by rfl, ?_⟩) (by assumption) ?_
      rotate_left
      · intro w hSw
        try dsimp only at hSw
        try simp only [List.getElem_toArray, List.getElem_cons_succ, List.getElem_cons_zero]
        go_split_ands
        go_simp
        try with_reducible rfl
      try simp only [Act.put, List.getElem_toArray, List.getElem_cons_succ, List.getElem_cons_zero, List.setIfInBounds_toArray, List.set_cons_zero, List.set_cons_succ]
      refine wpAnyH_done (by kernel_rfl) ?_ _
      have HS3 := Lib.hid (HS2.out.fr (((((Fr.refl [] wC).drew).trans fa).trans fb).trans fd))
      clear hla hlb fa fb fd qa qb qd qr
      go_wp2_with fail
      go_roundw
      case rel => exact ⟨i + 1, _, _, L2, R2, by omega, by go_num, HS3.out, HR2.out, hL2⟩
      case measure => simp [intOf]; omega
    · obtain rfl : i = len := by omega
      have HS := Lib.hid hsep
      have HR := Lib.hid hrel2
      have HLE := Lib.hid (least_any w3 p s L (by omega) hsep.tab.tab hsep.tab.th)
      obtain ⟨gv, cv, hv⟩ := ref_shape hsep.ref
      obtain ⟨m, hm⟩ : ∃ m, L.length = m := ⟨_, rfl⟩
      have hRm : R.length = m := by rw [hrel2.len, hm]
      rw [hRm] at hv
      subst hv
      have HM := Lib.hid hm
      clear hsep hrel2
      go_wp2_with fail
      refine HLE.out.mono ?_
      rintro en w4 ⟨rfl, f4⟩
      have HS4 := Lib.hid (HS.out.fr f4)
      have qr : w4.cell? ⟨r, 0, none⟩ = some (.slice gv m cv) := cell_of (i := 0) HS4.out.ref.tab rfl
      have FIN := Lib.hid (FF.out.trans (Lo.fr HS4.out.lo (by rw [HB.out]; exact Nat.le_refl _)))
      cases L with
      | nil =>
        have hm0 : m = 0 := by rw [← hm]; rfl
        subst hm0
        simp only [leastV, kv, vv, k0, v0]
        clear hm hRm f4
        go_wp2_with fail
        go_ret
        exact ⟨rfl, FIN.out⟩
      | cons y L =>
        obtain ⟨a, u⟩ := y
        have hm1 : ¬ ((m : Int) = 0) := by rw [← hm]; simp; omega
        have hm2 : 0 < m := by rw [← hm]; simp
        simp only [leastV, kv, vv]
        have HRA := Lib.hid (rall_any B w4 r _ R ((a, u) :: L) (by omega) HS4.out.ref HR.out)
        clear f4
        go_wp2_with fail
        refine HRA.out.mono ?_
        rintro en w5 ⟨gc, cc, rfl, hlc, f5⟩
        obtain ⟨bq, oq, rfl, _, d0, d1⟩ := hlc.1 0 (a, u) rfl
        simp only [Nat.zero_mul, Nat.add_zero] at d0 d1
        rw [HM.out]
        have FIN5 := Lib.hid (FIN.out.trans f5)
        clear hlc f5 hm hRm
        go_wp2_with fail
        go_ret
        exact ⟨rfl, FIN5.out.alloc _⟩
end Go.Proofs.Ytamnmpcnhaeigaa.TabI

/- The document's Twice: a step. -/
import Derived.Test.YtnjoefanafjniaaTwR
import Derived.Test.YtnjoefanafjniaaHeldZ
namespace Go.Proofs.Ytnjoefanafjniaa
open Go.RowKit

/-- What a step of the document leaves. -/
def RefPost (w : World) (p pr qr : Nat) (c : ConfV) (v : Value) (L' : List Int) (M : List Int) (t' : Int) (d : Bool) (e : Ending) (w' : World) : Prop :=
  ∃ v', e = .returned (.bool d) ∧ RefT w' p c v' L' ∧ MemAt 55 w' pr qr M t' ∧ Fr (p :: pr :: qr :: v.ownBlock.toList) w w' ∧ (∀ b, v'.ownBlock = some b → v.ownBlock = some b ∨ w.heap.size ≤ b)

theorem own_q {w w5 w6 : World} {pm qm : Nat} {gR : Option Addr} {k cR : Nat} {R : List Int} (hT : OwnI w (.slice gR R.length cR) R) (hk : k = R.length)
    (f5 : Fr [] w.drew w5) (f6 : Fr [pm, qm] w5 w6) (hr : ∀ b, (Value.slice gR R.length cR).ownBlock = some b → b ∉ [pm, qm]) (o : Obj) : (w6.alloc o).ownsRow 0 3 1 (.slice gR k cR) k (R.map (Value.int .i64)) := by
  subst hk
  exact ((hT.fr (((Fr.refl [] w).drew.trans f5)) (by simp)).fr f6 hr).fr ((Fr.refl [] w6).alloc o) (by simp)
/-- Behind a step's append. -/
structure RMid (w w9 : World) (p pr qr : Nat) (c : ConfV) (v v7 : Value) (L1 M : List Int) (t : Int) : Prop where
  r : RefT w9 p c v7 L1
  m : MemAt 55 w9 pr qr M t
  f : Fr (p :: pr :: qr :: v.ownBlock.toList) w w9
  nb : ∀ b, v7.ownBlock = some b → v.ownBlock = some b ∨ w.heap.size ≤ b
theorem rmid_at {w w5 w6 w7 : World} {p pr qr : Nat} {c : ConfV} {v : Value} {R : List Int} (hT : RefT w p c v R)
    (f5 : Fr [] w.drew w5) (f6 : Fr [pr, qr] w5 w6) (hpm : p ≠ pr ∧ p ≠ qr) (o : Obj) (hg : (w6.alloc o).grownBy w7 v.ownBlock) :
    w7.heap[p]? = some (.cells #[.int .i64 c.wo, .int .i64 c.sl, .int .i64 c.st, .int .i64 c.wa, .int .i64 c.us, v] 58) := by
  have fa : Fr [pr, qr] w (w6.alloc o) := ((((Fr.refl [] w).drew.trans f5).mono (by simp)).trans f6).alloc o
  have F7 : Fr (pr :: qr :: v.ownBlock.toList) w w7 := (fa.mono (by simp +contextual)).grown hg (fun k hk => .inl (by simp [hk]))
  refine F7.at hT.b ?_
  simp only [List.mem_cons, not_or, Option.mem_toList]
  exact ⟨hpm.1, hpm.2, hT.hv⟩
theorem rmid_of {w w5 w6 w7 : World} {p pr qr : Nat} {c : ConfV} {gR : Option Addr} {k cR : Nat} {v7 : Value} {R : List Int} {x : Int} {M : List Int} {t t' t0 : Int} (hT : RefT w p c (.slice gR R.length cR) R) (hk : k = R.length)
    (f5 : Fr [] w.drew w5) (h6 : Left 55 pr qr M t' w5 w6) (ht : t' = t) (hM : MemAt 55 w pr qr M t0) (hpm : p ≠ pr ∧ p ≠ qr) (hr : ∀ b, (Value.slice gR R.length cR).ownBlock = some b → b ∉ [pr, qr])
    (o : Obj) (hown : w7.ownsRow 0 3 1 v7 (k + 1) (R.map (Value.int .i64) ++ [.int .i64 x])) (hg : (w6.alloc o).grownBy w7 (Value.slice gR k cR).ownBlock) (hat : v7.ownBlock = (Value.slice gR k cR).ownBlock ∨ v7.ownBlock = some (w6.alloc o).heap.size) :
    RMid w (w7.setCell ⟨p, 5, none⟩ v7) p pr qr c (.slice gR R.length cR) v7 (R ++ [x]) M t := by
  subst hk ht
  obtain ⟨hm6, f6⟩ := h6
  generalize hvR : Value.slice gR R.length cR = vR at hT hr hg hat ⊢
  have hmlt : pr < w.heap.size ∧ qr < w.heap.size := ⟨hM.plt, hM.qlt⟩
  have f6' : Fr [pr, qr] w w6 := (((Fr.refl [] w).drew.trans f5).mono (by simp)).trans f6
  have fa : Fr [pr, qr] w (w6.alloc o) := f6'.alloc o
  have F7 : Fr (pr :: qr :: vR.ownBlock.toList) w w7 := (fa.mono (by simp +contextual)).grown hg (fun k hk => .inl (by simp [hk]))
  have fg : Fr vR.ownBlock.toList w6 w7 := (((Fr.refl _ w6).alloc o)).grown hg (fun k hk => .inl (by simp [hk]))
  have hpv : v7.ownBlock ≠ some p := fun e => by
    rcases hat with h | h
    · exact hT.hv (h ▸ e)
    · rw [h] at e
      have h1 := fa.size
      have h2 := heap_lt hT.b
      injection e with e
      omega
  have hpS : p ∉ pr :: qr :: vR.ownBlock.toList := by
    simp only [List.mem_cons, not_or, Option.mem_toList]
    exact ⟨hpm.1, hpm.2, hT.hv⟩
  have fs : Fr [p] w7 (w7.setCell ⟨p, 5, none⟩ v7) := (Fr.refl _ _).setCell (.inl (by simp)) _
  refine ⟨⟨heap_setCell_same (F7.at hT.b hpS) v7, ?_, hpv⟩, ?_, ?_, fun b hb => ?_⟩
  · have : OwnI w7 v7 (R ++ [x]) := by unfold OwnI; simpa using hown
    exact this.fr fs (fun b hb => by simp; exact fun h => hpv (h ▸ hb))
  · refine (hm6.fr fg ?_ ?_).fr fs (by simp; exact Ne.symm hpm.1) (by simp; exact Ne.symm hpm.2)
    · intro h; exact hr pr (by simpa using h) (by simp)
    · intro h; exact hr qr (by simpa using h) (by simp)
  · exact (F7.mono (by simp +contextual)).trans (fs.mono (by simp))
  · rcases hat with h | h
    · exact .inl (h ▸ hb)
    · rw [h] at hb
      injection hb with hb
      exact .inr (by have := fa.size; omega)

set_option maxHeartbeats 8000000 in
set_option maxRecDepth 100000 in
theorem rstep_any (w : World) (p pr qr : Nat) (c : ConfV) (v : Value) (L M : List Int) (t : Int) (hc : c.small) (h : RefT w p c v L) (hL : L.length ≤ 900) (hM : MemAt 55 w pr qr M t) (ht0 : 0 ≤ t) (ht1 : t ≤ 1000000)
    (hml : (M.length : Int) = c.cells) (hpr : p ≠ pr ∧ p ≠ qr) (hv : v.ownBlock ≠ some pr ∧ v.ownBlock ≠ some qr) :
    Calls Try.prog 22 #[.pointer (some ⟨p, 0, none⟩), .pointer (some ⟨pr, 0, none⟩)] w
      (RefPost w p pr qr c v (seeL c.sl.toNat (loadV M (c.slot ((L.length % c.sl.toNat : Nat) : Int))) L) M (if doneB c.sl.toNat L then t else t + 1) (doneB c.sl.toNat (seeL c.sl.toNat (loadV M (c.slot ((L.length % c.sl.toNat : Nat) : Int))) L))) := by
  have HD := Lib.hid (rdone_any w p c v L hc h (by omega))
  have HR := Lib.hid h; have HM := Lib.hid hM
  cases hd : doneB c.sl.toNat L with
  | true =>
    rw [hd] at HD
    have es : seeL c.sl.toNat (loadV M (c.slot ((L.length % c.sl.toNat : Nat) : Int))) L = L := by unfold seeL; rw [hd]; rfl
    rw [es, hd]
    clear h hM es
    go_enter Try.func22, Try.ntmps22
    go_wp2_with fail
    refine HD.out.mono ?_
    rintro e w2 ⟨rfl, f2⟩
    have HP := Lib.hid (show RefPost w p pr qr c v L M t true (.returned (.bool true)) w2 from ⟨v, rfl, HR.out.fr f2 (by simp) (by simp), HM.out.fr f2 (by simp) (by simp), f2.mono (by simp), fun b hb => .inl hb⟩)
    clear f2
    go_wp2
    go_ret
    exact HP.out
  | false =>
    rw [hd] at HD
    obtain ⟨i0, hi, hz0, hz1, hz2⟩ := info_parts int_info
    have es : ∀ x, seeL c.sl.toNat x L = L ++ [x] := fun x => by unfold seeL; rw [hd]; rfl
    rw [es]
    have hsl := hc.2.1
    obtain ⟨g, cap, rfl, hI, hcap⟩ := h.o.ints
    obtain ⟨k, hk⟩ : ∃ k, k = L.length := ⟨_, rfl⟩
    obtain ⟨j, hj⟩ : ∃ j, j = k % c.sl.toNat := ⟨_, rfl⟩
    have hjl : (j : Int) < c.sl := by have := Nat.mod_lt k (show 0 < c.sl.toNat by omega); omega
    have HSL := Lib.hid (fun W : World => rslot_any W c j hc (by omega) hjl)
    have HTC := Lib.hid (slot_in hc hml (show (0 : Int) ≤ (j : Int) by omega) hjl)
    have HMEM := Lib.hid (fun (W : World) (h : MemAt 55 W pr qr M t) => rload_any W pr qr M t (c.slot j) h ht0 (by omega))
    have HJ := Lib.hid (show (k : Int).tmod c.sl = (j : Int) by
      obtain ⟨S, hS⟩ : ∃ S : Nat, c.sl = (S : Int) := ⟨c.sl.toNat, by omega⟩
      rw [hj, hS]
      rfl)
    have hsl0 : ¬ c.sl = 0 := by omega
    have HK := Lib.hid hk; have HV := Lib.hid hv; have HPR := Lib.hid hpr
    rw [← hk, ← hj]
    have hk9 : k ≤ 900 := by omega
    clear es hI hj h hM hd hv hml hk
    go_enter Try.func22, Try.ntmps22
    go_wp2_with fail
    refine HD.out.mono ?_
    rintro e w2 ⟨rfl, f2⟩
    have hb2 := f2.at HR.out.b (by simp)
    have HB2 := Lib.hid hb2
    have HF2 := Lib.hid f2
    have HM2 := Lib.hid (HM.out.fr f2 (by simp) (by simp))
    have a0 : w2.cell? ⟨p, 0, none⟩ = some (.int .i64 c.wo) := cell_of hb2 rfl
    have a1 : w2.cell? ⟨p, 1, none⟩ = some (.int .i64 c.sl) := cell_of hb2 rfl
    have a2 : w2.cell? ⟨p, 2, none⟩ = some (.int .i64 c.st) := cell_of hb2 rfl
    have a3 : w2.cell? ⟨p, 3, none⟩ = some (.int .i64 c.wa) := cell_of hb2 rfl
    have a4 : w2.cell? ⟨p, 4, none⟩ = some (.int .i64 c.us) := cell_of hb2 rfl
    have a5 : w2.cell? ⟨p, 5, none⟩ = some (.slice g k cap) := by rw [HK.out]; exact cell_of hb2 rfl
    have HR2 := Lib.hid (HR.out.fr f2 (by simp) (by simp))
    have hrb : ∀ b, (Value.slice g L.length cap).ownBlock = some b → b ∉ [pr, qr] := fun b hb => by
      simp only [List.mem_cons, List.not_mem_nil, or_false, not_or]
      exact ⟨fun h => HV.out.1 (h ▸ hb), fun h => HV.out.2 (h ▸ hb)⟩
    have HRP := Lib.hid hrb
    have HRP2 := Lib.hid (show some p ≠ (Value.slice g k cap).ownBlock by rw [HK.out]; exact Ne.symm HR.out.hv)
    have hprn : p ∉ [pr, qr] := by simp; exact HPR.out
    clear hb2 f2 hrb
    go_wp2_with fail
    refine wp_region_heldZ (z := 27) (S := fun w' => w'.cell? ⟨p, 0, none⟩ = some (.int .i64 c.wo) ∧ w'.cell? ⟨p, 1, none⟩ = some (.int .i64 c.sl) ∧ w'.cell? ⟨p, 2, none⟩ = some (.int .i64 c.st) ∧ w'.cell? ⟨p, 3, none⟩ = some (.int .i64 c.wa) ∧ w'.cell? ⟨p, 4, none⟩ = some (.int .i64 c.us) ∧ w'.cell? ⟨p, 5, none⟩ = some (.slice g k cap)) (by kernel_rfl) ⟨a0, a1, a2, a3, a4, a5⟩ (fun hHeld => ?_)
    refine wpAnyZ_take (i := 0) (oi := _) (v := ?_) rfl (by kernel_rfl) (by kernel_rfl) (by kernel_rfl) (by kernel_rfl) (fun _ _ _ h => h) (Or.inl ⟨by rfl, ?_⟩) (by assumption) ?_
    rotate_left
    · intro w hSw
      try dsimp only at hSw
      try simp only [List.getElem_toArray, List.getElem_cons_zero]
      go_split_ands
      go_simp
      try with_reducible rfl
    try simp only [Act.put, List.getElem_toArray, List.getElem_cons_zero, List.setIfInBounds_toArray, List.set_cons_zero, List.set_cons_succ]
    refine wpAnyZ_take (i := 1) (oi := _) (v := ?_) rfl (by kernel_rfl) (by kernel_rfl) (by kernel_rfl) (by kernel_rfl) (fun _ _ _ h => h) (Or.inl ⟨by rfl, ?_⟩) (by assumption) ?_
    rotate_left
    · intro w hSw
      try dsimp only at hSw
      try simp only [List.getElem_toArray, List.getElem_cons_succ, List.getElem_cons_zero]
      go_split_ands
      go_simp
      try with_reducible rfl
    try simp only [Act.put, List.getElem_toArray, List.getElem_cons_succ, List.getElem_cons_zero, List.setIfInBounds_toArray, List.set_cons_zero, List.set_cons_succ]
    refine wpAnyZ_take (i := 2) (oi := _) (v := ?_) rfl (by kernel_rfl) (by kernel_rfl) (by kernel_rfl) (by kernel_rfl) (fun _ _ _ h => h) (Or.inl ⟨by rfl, ?_⟩) (by assumption) ?_
    rotate_left
    · intro w hSw
      try dsimp only at hSw
      try simp only [List.getElem_toArray, List.getElem_cons_succ, List.getElem_cons_zero]
      go_split_ands
      go_simp
      try with_reducible rfl
    try simp only [Act.put, List.getElem_toArray, List.getElem_cons_succ, List.getElem_cons_zero, List.setIfInBounds_toArray, List.set_cons_zero, List.set_cons_succ]
    refine wpAnyZ_take (i := 3) (oi := _) (v := ?_) rfl (by kernel_rfl) (by kernel_rfl) (by kernel_rfl) (by kernel_rfl) (fun _ _ _ h => h) (Or.inl ⟨by rfl, ?_⟩) (by assumption) ?_
    rotate_left
    · intro w hSw
      try dsimp only at hSw
      try simp only [List.getElem_toArray, List.getElem_cons_succ, List.getElem_cons_zero]
      go_split_ands
      go_simp
      try with_reducible rfl
    try simp only [Act.put, List.getElem_toArray, List.getElem_cons_succ, List.getElem_cons_zero, List.setIfInBounds_toArray, List.set_cons_zero, List.set_cons_succ]
    refine wpAnyZ_take (i := 4) (oi := _) (v := ?_) rfl (by kernel_rfl) (by kernel_rfl) (by kernel_rfl) (by kernel_rfl) (fun _ _ _ h => h) (Or.inl ⟨by rfl, ?_⟩) (by assumption) ?_
    rotate_left
    · intro w hSw
      try dsimp only at hSw
      try simp only [List.getElem_toArray, List.getElem_cons_succ, List.getElem_cons_zero]
      go_split_ands
      go_simp
      try with_reducible rfl
    try simp only [Act.put, List.getElem_toArray, List.getElem_cons_succ, List.getElem_cons_zero, List.setIfInBounds_toArray, List.set_cons_zero, List.set_cons_succ]
    refine wpAnyZ_take (i := 5) (oi := _) (v := ?_) rfl (by kernel_rfl) (by kernel_rfl) (by kernel_rfl) (by kernel_rfl) (fun _ _ _ h => h) (Or.inl ⟨by rfl, ?_⟩) (by assumption) ?_
    rotate_left
    · intro w hSw
      try dsimp only at hSw
      try simp only [List.getElem_toArray, List.getElem_cons_succ, List.getElem_cons_zero]
      go_split_ands
      go_simp
      try with_reducible rfl
    try simp only [Act.put, List.getElem_toArray, List.getElem_cons_succ, List.getElem_cons_zero, List.setIfInBounds_toArray, List.set_cons_zero, List.set_cons_succ]
    refine wpAnyZ_take (i := 6) (oi := _) (v := ?_) rfl (by kernel_rfl) (by kernel_rfl) (by kernel_rfl) (by kernel_rfl) (fun _ _ _ h => h) (Or.inl ⟨by rfl, ?_⟩) (by assumption) ?_
    rotate_left
    · intro w hSw
      try dsimp only at hSw
      try simp only [List.getElem_toArray, List.getElem_cons_succ, List.getElem_cons_zero]
      go_split_ands
      go_simp
      try with_reducible rfl
    try simp only [Act.put, List.getElem_toArray, List.getElem_cons_succ, List.getElem_cons_zero, List.setIfInBounds_toArray, List.set_cons_zero, List.set_cons_succ]
    refine wpAnyZ_take (i := 7) (oi := _) (v := ?_) rfl (by kernel_rfl) (by kernel_rfl) (by kernel_rfl) (by kernel_rfl) (fun _ _ _ h => h) (Or.inl ⟨by rfl, ?_⟩) (by assumption) ?_
    rotate_left
    · intro w hSw
      try dsimp only at hSw
      try simp only [List.getElem_toArray, List.getElem_cons_succ, List.getElem_cons_zero]
      go_split_ands
      go_simp
      try with_reducible rfl
    try simp only [Act.put, List.getElem_toArray, List.getElem_cons_succ, List.getElem_cons_zero, List.setIfInBounds_toArray, List.set_cons_zero, List.set_cons_succ]
    refine wpAnyZ_take (i := 8) (oi := _) (v := ?_) rfl (by kernel_rfl) (by kernel_rfl) (by kernel_rfl) (by kernel_rfl) (fun _ _ _ h => h) (Or.inl ⟨by rfl, ?_⟩) (by assumption) ?_
    rotate_left
    · intro w hSw
      try dsimp only at hSw
      try simp only [List.getElem_toArray, List.getElem_cons_succ, List.getElem_cons_zero]
      go_split_ands
      go_simp
      try with_reducible rfl
    try simp only [Act.put, List.getElem_toArray, List.getElem_cons_succ, List.getElem_cons_zero, List.setIfInBounds_toArray, List.set_cons_zero, List.set_cons_succ]
    refine wpAnyZ_take (i := 9) (oi := _) (v := ?_) rfl (by kernel_rfl) (by kernel_rfl) (by kernel_rfl) (by kernel_rfl) (fun _ _ _ h => h) (Or.inl ⟨by rfl, ?_⟩) (by assumption) ?_
    rotate_left
    · intro w hSw
      try dsimp only at hSw
      try simp only [List.getElem_toArray, List.getElem_cons_succ, List.getElem_cons_zero]
      go_split_ands
      go_simp
      try with_reducible rfl
    try simp only [Act.put, List.getElem_toArray, List.getElem_cons_succ, List.getElem_cons_zero, List.setIfInBounds_toArray, List.set_cons_zero, List.set_cons_succ]
    refine wpAnyZ_take (i := 10) (oi := _) (v := ?_) rfl (by kernel_rfl) (by kernel_rfl) (by kernel_rfl) (by kernel_rfl) (fun _ _ _ h => h) (Or.inl ⟨by rfl, ?_⟩) (by assumption) ?_
    rotate_left
    · intro w hSw
      try dsimp only at hSw
      try simp only [List.getElem_toArray, List.getElem_cons_succ, List.getElem_cons_zero]
      go_split_ands
      go_simp
      try with_reducible rfl
    try simp only [Act.put, List.getElem_toArray, List.getElem_cons_succ, List.getElem_cons_zero, List.setIfInBounds_toArray, List.set_cons_zero, List.set_cons_succ]
    refine wpAnyZ_take (i := 11) (oi := _) (v := ?_) rfl (by kernel_rfl) (by kernel_rfl) (by kernel_rfl) (by kernel_rfl) (fun _ _ _ h => h) (Or.inl ⟨by rfl, ?_⟩) (by assumption) ?_
    rotate_left
    · intro w hSw
      try dsimp only at hSw
      try simp only [List.getElem_toArray, List.getElem_cons_succ, List.getElem_cons_zero]
      go_split_ands
      go_simp
      try with_reducible rfl
    try simp only [Act.put, List.getElem_toArray, List.getElem_cons_succ, List.getElem_cons_zero, List.setIfInBounds_toArray, List.set_cons_zero, List.set_cons_succ]
    refine wpAnyZ_take (i := 12) (oi := _) (v := ?_) rfl (by kernel_rfl) (by kernel_rfl) (by kernel_rfl) (by kernel_rfl) (fun _ _ _ h => h) (Or.inl ⟨by rfl, ?_⟩) (by assumption) ?_
    rotate_left
    · intro w hSw
      try dsimp only at hSw
      try simp only [List.getElem_toArray, List.getElem_cons_succ, List.getElem_cons_zero]
      go_split_ands
      go_simp
      try with_reducible rfl
    try simp only [Act.put, List.getElem_toArray, List.getElem_cons_succ, List.getElem_cons_zero, List.setIfInBounds_toArray, List.set_cons_zero, List.set_cons_succ]
    refine wpAnyZ_take (i := 13) (oi := _) (v := ?_) rfl (by kernel_rfl) (by kernel_rfl) (by kernel_rfl) (by kernel_rfl) (fun _ _ _ h => h) (Or.inl ⟨by rfl, ?_⟩) (by assumption) ?_
    rotate_left
    · intro w hSw
      try dsimp only at hSw
      try simp only [List.getElem_toArray, List.getElem_cons_succ, List.getElem_cons_zero]
      go_split_ands
      go_simp
      try with_reducible rfl
    try simp only [Act.put, List.getElem_toArray, List.getElem_cons_succ, List.getElem_cons_zero, List.setIfInBounds_toArray, List.set_cons_zero, List.set_cons_succ]
    refine wpAnyZ_take (i := 14) (oi := _) (v := ?_) rfl (by kernel_rfl) (by kernel_rfl) (by kernel_rfl) (by kernel_rfl) (fun _ _ _ h => h) (Or.inl ⟨by rfl, ?_⟩) (by assumption) ?_
    rotate_left
    · intro w hSw
      try dsimp only at hSw
      try simp only [List.getElem_toArray, List.getElem_cons_succ, List.getElem_cons_zero]
      go_split_ands
      go_simp
      try with_reducible rfl
    try simp only [Act.put, List.getElem_toArray, List.getElem_cons_succ, List.getElem_cons_zero, List.setIfInBounds_toArray, List.set_cons_zero, List.set_cons_succ]
    refine wpAnyZ_take (i := 15) (oi := _) (v := ?_) rfl (by kernel_rfl) (by kernel_rfl) (by kernel_rfl) (by kernel_rfl) (fun _ _ _ h => h) (Or.inl ⟨by rfl, ?_⟩) (by assumption) ?_
    rotate_left
    · intro w hSw
      try dsimp only at hSw
      try simp only [List.getElem_toArray, List.getElem_cons_succ, List.getElem_cons_zero]
      go_split_ands
      go_simp
      try with_reducible rfl
    try simp only [Act.put, List.getElem_toArray, List.getElem_cons_succ, List.getElem_cons_zero, List.setIfInBounds_toArray, List.set_cons_zero, List.set_cons_succ]
    refine wpAnyZ_take (i := 16) (oi := _) (v := ?_) rfl (by kernel_rfl) (by kernel_rfl) (by kernel_rfl) (by kernel_rfl) (fun _ _ _ h => h) (Or.inl ⟨by rfl, ?_⟩) (by assumption) ?_
    rotate_left
    · intro w hSw
      try dsimp only at hSw
      try simp only [List.getElem_toArray, List.getElem_cons_succ, List.getElem_cons_zero]
      go_split_ands
      go_simp
      try with_reducible rfl
    try simp only [Act.put, List.getElem_toArray, List.getElem_cons_succ, List.getElem_cons_zero, List.setIfInBounds_toArray, List.set_cons_zero, List.set_cons_succ]
    refine wpAnyZ_take (i := 17) (oi := _) (v := ?_) rfl (by kernel_rfl) (by kernel_rfl) (by kernel_rfl) (by kernel_rfl) (fun _ _ _ h => h) (Or.inl ⟨by rfl, ?_⟩) (by assumption) ?_
    rotate_left
    · intro w hSw
      try dsimp only at hSw
      try simp only [List.getElem_toArray, List.getElem_cons_succ, List.getElem_cons_zero]
      go_split_ands
      go_simp
      try with_reducible rfl
    try simp only [Act.put, List.getElem_toArray, List.getElem_cons_succ, List.getElem_cons_zero, List.setIfInBounds_toArray, List.set_cons_zero, List.set_cons_succ]
    refine wpAnyZ_take (i := 18) (oi := _) (v := ?_) rfl (by kernel_rfl) (by kernel_rfl) (by kernel_rfl) (by kernel_rfl) (fun _ _ _ h => h) (Or.inl ⟨by rfl, ?_⟩) (by assumption) ?_
    rotate_left
    · intro w hSw
      try dsimp only at hSw
      try simp only [List.getElem_toArray, List.getElem_cons_succ, List.getElem_cons_zero]
      go_split_ands
      go_simp
      try with_reducible rfl
    try simp only [Act.put, List.getElem_toArray, List.getElem_cons_succ, List.getElem_cons_zero, List.setIfInBounds_toArray, List.set_cons_zero, List.set_cons_succ]
    refine wpAnyZ_take (i := 19) (oi := _) (v := ?_) rfl (by kernel_rfl) (by kernel_rfl) (by kernel_rfl) (by kernel_rfl) (fun _ _ _ h => h) (Or.inl ⟨by rfl, ?_⟩) (by assumption) ?_
    rotate_left
    · intro w hSw
      try dsimp only at hSw
      try simp only [List.getElem_toArray, List.getElem_cons_succ, List.getElem_cons_zero]
      go_split_ands
      go_simp
      try with_reducible rfl
    try simp only [Act.put, List.getElem_toArray, List.getElem_cons_succ, List.getElem_cons_zero, List.setIfInBounds_toArray, List.set_cons_zero, List.set_cons_succ]
    refine wpAnyZ_take (i := 20) (oi := _) (v := ?_) rfl (by kernel_rfl) (by kernel_rfl) (by kernel_rfl) (by kernel_rfl) (fun _ _ _ h => h) (Or.inl ⟨by rfl, ?_⟩) (by assumption) ?_
    rotate_left
    · intro w hSw
      try dsimp only at hSw
      try simp only [List.getElem_toArray, List.getElem_cons_succ, List.getElem_cons_zero]
      go_split_ands
      go_simp
      try with_reducible rfl
    try simp only [Act.put, List.getElem_toArray, List.getElem_cons_succ, List.getElem_cons_zero, List.setIfInBounds_toArray, List.set_cons_zero, List.set_cons_succ]
    try rw [HJ.out]
    refine wpAnyZ_one (i := 21) (o := _) (by kernel_rfl) rfl (fun K hK => ?_)
    simp only [List.getElem_toArray, List.getElem_cons_succ, List.getElem_cons_zero]
    go_simp
    refine (HSL.out _).mono ?_
    rintro e w5 ⟨rfl, f5⟩
    go_wp2_with fail
    refine hK.out _ _ ⟨f5.cell a0 (by simp), f5.cell a1 (by simp), f5.cell a2 (by simp), f5.cell a3 (by simp), f5.cell a4 (by simp), f5.cell a5 (by simp)⟩ (fun hHeld => ?_)
    clear hK K
    try simp only [Act.put, List.getElem_toArray, List.getElem_cons_succ, List.getElem_cons_zero, List.setIfInBounds_toArray, List.set_cons_zero, List.set_cons_succ]
    refine wpAnyZ_one (i := 22) (o := _) (by kernel_rfl) rfl (fun K hK => ?_)
    simp only [List.getElem_toArray, List.getElem_cons_succ, List.getElem_cons_zero]
    go_simp
    refine ((HMEM.out _ (HM2.out.drew.fr f5 (by simp) (by simp)))).mono ?_
    rintro e w6 ⟨rfl, h6⟩
    have H6 := Lib.hid h6
    have f6 := h6.2
    go_wp2_with fail
    refine hK.out _ _ ⟨f6.cell (f5.cell a0 (by simp)) hprn, f6.cell (f5.cell a1 (by simp)) hprn, f6.cell (f5.cell a2 (by simp)) hprn, f6.cell (f5.cell a3 (by simp)) hprn, f6.cell (f5.cell a4 (by simp)) hprn, f6.cell (f5.cell a5 (by simp)) hprn⟩ (fun hHeld => ?_)
    clear hK K
    try simp only [Act.put, List.getElem_toArray, List.getElem_cons_succ, List.getElem_cons_zero, List.setIfInBounds_toArray, List.set_cons_zero, List.set_cons_succ]
    refine wpAnyZ_one (i := 23) (o := _) (by kernel_rfl) rfl (fun K hK => ?_)
    simp only [List.getElem_toArray, List.getElem_cons_succ, List.getElem_cons_zero]
    go_simp
    refine hK.out _ _ ⟨((Fr.refl [] w6).alloc _).cell (f6.cell (f5.cell a0 (by simp)) hprn) (by simp), ((Fr.refl [] w6).alloc _).cell (f6.cell (f5.cell a1 (by simp)) hprn) (by simp), ((Fr.refl [] w6).alloc _).cell (f6.cell (f5.cell a2 (by simp)) hprn) (by simp), ((Fr.refl [] w6).alloc _).cell (f6.cell (f5.cell a3 (by simp)) hprn) (by simp), ((Fr.refl [] w6).alloc _).cell (f6.cell (f5.cell a4 (by simp)) hprn) (by simp), ((Fr.refl [] w6).alloc _).cell (f6.cell (f5.cell a5 (by simp)) hprn) (by simp)⟩ (fun hHeld => ?_)
    clear hK K
    try simp only [Act.put, List.getElem_toArray, List.getElem_cons_succ, List.getElem_cons_zero, List.setIfInBounds_toArray, List.set_cons_zero, List.set_cons_succ]
    refine wpAnyZ_one (i := 24) (o := _) (by kernel_rfl) rfl (fun K hK => ?_)
    simp only [List.getElem_toArray, List.getElem_cons_succ, List.getElem_cons_zero]
    rw [if_pos (by rfl)]
    have HO6 := own_q HR2.out.o HK.out f5 f6 HRP.out (.cells #[.int .i64 (loadV M (c.slot j))] 3)
    refine wp_append_at _ _ _ 32 rfl 0 3 i0 (.int .i64 0) 1 8 Try.underlying32 hi hz0 hz1 hz2 rfl (by decide) _ _ _ rfl HO6 ⟨w6.heap.size, 0, none⟩ 1 1 [.int .i64 (loadV M (c.slot j))] rfl rfl (cell_one_new w6 _ _) (fun u hu => by obtain rfl := List.mem_singleton.1 hu; rfl) (by unfold maxLen; omega) (by omega) (Nat.zero_le _) ?_
    intro v7 w7 hown7 hgrow hat
    obtain ⟨g7, c7, rfl⟩ := owns_slice hown7
    have hrp := HRP2.out
    refine hK.out _ _ ⟨hgrow.cell (((Fr.refl [] w6).alloc _).cell (f6.cell (f5.cell a0 (by simp)) hprn) (by simp)) hrp, hgrow.cell (((Fr.refl [] w6).alloc _).cell (f6.cell (f5.cell a1 (by simp)) hprn) (by simp)) hrp, hgrow.cell (((Fr.refl [] w6).alloc _).cell (f6.cell (f5.cell a2 (by simp)) hprn) (by simp)) hrp, hgrow.cell (((Fr.refl [] w6).alloc _).cell (f6.cell (f5.cell a3 (by simp)) hprn) (by simp)) hrp, hgrow.cell (((Fr.refl [] w6).alloc _).cell (f6.cell (f5.cell a4 (by simp)) hprn) (by simp)) hrp, hgrow.cell (((Fr.refl [] w6).alloc _).cell (f6.cell (f5.cell a5 (by simp)) hprn) (by simp)) hrp⟩ (fun hHeld => ?_)
    clear hK K
    try simp only [Act.put, List.getElem_toArray, List.getElem_cons_succ, List.getElem_cons_zero, List.setIfInBounds_toArray, List.set_cons_zero, List.set_cons_succ]
    refine wpAnyZ_take (i := 25) (oi := _) (v := ?_) rfl (by kernel_rfl) (by kernel_rfl) (by kernel_rfl) (by kernel_rfl) (fun _ _ _ h => h) (Or.inl ⟨by rfl, ?_⟩) (by assumption) ?_
    rotate_left
    · intro w hSw
      try dsimp only at hSw
      try simp only [List.getElem_toArray, List.getElem_cons_succ, List.getElem_cons_zero]
      go_split_ands
      go_simp
      try with_reducible rfl
    try simp only [Act.put, List.getElem_toArray, List.getElem_cons_succ, List.getElem_cons_zero, List.setIfInBounds_toArray, List.set_cons_zero, List.set_cons_succ]
    refine wpAnyZ_take (i := 26) (oi := _) (v := ?_) rfl (by kernel_rfl) (by kernel_rfl) (by kernel_rfl) (by kernel_rfl) (fun _ _ _ h => h) (Or.inl ⟨by rfl, ?_⟩) (by assumption) ?_
    rotate_left
    · intro w hSw
      try dsimp only at hSw
      try simp only [List.getElem_toArray, List.getElem_cons_succ, List.getElem_cons_zero]
      go_split_ands
      go_simp
      try with_reducible rfl
    try simp only [Act.put, List.getElem_toArray, List.getElem_cons_succ, List.getElem_cons_zero, List.setIfInBounds_toArray, List.set_cons_zero, List.set_cons_succ]
    refine wpAnyZ_last (o := _) (by kernel_rfl) rfl (fun K hK => ?_)
    simp only [List.getElem_toArray, List.getElem_cons_succ, List.getElem_cons_zero]
    have h7b := rmid_at HR2.out f5 H6.out.2 HPR.out _ (by rw [← HK.out]; exact hgrow)
    have h7c : w7.cell? ⟨p, 5, none⟩ = some _ := cell_of h7b rfl
    have h7f := frozen_of (i := 5) h7b
    clear h7b
    go_simp
    refine hK.out _ _ ?_
    clear hK K
    try simp only [Act.put, List.getElem_toArray, List.getElem_cons_succ, List.getElem_cons_zero, List.setIfInBounds_toArray, List.set_cons_zero, List.set_cons_succ]
    refine wpAnyZ_done (by kernel_rfl) ?_ _
    have hmid := rmid_of HR2.out HK.out f5 H6.out (show t + tch M (c.slot (j : Int)) = t + 1 by rw [HTC.out]) HM2.out HPR.out HRP.out _ hown7 hgrow hat
    have HMID := Lib.hid hmid
    clear hmid hown7 hgrow hat hHeld h7c h7f a0 a1 a2 a3 a4 a5 f5 f6 H6 h6 HO6
    generalize w7.setCell ⟨p, 5, none⟩ (.slice g7 (k + 1) c7) = w9 at HMID ⊢
    have HD9 := Lib.hid (rdone_any w9 p c _ _ hc HMID.out.r (by rw [List.length_append, List.length_singleton]; omega))
    go_wp2_with fail
    refine HD9.out.mono ?_
    rintro e w10 ⟨rfl, f10⟩
    have HP := Lib.hid (show RefPost w p pr qr c (.slice g L.length cap) (L ++ [loadV M (c.slot (j : Int))]) M (t + 1) (doneB c.sl.toNat (L ++ [loadV M (c.slot (j : Int))])) (.returned (.bool (doneB c.sl.toNat (L ++ [loadV M (c.slot (j : Int))])))) w10 from
      ⟨_, rfl, HMID.out.r.fr f10 (by simp) (by simp), HMID.out.m.fr f10 (by simp) (by simp), (HF2.out.mono (by simp)).trans (HMID.out.f.trans (f10.mono (by simp))), fun b hb => (HMID.out.nb b hb).imp id (fun h => by have := HF2.out.size; omega)⟩)
    clear f10
    go_wp2
    go_ret
    rw [← HK.out] at HP
    exact HP.out

end Go.Proofs.Ytnjoefanafjniaa

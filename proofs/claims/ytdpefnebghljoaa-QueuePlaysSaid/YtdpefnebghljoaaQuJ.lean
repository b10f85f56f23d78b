/- The queue of workers: telling who was taken out. -/
import Derived.Test.YtdpefnebghljoaaQuI
namespace Go.Proofs.Ytdpefnebghljoaa
open Go.RowKit

set_option maxHeartbeats 400000 in
theorem cgrant_any (w : World) (c : ConfV) (i : Int) (hc : c.fits) (h0 : 0 ≤ i) (h1 : i < c.wo) : Calls Try.prog 70 #[c.val, .int .i64 i] w fun e w' => e = .returned (.int .i64 (3 + c.wo + i)) ∧ Fr [] w w' := by
  obtain ⟨wo, sl, st, wa, us⟩ := c
  obtain ⟨⟨a0, a1⟩, ⟨b0, b1⟩, -⟩ := hc
  unfold ConfV.val
  simp only at a0 a1 b0 b1 h1
  have hfr := (Fr.refl [] w).alloc (.cells #[.int .i64 wo, .int .i64 sl, .int .i64 st, .int .i64 wa, .int .i64 us] 25)
  have HF := Lib.hid hfr; clear hfr
  go_enter Try.func70, Try.ntmps70
  go_wp2
  go_ret
  exact ⟨rfl, HF.out⟩

set_option maxHeartbeats 4000000 in
set_option maxRecDepth 100000 in
theorem qtell_any (w : World) (p pm qm : Nat) (c : ConfV) (s : QuS) (M : List Int) (t : Int) (h : QuAt w p c s) (hM : MemAt 83 w pm qm M t) (ht0 : 0 ≤ t) (ht1 : t ≤ 1000000) (hp : p ≠ pm ∧ p ≠ qm) (hc : c.fits) (hf0 : 0 ≤ s.first) (hf1 : s.first < c.wo) :
    Calls Try.prog 67 #[.pointer (some ⟨p, 0, none⟩), .pointer (some ⟨pm, 0, none⟩)] w
      (QPost w p pm qm c s .head (storeL M (3 + c.wo + s.first) (-1)) (t + tch M (3 + c.wo + s.first))) := by
  have q0 := cell_of (i := 0) h rfl
  have q1 := cell_of (i := 1) h rfl
  have q2 := cell_of (i := 2) h rfl
  have q3 := cell_of (i := 3) h rfl
  have q4 := cell_of (i := 4) h rfl
  have q7 := cell_of (i := 7) h rfl
  have hg := fun W : World => cgrant_any W c s.first hc hf0 hf1
  unfold ConfV.val at hg
  have HG := Lib.hid hg
  have H := Lib.hid h; have HP := Lib.hid hp; have HM := Lib.hid hM
  clear h hM hp hg hc
  go_enter Try.func67, Try.ntmps67
  go_wp2_with fail
  refine wp_region_held_drew (S := fun w' => w'.cell? ⟨p, 0, none⟩ = some (.int .i64 c.wo) ∧ w'.cell? ⟨p, 1, none⟩ = some (.int .i64 c.sl) ∧ w'.cell? ⟨p, 2, none⟩ = some (.int .i64 c.st) ∧ w'.cell? ⟨p, 3, none⟩ = some (.int .i64 c.wa) ∧ w'.cell? ⟨p, 4, none⟩ = some (.int .i64 c.us) ∧ w'.cell? ⟨p, 7, none⟩ = some (.int .i64 s.first)) (by kernel_rfl) ⟨q0, q1, q2, q3, q4, q7⟩ (fun hHeld => ?_)
  refine wpAnyH_take (i := 0) (oi := _) (v := ?_) rfl (by kernel_rfl) (by kernel_rfl) (by kernel_rfl) (fun _ _ _ h => h) (Or.inl ⟨by rfl, ?_⟩) (by assumption) ?_
  rotate_left
  · intro w hSw
    try dsimp only at hSw
    try simp only [List.getElem_toArray, List.getElem_cons_zero]
    go_split_ands
    go_simp
    try with_reducible rfl
  try simp only [Act.put, List.getElem_toArray, List.getElem_cons_zero, List.setIfInBounds_toArray, List.set_cons_zero, List.set_cons_succ]
  refine wpAnyH_take (i := 1) (oi := _) (v := ?_) rfl (by kernel_rfl) (by kernel_rfl) (by kernel_rfl) (fun _ _ _ h => h) (Or.inl ⟨by rfl, ?_⟩) (by assumption) ?_
  rotate_left
  · intro w hSw
    try dsimp only at hSw
    try simp only [List.getElem_toArray, List.getElem_cons_succ, List.getElem_cons_zero]
    go_split_ands
    go_simp
    try with_reducible rfl
  try simp only [Act.put, List.getElem_toArray, List.getElem_cons_succ, List.getElem_cons_zero, List.setIfInBounds_toArray, List.set_cons_zero, List.set_cons_succ]
  refine wpAnyH_take (i := 2) (oi := _) (v := ?_) rfl (by kernel_rfl) (by kernel_rfl) (by kernel_rfl) (fun _ _ _ h => h) (Or.inl ⟨by rfl, ?_⟩) (by assumption) ?_
  rotate_left
  · intro w hSw
    try dsimp only at hSw
    try simp only [List.getElem_toArray, List.getElem_cons_succ, List.getElem_cons_zero]
    go_split_ands
    go_simp
    try with_reducible rfl
  try simp only [Act.put, List.getElem_toArray, List.getElem_cons_succ, List.getElem_cons_zero, List.setIfInBounds_toArray, List.set_cons_zero, List.set_cons_succ]
  refine wpAnyH_take (i := 3) (oi := _) (v := ?_) rfl (by kernel_rfl) (by kernel_rfl) (by kernel_rfl) (fun _ _ _ h => h) (Or.inl ⟨by rfl, ?_⟩) (by assumption) ?_
  rotate_left
  · intro w hSw
    try dsimp only at hSw
    try simp only [List.getElem_toArray, List.getElem_cons_succ, List.getElem_cons_zero]
    go_split_ands
    go_simp
    try with_reducible rfl
  try simp only [Act.put, List.getElem_toArray, List.getElem_cons_succ, List.getElem_cons_zero, List.setIfInBounds_toArray, List.set_cons_zero, List.set_cons_succ]
  refine wpAnyH_take (i := 4) (oi := _) (v := ?_) rfl (by kernel_rfl) (by kernel_rfl) (by kernel_rfl) (fun _ _ _ h => h) (Or.inl ⟨by rfl, ?_⟩) (by assumption) ?_
  rotate_left
  · intro w hSw
    try dsimp only at hSw
    try simp only [List.getElem_toArray, List.getElem_cons_succ, List.getElem_cons_zero]
    go_split_ands
    go_simp
    try with_reducible rfl
  try simp only [Act.put, List.getElem_toArray, List.getElem_cons_succ, List.getElem_cons_zero, List.setIfInBounds_toArray, List.set_cons_zero, List.set_cons_succ]
  refine wpAnyH_take (i := 5) (oi := _) (v := ?_) rfl (by kernel_rfl) (by kernel_rfl) (by kernel_rfl) (fun _ _ _ h => h) (Or.inl ⟨by rfl, ?_⟩) (by assumption) ?_
  rotate_left
  · intro w hSw
    try dsimp only at hSw
    try simp only [List.getElem_toArray, List.getElem_cons_succ, List.getElem_cons_zero]
    go_split_ands
    go_simp
    try with_reducible rfl
  try simp only [Act.put, List.getElem_toArray, List.getElem_cons_succ, List.getElem_cons_zero, List.setIfInBounds_toArray, List.set_cons_zero, List.set_cons_succ]
  refine wpAnyH_take (i := 6) (oi := _) (v := ?_) rfl (by kernel_rfl) (by kernel_rfl) (by kernel_rfl) (fun _ _ _ h => h) (Or.inl ⟨by rfl, ?_⟩) (by assumption) ?_
  rotate_left
  · intro w hSw
    try dsimp only at hSw
    try simp only [List.getElem_toArray, List.getElem_cons_succ, List.getElem_cons_zero]
    go_split_ands
    go_simp
    try with_reducible rfl
  try simp only [Act.put, List.getElem_toArray, List.getElem_cons_succ, List.getElem_cons_zero, List.setIfInBounds_toArray, List.set_cons_zero, List.set_cons_succ]
  refine wpAnyH_take (i := 7) (oi := _) (v := ?_) rfl (by kernel_rfl) (by kernel_rfl) (by kernel_rfl) (fun _ _ _ h => h) (Or.inl ⟨by rfl, ?_⟩) (by assumption) ?_
  rotate_left
  · intro w hSw
    try dsimp only at hSw
    try simp only [List.getElem_toArray, List.getElem_cons_succ, List.getElem_cons_zero]
    go_split_ands
    go_simp
    try with_reducible rfl
  try simp only [Act.put, List.getElem_toArray, List.getElem_cons_succ, List.getElem_cons_zero, List.setIfInBounds_toArray, List.set_cons_zero, List.set_cons_succ]
  refine wpAnyH_take (i := 8) (oi := _) (v := ?_) rfl (by kernel_rfl) (by kernel_rfl) (by kernel_rfl) (fun _ _ _ h => h) (Or.inl ⟨by rfl, ?_⟩) (by assumption) ?_
  rotate_left
  · intro w hSw
    try dsimp only at hSw
    try simp only [List.getElem_toArray, List.getElem_cons_succ, List.getElem_cons_zero]
    go_split_ands
    go_simp
    try with_reducible rfl
  try simp only [Act.put, List.getElem_toArray, List.getElem_cons_succ, List.getElem_cons_zero, List.setIfInBounds_toArray, List.set_cons_zero, List.set_cons_succ]
  refine wpAnyH_ready (rs := [9]) (by kernel_rfl) (by simp) ?_
  refine AllReadyH.cons (o := _) rfl (fun K hK => ?_) AllReadyH.nil
  simp only [List.getElem_toArray, List.getElem_cons_succ, List.getElem_cons_zero]
  go_simp
  refine (HG.out w.drew).mono ?_
  rintro en w3 ⟨rfl, f3⟩
  have F3 := (Fr.refl [] w).drew.trans f3
  have HST := Lib.hid (store_any w3 pm qm M t (3 + c.wo + s.first) (-1) (HM.out.fr F3 (by simp) (by simp)) ht0 (by omega))
  go_wp2_with fail
  refine hK.out _ _ ⟨F3.cell q0 (by simp), F3.cell q1 (by simp), F3.cell q2 (by simp), F3.cell q3 (by simp), F3.cell q4 (by simp), F3.cell q7 (by simp)⟩ (fun hHeld => ?_)
  clear hK K
  try simp only [Act.put, List.getElem_toArray, List.getElem_cons_succ, List.getElem_cons_zero, List.setIfInBounds_toArray, List.set_cons_zero, List.set_cons_succ]
  refine wpAnyH_ready (rs := [10]) (by kernel_rfl) (by simp) ?_
  refine AllReadyH.cons (o := _) rfl (fun K hK => ?_) AllReadyH.nil
  simp only [List.getElem_toArray, List.getElem_cons_succ, List.getElem_cons_zero]
  go_simp
  refine (HST.out).mono ?_
  rintro en w4 ⟨rfl, hm4, f4⟩
  go_wp2_with fail
  refine hK.out _ _ ⟨f4.cell (F3.cell q0 (by simp)) (by simp; exact HP.out), f4.cell (F3.cell q1 (by simp)) (by simp; exact HP.out), f4.cell (F3.cell q2 (by simp)) (by simp; exact HP.out), f4.cell (F3.cell q3 (by simp)) (by simp; exact HP.out), f4.cell (F3.cell q4 (by simp)) (by simp; exact HP.out), f4.cell (F3.cell q7 (by simp)) (by simp; exact HP.out)⟩ (fun hHeld => ?_)
  clear hK K
  try simp only [Act.put, List.getElem_toArray, List.getElem_cons_succ, List.getElem_cons_zero, List.setIfInBounds_toArray, List.set_cons_zero, List.set_cons_succ]
  refine wpAnyH_done (by kernel_rfl) ?_ _
  have HQ := Lib.hid (show QPost w p pm qm c s .head _ _ (.returned (QSt.val p .head)) w4 from ⟨rfl, (H.out.fr F3 (by simp)).fr f4 (by simp; exact HP.out), hm4, (F3.mono (by simp)).trans (f4.mono (by simp +contextual))⟩)
  go_wp2
  go_ret
  exact HQ.out
theorem qs_tell (w : World) (p pm qm : Nat) (c : ConfV) (s : QuS) (M : List Int) (t : Int) (h : QuAt w p c s) (hM : MemAt 83 w pm qm M t) (ht0 : 0 ≤ t) (ht1 : t ≤ 1000000) (hp : p ≠ pm ∧ p ≠ qm) (hc : c.fits) (hf0 : 0 ≤ s.first) (hf1 : s.first < c.wo) (hn : s.nx = .tell) :
    Calls Try.prog 13 #[.pointer (some ⟨p, 0, none⟩), .pointer (some ⟨pm, 0, none⟩)] w
      (QStep w p pm qm c { s with nx := .head } (storeL M (3 + c.wo + s.first) (-1)) (t + tch M (3 + c.wo + s.first))) :=
  qstep_any w p pm qm c s _ _ _ _ _ h hp (by rw [hn]; rfl) (qtell_any w p pm qm c s M t h hM ht0 ht1 hp hc hf0 hf1)

end Go.Proofs.Ytdpefnebghljoaa

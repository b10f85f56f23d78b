/- Looking twice: a step. -/
import Derived.Test.YtnjoefanafjniaaTwE
import Derived.Deep.RegionHeld3
import Derived.Test.YtnjoefanafjniaaHeldZ
import Derived.Maps.AppendAt
namespace Go.Proofs.Ytnjoefanafjniaa
open Go.RowKit

/-- What a Twice knows: the round at work, the last one, how many are done, whether it is done. -/
structure TwS where
  r : List Int
  l : List Int
  n : Int
  d : Bool
/-- A step that sees x, of as many slots as S. -/
def TwS.step (S : Nat) (x : Int) (s : TwS) : TwS :=
  if s.d then s else if (s.r ++ [x]).length < S then { s with r := s.r ++ [x] } else ⟨[], s.r ++ [x], s.n + 1, decide (0 < s.n) && decide (s.r ++ [x] = s.l)⟩

theorem int_info : (Try.prog.info? 3).map (fun i => (i.zero, i.size, i.bytes)) = some (some (.int .i64 0), 1, 8) := by kernel_rfl
theorem info_parts {P : Program} {t : TypeId} {z : Option Value} {s b : Nat} (h : (P.info? t).map (fun i => (i.zero, i.size, i.bytes)) = some (z, s, b)) : ∃ i, P.info? t = some i ∧ i.zero = z ∧ i.size = s ∧ i.bytes = b := by
  cases hi : P.info? t with
  | none => rw [hi] at h; cases h
  | some i =>
    rw [hi] at h
    simp only [Option.map_some, Option.some.injEq, Prod.mk.injEq] at h
    exact ⟨i, rfl, h.1, h.2.1, h.2.2⟩
theorem wp_append_at {P : Program} (w : World) {o : Oper} {a : Act} {K : Act → World → Prop} {Q : Exit → Act → World → Prop} (s x : Operand) (t : TypeId)
    (ho : o.op = .call { callee := .builtin .append, args := #[s, x], argTypes := #[t, t] })
    (base : Nat) (e : TypeId) (i : TypeInfo) (z : Value) (size bytes : Nat) (ht : P.underlying t = some (.slice e)) (hi : P.info? e = some i) (hz : i.zero = some z)
    (hsize : i.size = size) (hby : i.bytes = bytes) (hzs : z.cells.size = size) (hsz : 0 < size)
    (v : Value) (n : Nat) (xs : List Value) (hs : a.eval s = v) (hown : w.ownsRow base e size v n xs)
    (ad : Addr) (m c : Nat) (news : List Value) (hx : a.eval x = .slice (some ad) m c) (hl : news.length = m * size) (hnews : ∀ j u, news[j]? = some u → w.cell? (ad.add j) = some u) (h1 : ∀ u ∈ news, u.oneCell' = true)
    (h63 : n + m ≤ maxLen) (hbytes : (n + m) * bytes ≤ 140737488355328) (hbase : base ≤ w.heap.size)
    (h : ∀ v' w', w'.ownsRow base e size v' (n + m) (xs ++ news) → w.grownBy w' v.ownBlock → (v'.ownBlock = v.ownBlock ∨ v'.ownBlock = some w.heap.size) → K (a.put o.dst v') w') : o.wp P a w K Q := by
  obtain ⟨v', w', hr, h2, h3, _, h5⟩ := run_append_own_at (P := P) w base t o.type e i z size bytes ht hi hz hsize hby hzs hsz v n xs hown ad m c news hl hnews h1 h63 hbytes hbase
  unfold Oper.wp execOp
  simp only [ho, resolve, invoke, builtin, Sem.run_bind, Sem.run_pure, Result.andThen_ok, List.map_toArray, List.map_cons, List.map_nil, hs, hx, hr]
  exact h v' w' h2 h3 h5
/-- What a step leaves. -/
def StepPost (w : World) (p pm qm : Nat) (c : ConfV) (vR vL : Value) (s : TwS) (M : List Int) (t : Int) (s' : TwS) (t' : Int) (e : Ending) (w' : World) : Prop :=
  ∃ vR' vL', e = .returned (.bool s'.d) ∧ TwAt w' p c vR' vL' s'.r s'.l s'.n s'.d ∧ MemAt 78 w' pm qm M t' ∧ Fr (p :: pm :: qm :: vR.ownBlock.toList) w w' ∧
    (∀ b, vR'.ownBlock = some b → vR.ownBlock = some b ∨ w.heap.size ≤ b) ∧ (∀ b, vL'.ownBlock = some b → vL.ownBlock = some b ∨ w.heap.size ≤ b)

theorem own6 {w w5 w6 : World} {p pm qm : Nat} {c : ConfV} {gR : Option Addr} {k cR : Nat} {vL : Value} {R La : List Int} {n : Int} {d : Bool} (hT : TwAt w p c (.slice gR R.length cR) vL R La n d) (hk : k = R.length)
    (f5 : Fr [] w.drew w5) (f6 : Fr [pm, qm] w5 w6) (hr : ∀ b, (Value.slice gR R.length cR).ownBlock = some b → b ∉ [pm, qm]) (o : Obj) : (w6.alloc o).ownsRow 0 3 1 (.slice gR k cR) k (R.map (Value.int .i64)) := by
  subst hk
  exact ((hT.r.fr (((Fr.refl [] w).drew.trans f5)) (by simp)).fr f6 hr).fr ((Fr.refl [] w6).alloc o) (by simp)

/-- Amid a step: the word is put behind the round at work. -/
structure Mid (w w9 : World) (p pm qm : Nat) (c : ConfV) (vR vL v7 : Value) (R1 La : List Int) (n : Int) (M : List Int) (t : Int) : Prop where
  b : w9.heap[p]? = some (.cells #[.int .i64 c.wo, .int .i64 c.sl, .int .i64 c.st, .int .i64 c.wa, .int .i64 c.us, v7, vL, .int .i64 n, .bool false] 71)
  r : OwnI w9 v7 R1
  l : OwnI w9 vL La
  m : MemAt 78 w9 pm qm M t
  f : Fr (p :: pm :: qm :: vR.ownBlock.toList) w w9
  hp : v7.ownBlock ≠ some p
  hl : vL.ownBlock ≠ some p
  nb : ∀ b, v7.ownBlock = some b → vR.ownBlock = some b ∨ w.heap.size ≤ b
  lb : ∀ b, vL.ownBlock = some b → b < w.heap.size ∧ vR.ownBlock ≠ some b
theorem owns_slice {w : World} {B e s : Nat} {v : Value} {n : Nat} {xs : List Value} (h : w.ownsRow B e s v n xs) : ∃ g cap, v = .slice g n cap := by
  rcases h.2 with ⟨rfl, rfl⟩ | ⟨g, cap, cur, rfl, -⟩
  · exact ⟨_, _, rfl⟩
  · exact ⟨_, _, rfl⟩
theorem at7 {w w5 w6 w7 : World} {p pm qm : Nat} {c : ConfV} {vR vL : Value} {R La : List Int} {n : Int} (hT : TwAt w p c vR vL R La n false)
    (f5 : Fr [] w.drew w5) (f6 : Fr [pm, qm] w5 w6) (hpm : p ≠ pm ∧ p ≠ qm) (o : Obj) (hg : (w6.alloc o).grownBy w7 vR.ownBlock) :
    w7.heap[p]? = some (.cells #[.int .i64 c.wo, .int .i64 c.sl, .int .i64 c.st, .int .i64 c.wa, .int .i64 c.us, vR, vL, .int .i64 n, .bool false] 71) := by
  have fa : Fr [pm, qm] w (w6.alloc o) := ((((Fr.refl [] w).drew.trans f5).mono (by simp)).trans f6).alloc o
  have F7 : Fr (pm :: qm :: vR.ownBlock.toList) w w7 := (fa.mono (by simp +contextual)).grown hg (fun k hk => .inl (by simp [hk]))
  refine F7.at hT.b ?_
  simp only [List.mem_cons, not_or, Option.mem_toList]
  exact ⟨hpm.1, hpm.2, hT.hr⟩
theorem mid_of {w w5 w6 w7 : World} {p pm qm : Nat} {c : ConfV} {gR : Option Addr} {k cR : Nat} {vL v7 : Value} {R La : List Int} {n x : Int} {M : List Int} {t t' t0 : Int} (hT : TwAt w p c (.slice gR R.length cR) vL R La n false) (hk : k = R.length)
    (f5 : Fr [] w.drew w5) (h6 : Left 78 pm qm M t' w5 w6) (ht : t' = t) (hM : MemAt 78 w pm qm M t0) (hpm : p ≠ pm ∧ p ≠ qm) (hr : ∀ b, (Value.slice gR R.length cR).ownBlock = some b → b ∉ [pm, qm]) (hlb : vL.ownBlock ≠ some pm ∧ vL.ownBlock ≠ some qm)
    (o : Obj) (hown : w7.ownsRow 0 3 1 v7 (k + 1) (R.map (Value.int .i64) ++ [.int .i64 x])) (hg : (w6.alloc o).grownBy w7 (Value.slice gR k cR).ownBlock) (hat : v7.ownBlock = (Value.slice gR k cR).ownBlock ∨ v7.ownBlock = some (w6.alloc o).heap.size) :
    Mid w (w7.setCell ⟨p, 5, none⟩ v7) p pm qm c (.slice gR R.length cR) vL v7 (R ++ [x]) La n M t := by
  subst hk ht
  obtain ⟨hm6, f6⟩ := h6
  generalize hvR : Value.slice gR R.length cR = vR at hT hr hg hat ⊢
  have hmlt : pm < w.heap.size ∧ qm < w.heap.size := by obtain ⟨cap, cur, h⟩ := hM; exact ⟨h.plt, h.qlt⟩
  have f6' : Fr [pm, qm] w w6 := (((Fr.refl [] w).drew.trans f5).mono (by simp)).trans f6
  have fa : Fr [pm, qm] w (w6.alloc o) := f6'.alloc o
  have F7 : Fr (pm :: qm :: vR.ownBlock.toList) w w7 := (fa.mono (by simp +contextual)).grown hg (fun k hk => .inl (by simp [hk]))
  have fg : Fr vR.ownBlock.toList w6 w7 := (((Fr.refl _ w6).alloc o)).grown hg (fun k hk => .inl (by simp [hk]))
  have hpv : v7.ownBlock ≠ some p := fun e => by
    rcases hat with h | h
    · exact hT.hr (h ▸ e)
    · rw [h] at e
      have h1 := fa.size
      have h2 := heap_lt hT.b
      injection e with e
      omega
  have hpS : p ∉ pm :: qm :: vR.ownBlock.toList := by
    simp only [List.mem_cons, not_or, Option.mem_toList]
    exact ⟨hpm.1, hpm.2, hT.hr⟩
  have fs : Fr [p] w7 (w7.setCell ⟨p, 5, none⟩ v7) := (Fr.refl _ _).setCell (.inl (by simp)) _
  refine ⟨heap_setCell_same (F7.at hT.b hpS) v7, ?_, ?_, ?_, ?_, hpv, hT.hl, fun b hb => ?_, fun b hb => ⟨(hT.l.lt b hb).2, fun h => hT.hrl b h hb⟩⟩
  · have : OwnI w7 v7 (R ++ [x]) := by unfold OwnI; simpa using hown
    exact this.fr fs (fun b hb => by simp; exact fun h => hpv (h ▸ hb))
  · refine (hT.l.fr F7 (fun b hb => ?_)).fr fs (fun b hb => by simp; exact fun h => hT.hl (h ▸ hb))
    simp only [List.mem_cons, not_or, Option.mem_toList]
    exact ⟨fun h => hlb.1 (h ▸ hb), fun h => hlb.2 (h ▸ hb), fun h => hT.hrl b h hb⟩
  · refine (hm6.fr fg ?_ ?_).fr fs (by simp; exact Ne.symm hpm.1) (by simp; exact Ne.symm hpm.2)
    · intro h; exact hr pm (by simpa using h) (by simp)
    · intro h; exact hr qm (by simpa using h) (by simp)
  · exact (F7.mono (by simp +contextual)).trans (fs.mono (by simp))
  · rcases hat with h | h
    · exact .inl (h ▸ hb)
    · rw [h] at hb
      injection hb with hb
      exact .inr (by have := fa.size; omega)

theorem slot_in {c : ConfV} {M : List Int} {k : Int} (hc : c.small) (hml : (M.length : Int) = c.cells) (h0 : 0 ≤ k) (h1 : k < c.sl) : tch M (c.slot k) = 1 := by
  obtain ⟨h2, -⟩ := hc
  unfold tch
  rw [if_pos (isIn_yes (by unfold ConfV.slot; omega) (by unfold ConfV.slot; unfold ConfV.cells at hml; omega))]

theorem post_lt {w w9 w' : World} {p pm qm : Nat} {c : ConfV} {vR vL v7 : Value} {R La : List Int} {n x : Int} {M : List Int} {t : Int} {k : Nat} (h : Mid w w9 p pm qm c vR vL v7 (R ++ [x]) La n M (t + 1)) (hT : ∀ b, v7.ownBlock = some b → vL.ownBlock ≠ some b) (f : Fr [] w9 w')
    (hk : k = R.length) (hlk : ((k + 1 : Nat) : Int) < c.sl) :
    StepPost w p pm qm c vR vL ⟨R, La, n, false⟩ M t (TwS.step c.sl.toNat x ⟨R, La, n, false⟩) (t + 1) (.returned (.bool false)) w' := by
  have hs : TwS.step c.sl.toNat x ⟨R, La, n, false⟩ = ⟨R ++ [x], La, n, false⟩ := by
    unfold TwS.step
    rw [if_neg (by simp), if_pos (by simp only [List.length_append, List.length_singleton]; omega)]
  rw [hs]
  exact ⟨v7, vL, rfl, ⟨f.at h.b (by simp), h.r.fr f (by simp), h.l.fr f (by simp), h.hp, h.hl, hT⟩, h.m.fr f (by simp) (by simp), h.f.trans (f.mono (by simp)), h.nb, fun b hb => .inl hb⟩
/-- A round is full. -/
theorem post_ge {w w9 w' : World} {p pm qm : Nat} {c : ConfV} {vR vL v7 v8 : Value} {R La : List Int} {n x : Int} {M : List Int} {t : Int} {k : Nat} {d : Bool} (h : Mid w w9 p pm qm c vR vL v7 (R ++ [x]) La n M (t + 1)) (hpm : p ≠ pm ∧ p ≠ qm) (f : Fr [p] w9 w')
    (hk : k = R.length) (hlk : ¬ ((k + 1 : Nat) : Int) < c.sl) (hb : w'.heap[p]? = some (.cells #[.int .i64 c.wo, .int .i64 c.sl, .int .i64 c.st, .int .i64 c.wa, .int .i64 c.us, .slice none 0 0, v8, .int .i64 (n + 1), .bool d] 71))
    (h8 : OwnI w' v8 (R ++ [x])) (h8n : ∀ b, v8.ownBlock = some b → w9.heap.size ≤ b) (hd : d = (decide (0 < n) && decide (R ++ [x] = La))) :
    StepPost w p pm qm c vR vL ⟨R, La, n, false⟩ M t (TwS.step c.sl.toNat x ⟨R, La, n, false⟩) (t + 1) (.returned (.bool d)) w' := by
  have hs : TwS.step c.sl.toNat x ⟨R, La, n, false⟩ = ⟨[], R ++ [x], n + 1, d⟩ := by
    unfold TwS.step
    rw [if_neg (by simp), if_neg (by simp only [List.length_append, List.length_singleton]; omega), hd]
  rw [hs]
  have hsz := h.f.size
  refine ⟨.slice none 0 0, v8, rfl, ⟨hb, World.ownsRow_nil _ _ _ _, h8, by simp [Value.ownBlock], fun e => ?_, by simp [Value.ownBlock]⟩, h.m.fr f (by simp; exact Ne.symm hpm.1) (by simp; exact Ne.symm hpm.2), h.f.trans (f.mono (by simp)), by simp [Value.ownBlock], fun b hb => .inr (Nat.le_trans hsz (h8n b hb))⟩
  have := h8n p e
  have := heap_lt h.b
  omega

theorem dup7 {w9 W : World} {p : Nat} {g7 : Option Addr} {k c7 : Nat} {L : List Int} (h : OwnI w9 (.slice g7 (k + 1) c7) L) (hl : L.length = k + 1) (hk : k + 1 ≤ 10000) (hp : (Value.slice g7 (k + 1) c7).ownBlock ≠ some p) (f : Fr [p] w9 W) :
    Calls Try.prog 34 #[.slice g7 (k + 1) c7] W (NewInts W L) := by
  obtain ⟨g, c', hv, hI, -⟩ := (h.fr f (fun b hb => by simp; exact fun e => hp (e ▸ hb))).ints
  injection hv with h1 h2 h3
  subst h1 h3
  rw [← hl]
  exact dup_any W g7 c7 L (by omega) (fun e => by rw [e] at hl; cases hl) hI

set_option maxHeartbeats 8000000 in
set_option maxRecDepth 100000 in
theorem step_any (w : World) (p pm qm : Nat) (c : ConfV) (vR vL : Value) (s : TwS) (M : List Int) (t : Int) (hc : c.small) (hT : TwAt w p c vR vL s.r s.l s.n s.d) (hM : MemAt 78 w pm qm M t)
    (ht0 : 0 ≤ t) (ht1 : t ≤ 1000000) (hn0 : 0 ≤ s.n) (hn1 : s.n ≤ 1000000) (hml : (M.length : Int) = c.cells) (hrl : (s.r.length : Int) < c.sl) (hpm : p ≠ pm ∧ p ≠ qm) (hr : vR.ownBlock ≠ some pm ∧ vR.ownBlock ≠ some qm) (hlb : vL.ownBlock ≠ some pm ∧ vL.ownBlock ≠ some qm) :
    Calls Try.prog 13 #[.pointer (some ⟨p, 0, none⟩), .pointer (some ⟨pm, 0, none⟩)] w
      (StepPost w p pm qm c vR vL s M t (s.step c.sl.toNat (loadV M (c.slot s.r.length))) (if s.d then t else t + 1)) := by
  obtain ⟨i0, hi, hz0, hz1, hz2⟩ := info_parts int_info
  obtain ⟨R, La, n, d⟩ := s
  simp only at hT hn0 hn1 hrl
  cases d with
  | true =>
    have q8 : w.cell? ⟨p, 8, none⟩ = some (.bool true) := cell_of hT.b rfl
    have HP := Lib.hid (show StepPost w p pm qm c vR vL ⟨R, La, n, true⟩ M t (TwS.step c.sl.toNat (loadV M (c.slot R.length)) ⟨R, La, n, true⟩) (if true = true then t else t + 1) (.returned (.bool true)) w from
      ⟨vR, vL, rfl, hT, hM, Fr.refl _ _, fun b hb => .inl hb, fun b hb => .inl hb⟩)
    clear hT hM
    go_enter Try.func13, Try.ntmps13
    go_wp2
    go_ret
    exact HP.out
  | false =>
    obtain ⟨gR, cR, rfl, hIR, hcR⟩ := hT.r.ints
    obtain ⟨k, hk⟩ : ∃ k, k = R.length := ⟨_, rfl⟩
    have hsl := hc.2.1
    rw [← hk] at hrl
    have hk5 : k < 5 := by omega
    have q8 : w.cell? ⟨p, 8, none⟩ = some (.bool false) := cell_of hT.b rfl
    have a0 : w.cell? ⟨p, 0, none⟩ = some (.int .i64 c.wo) := cell_of hT.b rfl
    have a1 : w.cell? ⟨p, 1, none⟩ = some (.int .i64 c.sl) := cell_of hT.b rfl
    have a2 : w.cell? ⟨p, 2, none⟩ = some (.int .i64 c.st) := cell_of hT.b rfl
    have a3 : w.cell? ⟨p, 3, none⟩ = some (.int .i64 c.wa) := cell_of hT.b rfl
    have a4 : w.cell? ⟨p, 4, none⟩ = some (.int .i64 c.us) := cell_of hT.b rfl
    have a5 : w.cell? ⟨p, 5, none⟩ = some (.slice gR k cR) := by rw [hk]; exact cell_of hT.b rfl
    have HSL := Lib.hid (fun W : World => cslot_any W c k hc (by omega) hrl)
    have HMEM := Lib.hid (fun (W : World) (h : MemAt 78 W pm qm M t) => load_any W pm qm M t (c.slot k) h ht0 (by omega))
    have hrb : ∀ b, (Value.slice gR R.length cR).ownBlock = some b → b ∉ [pm, qm] := fun b hb => by
      simp only [List.mem_cons, List.not_mem_nil, or_false, not_or]
      exact ⟨fun h => hr.1 (h ▸ hb), fun h => hr.2 (h ▸ hb)⟩
    have hrp2 : some p ≠ (Value.slice gR k cR).ownBlock := by rw [hk]; exact Ne.symm hT.hr
    have HRP := Lib.hid hrb; have HRP2 := Lib.hid hrp2
    clear hrb hrp2
    have HT := Lib.hid hT; have HM := Lib.hid hM; have HK := Lib.hid hk; have HLB := Lib.hid hlb; have HRL := Lib.hid hrl
    have HTC := Lib.hid (slot_in hc hml (show (0 : Int) ≤ (k : Int) by omega) hrl)
    have HC := Lib.hid hc; have HPM := Lib.hid hpm
    clear hT hM hIR hk
    go_enter Try.func13, Try.ntmps13
    go_wp2_with fail
    refine wp_region_heldZ (z := 21) (S := fun w' => w'.cell? ⟨p, 0, none⟩ = some (.int .i64 c.wo) ∧ w'.cell? ⟨p, 1, none⟩ = some (.int .i64 c.sl) ∧ w'.cell? ⟨p, 2, none⟩ = some (.int .i64 c.st) ∧ w'.cell? ⟨p, 3, none⟩ = some (.int .i64 c.wa) ∧ w'.cell? ⟨p, 4, none⟩ = some (.int .i64 c.us) ∧ w'.cell? ⟨p, 5, none⟩ = some (.slice gR k cR)) (by kernel_rfl) ⟨a0, a1, a2, a3, a4, a5⟩ (fun hHeld => ?_)
    refine wpAnyZ_take (i := 0) (oi := _) (v := ?_) rfl (by kernel_rfl) (by kernel_rfl) (by kernel_rfl) (by kernel_rfl) (fun _ _ _ h => h) (Or.inl ⟨by rfl, ?_⟩) (by assumption) ?_
    rotate_left
    · intro w hSw
      try dsimp only at hSw
      try simp only [List.getElem_toArray, List.getElem_cons_zero]
      go_split_ands
      go_simp
      try with_reducible rfl
    try simp only [Act.put, List.getElem_toArray, List.getElem_cons_zero, List.setIfInBounds_toArray, List.set_cons_zero, List.set_cons_succ]
    refine wpAnyZ_take (i := 1) (oi := _) (v := ?_) rfl (by kernel_rfl) (by kernel_rfl) (by kernel_rfl) (by kernel_rfl) (fun _ _ _ h => h) (Or.inl ⟨by rfl, ?_⟩) (by assumption) ?_
    rotate_left
    · intro w hSw
      try dsimp only at hSw
      try simp only [List.getElem_toArray, List.getElem_cons_succ, List.getElem_cons_zero]
      go_split_ands
      go_simp
      try with_reducible rfl
    try simp only [Act.put, List.getElem_toArray, List.getElem_cons_succ, List.getElem_cons_zero, List.setIfInBounds_toArray, List.set_cons_zero, List.set_cons_succ]
    refine wpAnyZ_take (i := 2) (oi := _) (v := ?_) rfl (by kernel_rfl) (by kernel_rfl) (by kernel_rfl) (by kernel_rfl) (fun _ _ _ h => h) (Or.inl ⟨by rfl, ?_⟩) (by assumption) ?_
    rotate_left
    · intro w hSw
      try dsimp only at hSw
      try simp only [List.getElem_toArray, List.getElem_cons_succ, List.getElem_cons_zero]
      go_split_ands
      go_simp
      try with_reducible rfl
    try simp only [Act.put, List.getElem_toArray, List.getElem_cons_succ, List.getElem_cons_zero, List.setIfInBounds_toArray, List.set_cons_zero, List.set_cons_succ]
    refine wpAnyZ_take (i := 3) (oi := _) (v := ?_) rfl (by kernel_rfl) (by kernel_rfl) (by kernel_rfl) (by kernel_rfl) (fun _ _ _ h => h) (Or.inl ⟨by rfl, ?_⟩) (by assumption) ?_
    rotate_left
    · intro w hSw
      try dsimp only at hSw
      try simp only [List.getElem_toArray, List.getElem_cons_succ, List.getElem_cons_zero]
      go_split_ands
      go_simp
      try with_reducible rfl
    try simp only [Act.put, List.getElem_toArray, List.getElem_cons_succ, List.getElem_cons_zero, List.setIfInBounds_toArray, List.set_cons_zero, List.set_cons_succ]
    refine wpAnyZ_take (i := 4) (oi := _) (v := ?_) rfl (by kernel_rfl) (by kernel_rfl) (by kernel_rfl) (by kernel_rfl) (fun _ _ _ h => h) (Or.inl ⟨by rfl, ?_⟩) (by assumption) ?_
    rotate_left
    · intro w hSw
      try dsimp only at hSw
      try simp only [List.getElem_toArray, List.getElem_cons_succ, List.getElem_cons_zero]
      go_split_ands
      go_simp
      try with_reducible rfl
    try simp only [Act.put, List.getElem_toArray, List.getElem_cons_succ, List.getElem_cons_zero, List.setIfInBounds_toArray, List.set_cons_zero, List.set_cons_succ]
    refine wpAnyZ_take (i := 5) (oi := _) (v := ?_) rfl (by kernel_rfl) (by kernel_rfl) (by kernel_rfl) (by kernel_rfl) (fun _ _ _ h => h) (Or.inl ⟨by rfl, ?_⟩) (by assumption) ?_
    rotate_left
    · intro w hSw
      try dsimp only at hSw
      try simp only [List.getElem_toArray, List.getElem_cons_succ, List.getElem_cons_zero]
      go_split_ands
      go_simp
      try with_reducible rfl
    try simp only [Act.put, List.getElem_toArray, List.getElem_cons_succ, List.getElem_cons_zero, List.setIfInBounds_toArray, List.set_cons_zero, List.set_cons_succ]
    refine wpAnyZ_take (i := 6) (oi := _) (v := ?_) rfl (by kernel_rfl) (by kernel_rfl) (by kernel_rfl) (by kernel_rfl) (fun _ _ _ h => h) (Or.inl ⟨by rfl, ?_⟩) (by assumption) ?_
    rotate_left
    · intro w hSw
      try dsimp only at hSw
      try simp only [List.getElem_toArray, List.getElem_cons_succ, List.getElem_cons_zero]
      go_split_ands
      go_simp
      try with_reducible rfl
    try simp only [Act.put, List.getElem_toArray, List.getElem_cons_succ, List.getElem_cons_zero, List.setIfInBounds_toArray, List.set_cons_zero, List.set_cons_succ]
    refine wpAnyZ_take (i := 7) (oi := _) (v := ?_) rfl (by kernel_rfl) (by kernel_rfl) (by kernel_rfl) (by kernel_rfl) (fun _ _ _ h => h) (Or.inl ⟨by rfl, ?_⟩) (by assumption) ?_
    rotate_left
    · intro w hSw
      try dsimp only at hSw
      try simp only [List.getElem_toArray, List.getElem_cons_succ, List.getElem_cons_zero]
      go_split_ands
      go_simp
      try with_reducible rfl
    try simp only [Act.put, List.getElem_toArray, List.getElem_cons_succ, List.getElem_cons_zero, List.setIfInBounds_toArray, List.set_cons_zero, List.set_cons_succ]
    refine wpAnyZ_take (i := 8) (oi := _) (v := ?_) rfl (by kernel_rfl) (by kernel_rfl) (by kernel_rfl) (by kernel_rfl) (fun _ _ _ h => h) (Or.inl ⟨by rfl, ?_⟩) (by assumption) ?_
    rotate_left
    · intro w hSw
      try dsimp only at hSw
      try simp only [List.getElem_toArray, List.getElem_cons_succ, List.getElem_cons_zero]
      go_split_ands
      go_simp
      try with_reducible rfl
    try simp only [Act.put, List.getElem_toArray, List.getElem_cons_succ, List.getElem_cons_zero, List.setIfInBounds_toArray, List.set_cons_zero, List.set_cons_succ]
    refine wpAnyZ_take (i := 9) (oi := _) (v := ?_) rfl (by kernel_rfl) (by kernel_rfl) (by kernel_rfl) (by kernel_rfl) (fun _ _ _ h => h) (Or.inl ⟨by rfl, ?_⟩) (by assumption) ?_
    rotate_left
    · intro w hSw
      try dsimp only at hSw
      try simp only [List.getElem_toArray, List.getElem_cons_succ, List.getElem_cons_zero]
      go_split_ands
      go_simp
      try with_reducible rfl
    try simp only [Act.put, List.getElem_toArray, List.getElem_cons_succ, List.getElem_cons_zero, List.setIfInBounds_toArray, List.set_cons_zero, List.set_cons_succ]
    refine wpAnyZ_take (i := 10) (oi := _) (v := ?_) rfl (by kernel_rfl) (by kernel_rfl) (by kernel_rfl) (by kernel_rfl) (fun _ _ _ h => h) (Or.inl ⟨by rfl, ?_⟩) (by assumption) ?_
    rotate_left
    · intro w hSw
      try dsimp only at hSw
      try simp only [List.getElem_toArray, List.getElem_cons_succ, List.getElem_cons_zero]
      go_split_ands
      go_simp
      try with_reducible rfl
    try simp only [Act.put, List.getElem_toArray, List.getElem_cons_succ, List.getElem_cons_zero, List.setIfInBounds_toArray, List.set_cons_zero, List.set_cons_succ]
    refine wpAnyZ_take (i := 11) (oi := _) (v := ?_) rfl (by kernel_rfl) (by kernel_rfl) (by kernel_rfl) (by kernel_rfl) (fun _ _ _ h => h) (Or.inl ⟨by rfl, ?_⟩) (by assumption) ?_
    rotate_left
    · intro w hSw
      try dsimp only at hSw
      try simp only [List.getElem_toArray, List.getElem_cons_succ, List.getElem_cons_zero]
      go_split_ands
      go_simp
      try with_reducible rfl
    try simp only [Act.put, List.getElem_toArray, List.getElem_cons_succ, List.getElem_cons_zero, List.setIfInBounds_toArray, List.set_cons_zero, List.set_cons_succ]
    refine wpAnyZ_take (i := 12) (oi := _) (v := ?_) rfl (by kernel_rfl) (by kernel_rfl) (by kernel_rfl) (by kernel_rfl) (fun _ _ _ h => h) (Or.inl ⟨by rfl, ?_⟩) (by assumption) ?_
    rotate_left
    · intro w hSw
      try dsimp only at hSw
      try simp only [List.getElem_toArray, List.getElem_cons_succ, List.getElem_cons_zero]
      go_split_ands
      go_simp
      try with_reducible rfl
    try simp only [Act.put, List.getElem_toArray, List.getElem_cons_succ, List.getElem_cons_zero, List.setIfInBounds_toArray, List.set_cons_zero, List.set_cons_succ]
    refine wpAnyZ_take (i := 13) (oi := _) (v := ?_) rfl (by kernel_rfl) (by kernel_rfl) (by kernel_rfl) (by kernel_rfl) (fun _ _ _ h => h) (Or.inl ⟨by rfl, ?_⟩) (by assumption) ?_
    rotate_left
    · intro w hSw
      try dsimp only at hSw
      try simp only [List.getElem_toArray, List.getElem_cons_succ, List.getElem_cons_zero]
      go_split_ands
      go_simp
      try with_reducible rfl
    try simp only [Act.put, List.getElem_toArray, List.getElem_cons_succ, List.getElem_cons_zero, List.setIfInBounds_toArray, List.set_cons_zero, List.set_cons_succ]
    refine wpAnyZ_take (i := 14) (oi := _) (v := ?_) rfl (by kernel_rfl) (by kernel_rfl) (by kernel_rfl) (by kernel_rfl) (fun _ _ _ h => h) (Or.inl ⟨by rfl, ?_⟩) (by assumption) ?_
    rotate_left
    · intro w hSw
      try dsimp only at hSw
      try simp only [List.getElem_toArray, List.getElem_cons_succ, List.getElem_cons_zero]
      go_split_ands
      go_simp
      try with_reducible rfl
    try simp only [Act.put, List.getElem_toArray, List.getElem_cons_succ, List.getElem_cons_zero, List.setIfInBounds_toArray, List.set_cons_zero, List.set_cons_succ]
    refine wpAnyZ_one (i := 15) (o := _) (by kernel_rfl) rfl (fun K hK => ?_)
    simp only [List.getElem_toArray, List.getElem_cons_succ, List.getElem_cons_zero]
    go_simp
    refine (HSL.out _).mono ?_
    rintro e w5 ⟨rfl, f5⟩
    go_wp2_with fail
    refine hK.out _ _ ⟨f5.cell a0 (by simp), f5.cell a1 (by simp), f5.cell a2 (by simp), f5.cell a3 (by simp), f5.cell a4 (by simp), f5.cell a5 (by simp)⟩ (fun hHeld => ?_)
    clear hK K
    try simp only [Act.put, List.getElem_toArray, List.getElem_cons_succ, List.getElem_cons_zero, List.setIfInBounds_toArray, List.set_cons_zero, List.set_cons_succ]
    refine wpAnyZ_one (i := 16) (o := _) (by kernel_rfl) rfl (fun K hK => ?_)
    simp only [List.getElem_toArray, List.getElem_cons_succ, List.getElem_cons_zero]
    go_simp
    refine ((HMEM.out _ (HM.out.drew.fr f5 (by simp) (by simp)))).mono ?_
    rintro e w6 ⟨rfl, h6⟩
    have H6 := Lib.hid h6
    have f6 := h6.2
    have hp6 : p ∉ [pm, qm] := by simp; exact hpm
    go_wp2_with fail
    refine hK.out _ _ ⟨f6.cell (f5.cell a0 (by simp)) hp6, f6.cell (f5.cell a1 (by simp)) hp6, f6.cell (f5.cell a2 (by simp)) hp6, f6.cell (f5.cell a3 (by simp)) hp6, f6.cell (f5.cell a4 (by simp)) hp6, f6.cell (f5.cell a5 (by simp)) hp6⟩ (fun hHeld => ?_)
    clear hK K
    try simp only [Act.put, List.getElem_toArray, List.getElem_cons_succ, List.getElem_cons_zero, List.setIfInBounds_toArray, List.set_cons_zero, List.set_cons_succ]
    refine wpAnyZ_one (i := 17) (o := _) (by kernel_rfl) rfl (fun K hK => ?_)
    simp only [List.getElem_toArray, List.getElem_cons_succ, List.getElem_cons_zero]
    go_simp
    refine hK.out _ _ ⟨((Fr.refl [] w6).alloc _).cell (f6.cell (f5.cell a0 (by simp)) hp6) (by simp), ((Fr.refl [] w6).alloc _).cell (f6.cell (f5.cell a1 (by simp)) hp6) (by simp), ((Fr.refl [] w6).alloc _).cell (f6.cell (f5.cell a2 (by simp)) hp6) (by simp), ((Fr.refl [] w6).alloc _).cell (f6.cell (f5.cell a3 (by simp)) hp6) (by simp), ((Fr.refl [] w6).alloc _).cell (f6.cell (f5.cell a4 (by simp)) hp6) (by simp), ((Fr.refl [] w6).alloc _).cell (f6.cell (f5.cell a5 (by simp)) hp6) (by simp)⟩ (fun hHeld => ?_)
    clear hK K
    try simp only [Act.put, List.getElem_toArray, List.getElem_cons_succ, List.getElem_cons_zero, List.setIfInBounds_toArray, List.set_cons_zero, List.set_cons_succ]
    refine wpAnyZ_one (i := 18) (o := _) (by kernel_rfl) rfl (fun K hK => ?_)
    simp only [List.getElem_toArray, List.getElem_cons_succ, List.getElem_cons_zero]
    rw [if_pos (by rfl)]
    have HO6 := own6 HT.out HK.out f5 f6 HRP.out (.cells #[.int .i64 (loadV M (c.slot k))] 3)
    refine wp_append_at _ _ _ 32 rfl 0 3 i0 (.int .i64 0) 1 8 Try.underlying32 hi hz0 hz1 hz2 rfl (by decide) _ _ _ rfl HO6 ⟨w6.heap.size, 0, none⟩ 1 1 [.int .i64 (loadV M (c.slot k))] rfl rfl (cell_one_new w6 _ _) (fun u hu => by obtain rfl := List.mem_singleton.1 hu; rfl) (by unfold maxLen; omega) (by omega) (Nat.zero_le _) ?_
    intro v7 w7 hown7 hgrow hat
    obtain ⟨g7, c7, rfl⟩ := owns_slice hown7
    have hrp := HRP2.out
    refine hK.out _ _ ⟨hgrow.cell (((Fr.refl [] w6).alloc _).cell (f6.cell (f5.cell a0 (by simp)) hp6) (by simp)) hrp, hgrow.cell (((Fr.refl [] w6).alloc _).cell (f6.cell (f5.cell a1 (by simp)) hp6) (by simp)) hrp, hgrow.cell (((Fr.refl [] w6).alloc _).cell (f6.cell (f5.cell a2 (by simp)) hp6) (by simp)) hrp, hgrow.cell (((Fr.refl [] w6).alloc _).cell (f6.cell (f5.cell a3 (by simp)) hp6) (by simp)) hrp, hgrow.cell (((Fr.refl [] w6).alloc _).cell (f6.cell (f5.cell a4 (by simp)) hp6) (by simp)) hrp, hgrow.cell (((Fr.refl [] w6).alloc _).cell (f6.cell (f5.cell a5 (by simp)) hp6) (by simp)) hrp⟩ (fun hHeld => ?_)
    clear hK K
    try simp only [Act.put, List.getElem_toArray, List.getElem_cons_succ, List.getElem_cons_zero, List.setIfInBounds_toArray, List.set_cons_zero, List.set_cons_succ]
    refine wpAnyZ_take (i := 19) (oi := _) (v := ?_) rfl (by kernel_rfl) (by kernel_rfl) (by kernel_rfl) (by kernel_rfl) (fun _ _ _ h => h) (Or.inl ⟨by rfl, ?_⟩) (by assumption) ?_
    rotate_left
    · intro w hSw
      try dsimp only at hSw
      try simp only [List.getElem_toArray, List.getElem_cons_succ, List.getElem_cons_zero]
      go_split_ands
      go_simp
      try with_reducible rfl
    try simp only [Act.put, List.getElem_toArray, List.getElem_cons_succ, List.getElem_cons_zero, List.setIfInBounds_toArray, List.set_cons_zero, List.set_cons_succ]
    refine wpAnyZ_take (i := 20) (oi := _) (v := ?_) rfl (by kernel_rfl) (by kernel_rfl) (by kernel_rfl) (by kernel_rfl) (fun _ _ _ h => h) (Or.inl ⟨by rfl, ?_⟩) (by assumption) ?_
    rotate_left
    · intro w hSw
      try dsimp only at hSw
      try simp only [List.getElem_toArray, List.getElem_cons_succ, List.getElem_cons_zero]
      go_split_ands
      go_simp
      try with_reducible rfl
    try simp only [Act.put, List.getElem_toArray, List.getElem_cons_succ, List.getElem_cons_zero, List.setIfInBounds_toArray, List.set_cons_zero, List.set_cons_succ]
    refine wpAnyZ_last (o := _) (by kernel_rfl) rfl (fun K hK => ?_)
    simp only [List.getElem_toArray, List.getElem_cons_succ, List.getElem_cons_zero]
    have h7b := at7 HT.out f5 H6.out.2 HPM.out _ (by rw [← HK.out]; exact hgrow)
    have h7c : w7.cell? ⟨p, 5, none⟩ = some _ := cell_of h7b rfl
    have h7f := frozen_of (i := 5) h7b
    clear h7b
    go_simp
    refine hK.out _ _ ?_
    clear hK K
    try simp only [Act.put, List.getElem_toArray, List.getElem_cons_succ, List.getElem_cons_zero, List.setIfInBounds_toArray, List.set_cons_zero, List.set_cons_succ]
    refine wpAnyZ_done (by kernel_rfl) ?_ _
    have hmid := mid_of HT.out HK.out f5 H6.out (show t + tch M (c.slot (k : Int)) = t + 1 by rw [HTC.out]) HM.out HPM.out HRP.out HLB.out _ hown7 hgrow hat
    have HMID := Lib.hid hmid
    clear hmid hown7 hgrow hat hrp hHeld h7c h7f a0 a1 a2 a3 a4 a5 q8
    generalize w7.setCell ⟨p, 5, none⟩ (.slice g7 (k + 1) c7) = w9 at HMID ⊢
    have b1 : w9.cell? ⟨p, 1, none⟩ = some (.int .i64 c.sl) := cell_of HMID.out.b rfl
    have b2 : w9.cell? ⟨p, 5, none⟩ = some (.slice g7 (k + 1) c7) := cell_of HMID.out.b rfl
    have hlk : (((k + 1 : Nat) : Int) < c.sl) ∨ ¬ (((k + 1 : Nat) : Int) < c.sl) := by omega
    have hT7 : ∀ b, (Value.slice g7 (k + 1) c7).ownBlock = some b → vL.ownBlock ≠ some b := fun b hb h => by
      have h1 := HMID.out.lb b h
      rcases HMID.out.nb b hb with h2 | h2
      · exact h1.2 h2
      · omega
    have HT7 := Lib.hid hT7
    clear hT7
    rcases hlk with hlk | hlk
    · go_wp2_with fail
      go_region_held3 (fun w' => w'.cell? ⟨p, 1, none⟩ = some (.int .i64 c.sl) ∧ w'.cell? ⟨p, 5, none⟩ = some (.slice g7 (k + 1) c7)) (first | go_keep) (fail)
      go_wp2
      go_ret
      have hp := post_lt HMID.out HT7.out ((Fr.refl [] w9).drew) HK.out hlk
      rw [HK.out] at hp
      exact hp
    · obtain ⟨gL, cL, hvL, hIL, -⟩ := HMID.out.l.ints
      subst hvL
      have hI7 : IntsAt w9 g7 (R ++ [loadV M (c.slot k)]) := by
        obtain ⟨g, c', hv, hI, -⟩ := HMID.out.r.ints
        injection hv with hv _ _
        subst hv
        exact hI
      have hlen : (R ++ [loadV M (c.slot k)]).length = k + 1 := by rw [List.length_append, List.length_singleton, HK.out]
      have b0 : w9.cell? ⟨p, 7, none⟩ = some (.int .i64 n) := cell_of HMID.out.b rfl
      have b3 : w9.cell? ⟨p, 6, none⟩ = some (.slice gL La.length cL) := cell_of HMID.out.b rfl
      have b8 : w9.cell? ⟨p, 8, none⟩ = some (.bool false) := cell_of HMID.out.b rfl
      have b8f := frozen_of (i := 8) HMID.out.b
      clear HSL HMEM HRP HRP2 HM HRL HTC HC HLB f5 f6 H6 h6 HO6 hp6
      have HEQ := Lib.hid (fun (W : World) (f : Fr [] w9 W) => equal_any W g7 gL c7 cL (R ++ [loadV M (c.slot k)]) La (hI7.fr f (by simp)) (hIL.fr f (by simp)))
      rw [hlen] at HEQ
      clear hI7 hIL
      go_wp2_with fail
      go_region_held3 (fun w' => w'.cell? ⟨p, 1, none⟩ = some (.int .i64 c.sl) ∧ w'.cell? ⟨p, 5, none⟩ = some (.slice g7 (k + 1) c7)) (first | go_keep) (fail)
      go_wp2_with fail
      rcases (show 0 < n ∨ ¬ 0 < n by omega) with hpos | hpos
      · go_region_held3 (fun w' => w'.cell? ⟨p, 5, none⟩ = some (.slice g7 (k + 1) c7) ∧ w'.cell? ⟨p, 7, none⟩ = some (.int .i64 n) ∧ w'.cell? ⟨p, 6, none⟩ = some (.slice gL La.length cL))
          (first | go_keep | exact ⟨f10.cell b2 (by simp), f10.cell b0 (by simp), f10.cell b3 (by simp)⟩ | exact ⟨cell_of (heap_setCell_same (f10.at HMID.out.b (by simp)) _) rfl, cell_of (heap_setCell_same (f10.at HMID.out.b (by simp)) _) rfl, cell_of (heap_setCell_same (f10.at HMID.out.b (by simp)) _) rfl⟩)
          (first | (go_at_call 33; refine (HEQ.out w9.drew.drew (Fr.refl [] w9).drew.drew).mono ?_; rintro e w10 ⟨rfl, f10⟩; have q8 := f10.cell b8 (by simp); have q8f := frozen_of (i := 8) (f10.at HMID.out.b (by simp))))
        have hbA := heap_setCell_same (i := 8) (f10.at HMID.out.b (by simp)) (.bool (decide (R ++ [loadV M (c.slot k)] = La)))
        have fA : Fr [p] w9 _ := (((Fr.refl [p] w9).drew.drew.trans (f10.mono (by simp))).setCell (p := ⟨p, 8, none⟩) (.inl (by simp)) (.bool (decide (R ++ [loadV M (c.slot k)] = La))))
        have hdd : decide (R ++ [loadV M (c.slot k)] = La) = (decide (0 < n) && decide (R ++ [loadV M (c.slot k)] = La)) := by rw [decide_eq_true hpos, Bool.true_and]
        generalize hdE : decide (R ++ [loadV M (c.slot k)] = La) = d1 at hbA fA ⊢
        have hdv : d1 = (decide (0 < n) && decide (R ++ [loadV M (c.slot k)] = La)) := hdE ▸ hdd
        have HDV := Lib.hid hdv
        clear hdd hdE hdv
        generalize w10.setCell ⟨p, 8, none⟩ (.bool d1) = wA at hbA fA ⊢
        simp only [List.setIfInBounds_toArray, List.set_cons_zero, List.set_cons_succ] at hbA
        have e7 : wA.cell? ⟨p, 7, none⟩ = some (.int .i64 n) := cell_of hbA rfl
        have e7f := frozen_of (i := 7) hbA
        have e7w : IntKind.i64.wrap (n + 1) = n + 1 := by rw [IntKind.wrap_i64]; omega
        have e5 : wA.cell? ⟨p, 5, none⟩ = some (.slice g7 (k + 1) c7) := cell_of hbA rfl
        clear b0 b1 b2 b3 b8 b8f
        go_wp2_with fail
        have fB : Fr [p] w9 (wA.setCell ⟨p, 7, none⟩ (.int .i64 (n + 1))) := fA.setCell (.inl (by simp)) _
        have hbB := heap_setCell_same (i := 7) hbA (.int .i64 (n + 1))
        refine (dup7 HMID.out.r hlen (by omega) HMID.out.hp fB).mono ?_
        rintro e w8 ⟨v8, rfl, hv8, hv8n, f8⟩
        obtain ⟨g8, c8, rfl⟩ := owns_slice hv8
        have hb8 := f8.at hbB (by simp)
        simp only [List.setIfInBounds_toArray, List.set_cons_zero, List.set_cons_succ] at hb8
        have h8f : Fr [p] w9 w8 := fB.trans (f8.mono (by simp))
        have hne : ∀ b, (Value.slice g8 (R ++ [loadV M (c.slot k)]).length c8).ownBlock = some b → b ∉ [p] := fun b hb => by
          have h1 := hv8n b hb; have h2 := heap_lt hbB
          simp; omega
        have hn9 : ∀ b, (Value.slice g8 (R ++ [loadV M (c.slot k)]).length c8).ownBlock = some b → w9.heap.size ≤ b := fun b hb => Nat.le_trans fB.size (hv8n b hb)
        have k8 : w8.cell? ⟨p, 8, none⟩ = some _ := cell_of hb8 rfl
        have k6 : w8.cell? ⟨p, 6, none⟩ = some _ := cell_of hb8 rfl
        have k5 : w8.cell? ⟨p, 5, none⟩ = some _ := cell_of hb8 rfl
        have k6f := frozen_of (i := 6) hb8
        have k5f := frozen_of (i := 5) hb8
        have HB8 := Lib.hid hb8; have HV8 := Lib.hid hv8; have HNE := Lib.hid hne; have HN9 := Lib.hid hn9
        clear hb8 hv8 hne hn9 hv8n hbB e7 e7f e7w e5 hbA
        go_wp2_with fail
        go_ret
        have fz : Fr [p] w8 ((w8.setCell ⟨p, 6, none⟩ (.slice g8 (R ++ [loadV M (c.slot k)]).length c8)).setCell ⟨p, 5, none⟩ (.slice none 0 0)) :=
          ((Fr.refl [p] w8).setCell (p := ⟨p, 6, none⟩) (.inl (by simp)) _).setCell (p := ⟨p, 5, none⟩) (.inl (by simp)) _
        have hbz := heap_setCell_same (i := 5) (heap_setCell_same (i := 6) HB8.out (.slice g8 (R ++ [loadV M (c.slot k)]).length c8)) (.slice none 0 0)
        simp only [List.setIfInBounds_toArray, List.set_cons_zero, List.set_cons_succ] at hbz
        have hp := post_ge HMID.out HPM.out (h8f.trans fz) HK.out (by omega) hbz (HV8.out.fr fz HNE.out) HN9.out HDV.out
        rw [show TwS.step c.sl.toNat (loadV M (c.slot (R.length : Int))) = TwS.step c.sl.toNat (loadV M (c.slot (k : Int))) by rw [HK.out]]
        rw [hlen] at hp
        exact hp
      · skip
        refine wp_region_heldZ (z := 19) (S := fun w' => w'.cell? ⟨p, 5, none⟩ = some (.slice g7 (k + 1) c7) ∧ w'.cell? ⟨p, 7, none⟩ = some (.int .i64 n) ∧ w'.cell? ⟨p, 6, none⟩ = some (.slice gL La.length cL)) (by kernel_rfl) ⟨b2, b0, b3⟩ (fun hHeld => ?_)
        refine wpAnyZ_take (i := 0) (oi := _) (v := ?_) rfl (by kernel_rfl) (by kernel_rfl) (by kernel_rfl) (by kernel_rfl) (fun _ _ _ h => h) (Or.inl ⟨by rfl, ?_⟩) (by assumption) ?_
        rotate_left
        · intro w hSw
          try dsimp only at hSw
          try simp only [List.getElem_toArray, List.getElem_cons_zero]
          go_split_ands
          go_simp
          try with_reducible rfl
        try simp only [Act.put, List.getElem_toArray, List.getElem_cons_zero, List.setIfInBounds_toArray, List.set_cons_zero, List.set_cons_succ]
        refine wpAnyZ_take (i := 1) (oi := _) (v := ?_) rfl (by kernel_rfl) (by kernel_rfl) (by kernel_rfl) (by kernel_rfl) (fun _ _ _ h => h) (Or.inl ⟨by rfl, ?_⟩) (by assumption) ?_
        rotate_left
        · intro w hSw
          try dsimp only at hSw
          try simp only [List.getElem_toArray, List.getElem_cons_succ, List.getElem_cons_zero]
          go_split_ands
          go_simp
          try with_reducible rfl
        try simp only [Act.put, List.getElem_toArray, List.getElem_cons_succ, List.getElem_cons_zero, List.setIfInBounds_toArray, List.set_cons_zero, List.set_cons_succ]
        refine wpAnyZ_take (i := 2) (oi := _) (v := ?_) rfl (by kernel_rfl) (by kernel_rfl) (by kernel_rfl) (by kernel_rfl) (fun _ _ _ h => h) (Or.inl ⟨by rfl, ?_⟩) (by assumption) ?_
        rotate_left
        · intro w hSw
          try dsimp only at hSw
          try simp only [List.getElem_toArray, List.getElem_cons_succ, List.getElem_cons_zero]
          go_split_ands
          go_simp
          try with_reducible rfl
        try simp only [Act.put, List.getElem_toArray, List.getElem_cons_succ, List.getElem_cons_zero, List.setIfInBounds_toArray, List.set_cons_zero, List.set_cons_succ]
        refine wpAnyZ_take (i := 3) (oi := _) (v := ?_) rfl (by kernel_rfl) (by kernel_rfl) (by kernel_rfl) (by kernel_rfl) (fun _ _ _ h => h) (Or.inl ⟨by rfl, ?_⟩) (by assumption) ?_
        rotate_left
        · intro w hSw
          try dsimp only at hSw
          try simp only [List.getElem_toArray, List.getElem_cons_succ, List.getElem_cons_zero]
          go_split_ands
          go_simp
          try with_reducible rfl
        try simp only [Act.put, List.getElem_toArray, List.getElem_cons_succ, List.getElem_cons_zero, List.setIfInBounds_toArray, List.set_cons_zero, List.set_cons_succ]
        refine wpAnyZ_take (i := 4) (oi := _) (v := ?_) rfl (by kernel_rfl) (by kernel_rfl) (by kernel_rfl) (by kernel_rfl) (fun _ _ _ h => h) (Or.inl ⟨by rfl, ?_⟩) (by assumption) ?_
        rotate_left
        · intro w hSw
          try dsimp only at hSw
          try simp only [List.getElem_toArray, List.getElem_cons_succ, List.getElem_cons_zero]
          go_split_ands
          go_simp
          try with_reducible rfl
        try simp only [Act.put, List.getElem_toArray, List.getElem_cons_succ, List.getElem_cons_zero, List.setIfInBounds_toArray, List.set_cons_zero, List.set_cons_succ]
        refine wpAnyZ_take (i := 5) (oi := _) (v := ?_) rfl (by kernel_rfl) (by kernel_rfl) (by kernel_rfl) (by kernel_rfl) (fun _ _ _ h => h) (Or.inl ⟨by rfl, ?_⟩) (by assumption) ?_
        rotate_left
        · intro w hSw
          try dsimp only at hSw
          try simp only [List.getElem_toArray, List.getElem_cons_succ, List.getElem_cons_zero]
          go_split_ands
          go_simp
          try with_reducible rfl
        try simp only [Act.put, List.getElem_toArray, List.getElem_cons_succ, List.getElem_cons_zero, List.setIfInBounds_toArray, List.set_cons_zero, List.set_cons_succ]
        refine wpAnyZ_take (i := 6) (oi := _) (v := ?_) rfl (by kernel_rfl) (by kernel_rfl) (by kernel_rfl) (by kernel_rfl) (fun _ _ _ h => h) (Or.inl ⟨by rfl, ?_⟩) (by assumption) ?_
        rotate_left
        · intro w hSw
          try dsimp only at hSw
          try simp only [List.getElem_toArray, List.getElem_cons_succ, List.getElem_cons_zero]
          go_split_ands
          go_simp
          try with_reducible rfl
        try simp only [Act.put, List.getElem_toArray, List.getElem_cons_succ, List.getElem_cons_zero, List.setIfInBounds_toArray, List.set_cons_zero, List.set_cons_succ]
        refine wpAnyZ_take (i := 7) (oi := _) (v := undef) rfl (by kernel_rfl) (by kernel_rfl) (by kernel_rfl) (by kernel_rfl) (fun _ _ _ h => h) (Or.inr ⟨by rfl, rfl⟩) (by assumption) ?_
        try simp only [Act.put, List.getElem_toArray, List.getElem_cons_succ, List.getElem_cons_zero, List.setIfInBounds_toArray, List.set_cons_zero, List.set_cons_succ]
        refine wpAnyZ_take (i := 8) (oi := _) (v := undef) rfl (by kernel_rfl) (by kernel_rfl) (by kernel_rfl) (by kernel_rfl) (fun _ _ _ h => h) (Or.inr ⟨by rfl, rfl⟩) (by assumption) ?_
        try simp only [Act.put, List.getElem_toArray, List.getElem_cons_succ, List.getElem_cons_zero, List.setIfInBounds_toArray, List.set_cons_zero, List.set_cons_succ]
        refine wpAnyZ_take (i := 9) (oi := _) (v := undef) rfl (by kernel_rfl) (by kernel_rfl) (by kernel_rfl) (by kernel_rfl) (fun _ _ _ h => h) (Or.inr ⟨by rfl, rfl⟩) (by assumption) ?_
        try simp only [Act.put, List.getElem_toArray, List.getElem_cons_succ, List.getElem_cons_zero, List.setIfInBounds_toArray, List.set_cons_zero, List.set_cons_succ]
        refine wpAnyZ_take (i := 10) (oi := _) (v := undef) rfl (by kernel_rfl) (by kernel_rfl) (by kernel_rfl) (by kernel_rfl) (fun _ _ _ h => h) (Or.inr ⟨by rfl, rfl⟩) (by assumption) ?_
        try simp only [Act.put, List.getElem_toArray, List.getElem_cons_succ, List.getElem_cons_zero, List.setIfInBounds_toArray, List.set_cons_zero, List.set_cons_succ]
        refine wpAnyZ_take (i := 11) (oi := _) (v := undef) rfl (by kernel_rfl) (by kernel_rfl) (by kernel_rfl) (by kernel_rfl) (fun _ _ _ h => h) (Or.inr ⟨by rfl, rfl⟩) (by assumption) ?_
        try simp only [Act.put, List.getElem_toArray, List.getElem_cons_succ, List.getElem_cons_zero, List.setIfInBounds_toArray, List.set_cons_zero, List.set_cons_succ]
        refine wpAnyZ_take (i := 12) (oi := _) (v := undef) rfl (by kernel_rfl) (by kernel_rfl) (by kernel_rfl) (by kernel_rfl) (fun _ _ _ h => h) (Or.inr ⟨by rfl, rfl⟩) (by assumption) ?_
        try simp only [Act.put, List.getElem_toArray, List.getElem_cons_succ, List.getElem_cons_zero, List.setIfInBounds_toArray, List.set_cons_zero, List.set_cons_succ]
        refine wpAnyZ_take (i := 13) (oi := _) (v := undef) rfl (by kernel_rfl) (by kernel_rfl) (by kernel_rfl) (by kernel_rfl) (fun _ _ _ h => h) (Or.inr ⟨by rfl, rfl⟩) (by assumption) ?_
        try simp only [Act.put, List.getElem_toArray, List.getElem_cons_succ, List.getElem_cons_zero, List.setIfInBounds_toArray, List.set_cons_zero, List.set_cons_succ]
        refine wpAnyZ_take (i := 14) (oi := _) (v := undef) rfl (by kernel_rfl) (by kernel_rfl) (by kernel_rfl) (by kernel_rfl) (fun _ _ _ h => h) (Or.inr ⟨by rfl, rfl⟩) (by assumption) ?_
        try simp only [Act.put, List.getElem_toArray, List.getElem_cons_succ, List.getElem_cons_zero, List.setIfInBounds_toArray, List.set_cons_zero, List.set_cons_succ]
        refine wpAnyZ_take (i := 15) (oi := _) (v := undef) rfl (by kernel_rfl) (by kernel_rfl) (by kernel_rfl) (by kernel_rfl) (fun _ _ _ h => h) (Or.inr ⟨by rfl, rfl⟩) (by assumption) ?_
        try simp only [Act.put, List.getElem_toArray, List.getElem_cons_succ, List.getElem_cons_zero, List.setIfInBounds_toArray, List.set_cons_zero, List.set_cons_succ]
        refine wpAnyZ_take (i := 16) (oi := _) (v := ?_) rfl (by kernel_rfl) (by kernel_rfl) (by kernel_rfl) (by kernel_rfl) (fun _ _ _ h => h) (Or.inl ⟨by rfl, ?_⟩) (by assumption) ?_
        rotate_left
        · intro w hSw
          try dsimp only at hSw
          try simp only [List.getElem_toArray, List.getElem_cons_succ, List.getElem_cons_zero]
          go_split_ands
          go_simp
          try with_reducible rfl
        try simp only [Act.put, List.getElem_toArray, List.getElem_cons_succ, List.getElem_cons_zero, List.setIfInBounds_toArray, List.set_cons_zero, List.set_cons_succ]
        refine wpAnyZ_take (i := 17) (oi := _) (v := ?_) rfl (by kernel_rfl) (by kernel_rfl) (by kernel_rfl) (by kernel_rfl) (fun _ _ _ h => h) (Or.inl ⟨by rfl, ?_⟩) (by assumption) ?_
        rotate_left
        · intro w hSw
          try dsimp only at hSw
          try simp only [List.getElem_toArray, List.getElem_cons_succ, List.getElem_cons_zero]
          go_split_ands
          go_simp
          try with_reducible rfl
        try simp only [Act.put, List.getElem_toArray, List.getElem_cons_succ, List.getElem_cons_zero, List.setIfInBounds_toArray, List.set_cons_zero, List.set_cons_succ]
        refine wpAnyZ_take (i := 18) (oi := _) (v := ?_) rfl (by kernel_rfl) (by kernel_rfl) (by kernel_rfl) (by kernel_rfl) (fun _ _ _ h => h) (Or.inl ⟨by rfl, ?_⟩) (by assumption) ?_
        rotate_left
        · intro w hSw
          try dsimp only at hSw
          try simp only [List.getElem_toArray, List.getElem_cons_succ, List.getElem_cons_zero]
          go_split_ands
          go_simp
          try with_reducible rfl
        try simp only [Act.put, List.getElem_toArray, List.getElem_cons_succ, List.getElem_cons_zero, List.setIfInBounds_toArray, List.set_cons_zero, List.set_cons_succ]
        refine wpAnyZ_last (o := _) (by kernel_rfl) rfl (fun K hK => ?_)
        simp only [List.getElem_toArray, List.getElem_cons_succ, List.getElem_cons_zero]
        go_simp
        refine hK.out _ _ ?_
        clear hK K
        try simp only [Act.put, List.getElem_toArray, List.getElem_cons_succ, List.getElem_cons_zero, List.setIfInBounds_toArray, List.set_cons_zero, List.set_cons_succ]
        refine wpAnyZ_done (by kernel_rfl) ?_ _
        have hbA : ((w9.setCell ⟨p, 8, none⟩ (.bool false)).drew.drew).heap[p]? = _ := heap_setCell_same (w := w9) (i := 8) HMID.out.b (.bool false)
        have fA : Fr [p] w9 _ := ((Fr.refl [p] w9).setCell (p := ⟨p, 8, none⟩) (.inl (by simp)) (.bool false)).drew.drew
        have HDV := Lib.hid (show false = (decide (0 < n) && decide (R ++ [loadV M (c.slot k)] = La)) by rw [decide_eq_false hpos, Bool.false_and])
        generalize (w9.setCell ⟨p, 8, none⟩ (.bool false)).drew.drew = wA at hbA fA ⊢
        simp only [List.setIfInBounds_toArray, List.set_cons_zero, List.set_cons_succ] at hbA
        have e7 : wA.cell? ⟨p, 7, none⟩ = some (.int .i64 n) := cell_of hbA rfl
        have e7f := frozen_of (i := 7) hbA
        have e7w : IntKind.i64.wrap (n + 1) = n + 1 := by rw [IntKind.wrap_i64]; omega
        have e5 : wA.cell? ⟨p, 5, none⟩ = some (.slice g7 (k + 1) c7) := cell_of hbA rfl
        clear b0 b1 b2 b3 b8 b8f
        go_wp2_with fail
        have fB : Fr [p] w9 (wA.setCell ⟨p, 7, none⟩ (.int .i64 (n + 1))) := fA.setCell (.inl (by simp)) _
        have hbB := heap_setCell_same (i := 7) hbA (.int .i64 (n + 1))
        refine (dup7 HMID.out.r hlen (by omega) HMID.out.hp fB).mono ?_
        rintro e w8 ⟨v8, rfl, hv8, hv8n, f8⟩
        obtain ⟨g8, c8, rfl⟩ := owns_slice hv8
        have hb8 := f8.at hbB (by simp)
        simp only [List.setIfInBounds_toArray, List.set_cons_zero, List.set_cons_succ] at hb8
        have h8f : Fr [p] w9 w8 := fB.trans (f8.mono (by simp))
        have hne : ∀ b, (Value.slice g8 (R ++ [loadV M (c.slot k)]).length c8).ownBlock = some b → b ∉ [p] := fun b hb => by
          have h1 := hv8n b hb; have h2 := heap_lt hbB
          simp; omega
        have hn9 : ∀ b, (Value.slice g8 (R ++ [loadV M (c.slot k)]).length c8).ownBlock = some b → w9.heap.size ≤ b := fun b hb => Nat.le_trans fB.size (hv8n b hb)
        have k8 : w8.cell? ⟨p, 8, none⟩ = some _ := cell_of hb8 rfl
        have k6 : w8.cell? ⟨p, 6, none⟩ = some _ := cell_of hb8 rfl
        have k5 : w8.cell? ⟨p, 5, none⟩ = some _ := cell_of hb8 rfl
        have k6f := frozen_of (i := 6) hb8
        have k5f := frozen_of (i := 5) hb8
        have HB8 := Lib.hid hb8; have HV8 := Lib.hid hv8; have HNE := Lib.hid hne; have HN9 := Lib.hid hn9
        clear hb8 hv8 hne hn9 hv8n hbB e7 e7f e7w e5 hbA
        go_wp2_with fail
        go_ret
        have fz : Fr [p] w8 ((w8.setCell ⟨p, 6, none⟩ (.slice g8 (R ++ [loadV M (c.slot k)]).length c8)).setCell ⟨p, 5, none⟩ (.slice none 0 0)) :=
          ((Fr.refl [p] w8).setCell (p := ⟨p, 6, none⟩) (.inl (by simp)) _).setCell (p := ⟨p, 5, none⟩) (.inl (by simp)) _
        have hbz := heap_setCell_same (i := 5) (heap_setCell_same (i := 6) HB8.out (.slice g8 (R ++ [loadV M (c.slot k)]).length c8)) (.slice none 0 0)
        simp only [List.setIfInBounds_toArray, List.set_cons_zero, List.set_cons_succ] at hbz
        have hp := post_ge HMID.out HPM.out (h8f.trans fz) HK.out (by omega) hbz (HV8.out.fr fz HNE.out) HN9.out HDV.out
        rw [show TwS.step c.sl.toNat (loadV M (c.slot (R.length : Int))) = TwS.step c.sl.toNat (loadV M (c.slot (k : Int))) by rw [HK.out]]
        rw [hlen] at hp
        exact hp

end Go.Proofs.Ytnjoefanafjniaa

/- The queue's lines: lined. -/
import Derived.Test.YtdpefnebghljoaaQuF
import Derived.Maps.AppendAt
namespace Go.Proofs.Ytdpefnebghljoaa
open Go.RowKit

theorem info_parts {P : Program} {t : TypeId} {z : Option Value} {s b : Nat} (h : (P.info? t).map (fun i => (i.zero, i.size, i.bytes)) = some (z, s, b)) : ∃ i, P.info? t = some i ∧ i.zero = z ∧ i.size = s ∧ i.bytes = b := by
  cases hi : P.info? t with
  | none => rw [hi] at h; cases h
  | some i =>
    rw [hi] at h
    simp only [Option.map_some, Option.some.injEq, Prod.mk.injEq] at h
    exact ⟨i, rfl, h.1, h.2.1, h.2.2⟩
theorem row_keep {B : Nat} {w w' : World} {e n : Nat} {v : Value} {xs : List Value} {S : List Nat} (h : w.ownsRow B e 1 v n xs) (f : Fr S w w') (hS : ∀ b, v.ownBlock = some b → b ∉ S) : w'.ownsRow B e 1 v n xs := by
  refine ⟨h.1, ?_⟩
  rcases h.2 with hn | ⟨g, cap, cur, rfl, hb, hgg, rest⟩
  · exact .inl hn
  · exact .inr ⟨g, cap, cur, rfl, hb, f.at hgg (hS g rfl), rest⟩
theorem row_ints {B : Nat} {w : World} {v : Value} {L : List Int} (h : w.ownsRow B 3 1 v L.length (L.map (Value.int .i64))) : ∃ (g : Option Addr) (c : Nat), v = .slice g L.length c ∧ IntsAt w g L := by
  rcases h.2 with ⟨rfl, hn⟩ | ⟨g, cap, cur, rfl, hb, hg, h1, h2, h3, h4⟩
  · have : L = [] := List.eq_nil_of_length_eq_zero hn
    subst this
    exact ⟨none, 0, rfl, IntsAt.empty _ _⟩
  · exact ⟨_, cap, rfl, IntsAt.of_owns h⟩
/-- Small numbers in a slice. -/
def U8At (w : World) (g : Option Addr) (L : List Int) : Prop :=
  L.length ≤ 9223372036854775807 ∧ (∀ n ∈ L, 0 ≤ n ∧ n ≤ 255) ∧ ∀ (j : Nat) (y : Int), L[j]? = some y → ∃ b o, g = some ⟨b, o, none⟩ ∧ w.cell? ⟨b, o + j, none⟩ = some (.int .u8 y)
theorem U8At.fr {w w' : World} {g : Option Addr} {L : List Int} (h : U8At w g L) (f : Fr [] w w') : U8At w' g L :=
  ⟨h.1, h.2.1, fun j y hy => let ⟨b, o, hg, hc⟩ := h.2.2 j y hy; ⟨b, o, hg, f.cell hc (by simp)⟩⟩
/-- Workers as a line, each once. -/
def linedOne (wo : Int) (out : List Int) (x : Int) : List Int := if x % wo ∈ out then out else out ++ [x % wo]
def linedL (wo : Int) (l : List Int) : List Int := l.foldl (linedOne wo) []
theorem linedL_take {wo : Int} {l : List Int} {k : Nat} {x : Int} (hx : l[k]? = some x) : linedL wo (l.take (k + 1)) = linedOne wo (linedL wo (l.take k)) x := by
  unfold linedL
  rw [List.take_add_one, hx]
  simp [List.foldl_append]
theorem linedL_len (wo : Int) (l : List Int) : (linedL wo l).length ≤ l.length := by
  unfold linedL
  suffices h : ∀ (l out : List Int), (l.foldl (linedOne wo) out).length ≤ out.length + l.length by simpa using h l []
  intro l
  induction l with
  | nil => intro out; simp
  | cons x l ih =>
    intro out
    have h1 := ih (linedOne wo out x)
    have h2 : (linedOne wo out x).length ≤ out.length + 1 := by unfold linedOne; split <;> simp
    simp only [List.foldl_cons, List.length_cons]
    omega
theorem linedL_ln {wo : Int} (h1 : 1 ≤ wo) (h2 : wo ≤ 8) (l : List Int) : Ln (linedL wo l) ∧ ∀ x ∈ linedL wo l, 0 ≤ x ∧ x < wo := by
  unfold linedL
  suffices h : ∀ (l out : List Int), (Ln out ∧ ∀ x ∈ out, 0 ≤ x ∧ x < wo) → (Ln (l.foldl (linedOne wo) out) ∧ ∀ x ∈ l.foldl (linedOne wo) out, 0 ≤ x ∧ x < wo) from h l [] ⟨⟨fun x hx => by simp at hx, List.nodup_nil⟩, fun x hx => by simp at hx⟩
  intro l
  induction l with
  | nil => intro out h; exact h
  | cons x l ih =>
    intro out h
    refine ih _ ?_
    unfold linedOne
    split
    · exact h
    · rename_i hn
      have e1 := Int.emod_nonneg x (show wo ≠ 0 by omega)
      have e2 := Int.emod_lt_of_pos x (show 0 < wo by omega)
      refine ⟨⟨fun y hy => ?_, ?_⟩, fun y hy => ?_⟩
      · rcases List.mem_append.1 hy with hy | hy
        · exact h.1.1 y hy
        · rw [List.mem_singleton.1 hy]; omega
      · rw [List.nodup_append]
        refine ⟨h.1.2, by simp, fun a ha b hb => ?_⟩
        rw [List.mem_singleton.1 hb]
        exact fun e => hn (e ▸ ha)
      · rcases List.mem_append.1 hy with hy | hy
        · exact h.2 y hy
        · rw [List.mem_singleton.1 hy]; omega

set_option maxHeartbeats 4000000 in
set_option maxRecDepth 100000 in
theorem lined_any (w : World) (c : ConfV) (g : Option Addr) (cap : Nat) (L : List Int) (hc : c.fits) (hL : U8At w g L) (hlen : L.length ≤ 100) :
    Calls Try.prog 9 #[c.val, .slice g L.length cap] w fun e w' => ∃ v, e = .returned v ∧ w'.ownsRow w.heap.size 3 1 v (linedL c.wo L).length ((linedL c.wo L).map (Value.int .i64)) ∧ Fr [] w w' := by
  obtain ⟨i0, hi, hz0, hz1, hz2⟩ := info_parts info_int
  obtain ⟨⟨h1, h2⟩, -⟩ := hc
  obtain ⟨wo, sl, st, wa, us⟩ := c
  simp only at h1 h2 ⊢
  unfold ConfV.val
  obtain ⟨len, hln⟩ : ∃ len, len = L.length := ⟨_, rfl⟩
  rw [← hln] at hlen ⊢
  have HLN := Lib.hid hln; have HL := Lib.hid hL
  have hb := heap_alloc_new w (.cells #[.int .i64 wo, .int .i64 sl, .int .i64 st, .int .i64 wa, .int .i64 us] 25)
  have HB := Lib.hid hb
  have HF := Lib.hid ((Fr.refl [] w).alloc (.cells #[.int .i64 wo, .int .i64 sl, .int .i64 st, .int .i64 wa, .int .i64 us] 25))
  clear hln hL hb
  go_enter Try.func9, Try.ntmps9
  go_wp2_with fail
  go_loopw [6, 5] (fun i v wr => ∃ k : Nat, ∃ T : List Int, k ≤ len ∧ i = .int .i64 (k : Int) ∧ T = linedL wo (L.take k) ∧ T.length ≤ k ∧ wr.ownsRow w.heap.size 3 1 v T.length (T.map (Value.int .i64)) ∧ wr.heap[w.heap.size]? = some (.cells #[.int .i64 wo, .int .i64 sl, .int .i64 st, .int .i64 wa, .int .i64 us] 25 (0, 0)) ∧ v.ownBlock ≠ some w.heap.size ∧ Fr [] w wr) (fun i _ _ => len - (intOf i).toNat)
  case atStart => exact ⟨0, [], Nat.zero_le _, rfl, rfl, Nat.le_refl _, World.ownsRow_nil _ _ _ _, HB.out, by simp [Value.ownBlock], HF.out⟩
  case round =>
    obtain ⟨k, T, hk, rfl, hT, hTl, hown, hbx, hvb, hf⟩ := hrel
    have HT := Lib.hid hT; have HO := Lib.hid hown; have HBX := Lib.hid hbx; have HVB := Lib.hid hvb; have HFR := Lib.hid hf
    have x0 := cell_of (i := 0) hbx rfl
    clear hT hown hbx hvb hf
    by_cases hlt : k < len
    · obtain ⟨x, hx⟩ : ∃ x, L[k]? = some x := ⟨_, List.getElem?_eq_getElem (by rw [← HLN.out]; exact hlt)⟩
      have hxb := HL.out.2.1 x (List.mem_of_getElem? hx)
      obtain ⟨b, o, rfl, hcx⟩ := HL.out.2.2 k x hx
      have c1 := HFR.out.cell hcx (by simp)
      have HTK := Lib.hid (linedL_take (wo := wo) hx)
      rw [← HT.out] at HTK
      obtain ⟨z, hz⟩ : ∃ z, z = x % wo := ⟨_, rfl⟩
      have HZ := Lib.hid hz
      have hzz : x.tmod wo = z := by
        obtain ⟨xn, rfl⟩ : ∃ xn : Nat, x = (xn : Int) := ⟨x.toNat, by omega⟩
        obtain ⟨wn, rfl⟩ : ∃ wn : Nat, wo = (wn : Int) := ⟨wo.toNat, by omega⟩
        rw [hz]; rfl
      have HTM2 := Lib.hid hzz
      have HTM := Lib.hid (show (IntKind.i64.wrap x).tmod wo = z by rw [show IntKind.i64.wrap x = x by rw [IntKind.wrap_i64]; omega]; exact hzz)
      have HTM3 := Lib.hid hz.symm
      have hwo0 : ¬ wo = 0 := by omega
      clear hx hcx hz hzz
      go_wp2_with fail
      refine wp_region_held_drew (S := fun w' => w'.cell? ⟨b, o + k, none⟩ = some (.int .u8 x) ∧ w'.cell? ⟨w.heap.size, 0, none⟩ = some (.int .i64 wo)) (by kernel_rfl) ⟨c1, x0⟩ (fun hHeld => ?_)
      refine wpAnyH_take (i := 0) (oi := _) (v := ?_) rfl (by kernel_rfl) (by kernel_rfl) (by kernel_rfl) (fun _ _ _ h => h) (Or.inl ⟨by rfl, ?_⟩) (by assumption) ?_
      rotate_left
      · intro w hSw
        try dsimp only at hSw
        try simp only [List.getElem_toArray, List.getElem_cons_zero]
        go_split_ands
        go_simp
        try with_reducible rfl
      try simp only [Act.put, List.getElem_toArray, List.getElem_cons_zero, List.setIfInBounds_toArray, List.set_cons_zero, List.set_cons_succ]
      refine wpAnyH_take (i := 1) (oi := _) (v := ?_) rfl (by kernel_rfl) (by kernel_rfl) (by kernel_rfl) (fun _ _ _ h => h) (Or.inl ⟨by rfl, ?_⟩) (by assumption) ?_
      rotate_left
      · intro w hSw
        try dsimp only at hSw
        try simp only [List.getElem_toArray, List.getElem_cons_succ, List.getElem_cons_zero]
        go_split_ands
        go_simp
        try with_reducible rfl
      try simp only [Act.put, List.getElem_toArray, List.getElem_cons_succ, List.getElem_cons_zero, List.setIfInBounds_toArray, List.set_cons_zero, List.set_cons_succ]
      refine wpAnyH_take (i := 2) (oi := _) (v := ?_) rfl (by kernel_rfl) (by kernel_rfl) (by kernel_rfl) (fun _ _ _ h => h) (Or.inl ⟨by rfl, ?_⟩) (by assumption) ?_
      rotate_left
      · intro w hSw
        try dsimp only at hSw
        try simp only [List.getElem_toArray, List.getElem_cons_succ, List.getElem_cons_zero]
        go_split_ands
        go_simp
        try with_reducible rfl
      try simp only [Act.put, List.getElem_toArray, List.getElem_cons_succ, List.getElem_cons_zero, List.setIfInBounds_toArray, List.set_cons_zero, List.set_cons_succ]
      refine wpAnyH_take (i := 3) (oi := _) (v := ?_) rfl (by kernel_rfl) (by kernel_rfl) (by kernel_rfl) (fun _ _ _ h => h) (Or.inl ⟨by rfl, ?_⟩) (by assumption) ?_
      rotate_left
      · intro w hSw
        try dsimp only at hSw
        try simp only [List.getElem_toArray, List.getElem_cons_succ, List.getElem_cons_zero]
        go_split_ands
        go_simp
        try with_reducible rfl
      try simp only [Act.put, List.getElem_toArray, List.getElem_cons_succ, List.getElem_cons_zero, List.setIfInBounds_toArray, List.set_cons_zero, List.set_cons_succ]
      refine wpAnyH_take (i := 4) (oi := _) (v := ?_) rfl (by kernel_rfl) (by kernel_rfl) (by kernel_rfl) (fun _ _ _ h => h) (Or.inl ⟨by rfl, ?_⟩) (by assumption) ?_
      rotate_left
      · intro w hSw
        try dsimp only at hSw
        try simp only [List.getElem_toArray, List.getElem_cons_succ, List.getElem_cons_zero]
        go_split_ands
        go_simp
        try with_reducible rfl
      try simp only [Act.put, List.getElem_toArray, List.getElem_cons_succ, List.getElem_cons_zero, List.setIfInBounds_toArray, List.set_cons_zero, List.set_cons_succ]
      refine wpAnyH_take (i := 5) (oi := _) (v := ?_) rfl (by kernel_rfl) (by kernel_rfl) (by kernel_rfl) (fun _ _ _ h => h) (Or.inl ⟨by rfl, ?_⟩) (by assumption) ?_
      rotate_left
      · intro w hSw
        try dsimp only at hSw
        try simp only [List.getElem_toArray, List.getElem_cons_succ, List.getElem_cons_zero]
        go_split_ands
        go_simp
        try with_reducible rfl
      try simp only [Act.put, List.getElem_toArray, List.getElem_cons_succ, List.getElem_cons_zero, List.setIfInBounds_toArray, List.set_cons_zero, List.set_cons_succ]
      refine wpAnyH_take (i := 6) (oi := _) (v := ?_) rfl (by kernel_rfl) (by kernel_rfl) (by kernel_rfl) (fun _ _ _ h => h) (Or.inl ⟨by rfl, ?_⟩) (by assumption) ?_
      rotate_left
      · intro w hSw
        try dsimp only at hSw
        try simp only [List.getElem_toArray, List.getElem_cons_succ, List.getElem_cons_zero]
        go_split_ands
        go_simp
        try with_reducible rfl
      try simp only [Act.put, List.getElem_toArray, List.getElem_cons_succ, List.getElem_cons_zero, List.setIfInBounds_toArray, List.set_cons_zero, List.set_cons_succ]
      refine wpAnyH_take (i := 7) (oi := _) (v := ?_) rfl (by kernel_rfl) (by kernel_rfl) (by kernel_rfl) (fun _ _ _ h => h) (Or.inl ⟨by rfl, ?_⟩) (by assumption) ?_
      rotate_left
      · intro w hSw
        try dsimp only at hSw
        try simp only [List.getElem_toArray, List.getElem_cons_succ, List.getElem_cons_zero]
        go_split_ands
        go_simp
        try with_reducible rfl
      try simp only [Act.put, List.getElem_toArray, List.getElem_cons_succ, List.getElem_cons_zero, List.setIfInBounds_toArray, List.set_cons_zero, List.set_cons_succ]
      first | rw [HTM.out] | rw [HTM2.out] | rw [HTM3.out]
      refine wpAnyH_take (i := 8) (oi := _) (v := ?_) rfl (by kernel_rfl) (by kernel_rfl) (by kernel_rfl) (fun _ _ _ h => h) (Or.inl ⟨by rfl, ?_⟩) (by assumption) ?_
      rotate_left
      · intro w hSw
        try dsimp only at hSw
        try simp only [List.getElem_toArray, List.getElem_cons_succ, List.getElem_cons_zero]
        go_split_ands
        go_simp
        try with_reducible rfl
      try simp only [Act.put, List.getElem_toArray, List.getElem_cons_succ, List.getElem_cons_zero, List.setIfInBounds_toArray, List.set_cons_zero, List.set_cons_succ]
      refine wpAnyH_done (by kernel_rfl) ?_ _
      obtain ⟨g5, c5, rfl, hI5⟩ := row_ints HO.out
      have HHAS := Lib.hid (ref_has_any wr.drew g5 c5 T z (hI5.fr (Fr.refl [] wr).drew (by simp)))
      have HI5 := Lib.hid hI5
      clear hI5
      go_wp2_with fail
      refine HHAS.out.mono ?_
      rintro en w3 ⟨rfl, f3⟩
      have F3 := Lib.hid ((Fr.refl [] wr).drew.trans f3)
      clear f3
      by_cases hin : z ∈ T
      · rw [decide_eq_true hin]
        have HTN := Lib.hid (show T = linedL wo (L.take (k + 1)) by rw [HTK.out]; unfold linedOne; rw [← HZ.out, if_pos hin])
        have HO3 := Lib.hid (row_keep HO.out F3.out (by simp)); have HB3 := Lib.hid (F3.out.at HBX.out (by simp)); have HF3 := Lib.hid (HFR.out.trans F3.out)
        clear hin x0 c1
        go_wp2
        go_roundw
        case rel => exact ⟨k + 1, T, by omega, by go_num, HTN.out, by omega, HO3.out, HB3.out, HVB.out, HF3.out⟩
        case measure => simp [intOf]; omega
      · rw [decide_eq_false hin]
        have HTN := Lib.hid (show T ++ [z] = linedL wo (L.take (k + 1)) by rw [HTK.out]; unfold linedOne; rw [← HZ.out, if_neg hin])
        have f3a : Fr [] wr (w3.alloc (.cells #[.int .i64 z] 3)) := F3.out.alloc _
        have HO3 := Lib.hid (row_keep HO.out f3a (by simp)); have HB3 := Lib.hid (f3a.at HBX.out (by simp)); have HF3 := Lib.hid (HFR.out.trans f3a)
        have hsz : w.heap.size < wr.heap.size := heap_lt HBX.out
        have hsz3 := f3a.size
        have hbs : w.heap.size ≤ (w3.alloc (.cells #[.int .i64 z] 3)).heap.size := by omega
        clear hin x0 c1 f3a
        go_wp2_with (first | (at_builtin; refine wpList_append_own_at _ rfl _ _ 26 rfl w.heap.size 3 i0 (.int .i64 0) 1 8 Try.underlying26 hi hz0 hz1 hz2 rfl (by decide) (.slice g5 T.length c5) T.length (T.map (Value.int .i64)) rfl HO3.out ⟨w3.heap.size, 0, none⟩ 1 1 [.int .i64 z] rfl rfl (cell_one_new w3 _ _) (fun u hu => by obtain rfl := List.mem_singleton.1 hu; rfl) (by unfold maxLen; omega) (by omega) hbs ?_) | fail)
        intro v' w' hown' hgrow' hnil' hat'
        have HBB := Lib.hid (show w'.heap[w.heap.size]? = some (.cells #[.int .i64 wo, .int .i64 sl, .int .i64 st, .int .i64 wa, .int .i64 us] 25 (0, 0)) from ((Fr.refl (Value.slice g5 T.length c5).ownBlock.toList _).grown hgrow' (fun k hk => .inl (by simp [hk]))).at HB3.out (by rw [Option.mem_toList]; exact HVB.out))
        have HVV := Lib.hid (show v'.ownBlock ≠ some w.heap.size from fun e => by
          rcases hat' with h9 | h9
          · exact HVB.out (h9 ▸ e)
          · rw [h9] at e
            injection e with e
            have := World.size_alloc w3 (.cells #[.int .i64 z] 3)
            omega)
        have HFF := Lib.hid (HF3.out.grown hgrow' (fun b hb => .inr ((HO.out.lt b hb).1)))
        have HOO := Lib.hid (show w'.ownsRow w.heap.size 3 1 v' (T ++ [z]).length ((T ++ [z]).map (Value.int .i64)) by simpa using hown')
        clear hown' hgrow' hnil' hat'
        go_wp2
        go_roundw
        case rel => exact ⟨k + 1, T ++ [z], by omega, by go_num, HTN.out, by simp; omega, HOO.out, HBB.out, HVV.out, HFF.out⟩
        case measure => simp [intOf]; omega
    · have hkl : k = L.length := by have := HLN.out; omega
      have hP := HO.out
      have hTe := HT.out
      rw [hkl, List.take_length] at hTe
      rw [hTe] at hP
      have HP := Lib.hid hP
      clear hkl hP hTe
      go_wp2
      go_ret
      exact ⟨_, rfl, HP.out, HFR.out⟩

end Go.Proofs.Ytdpefnebghljoaa

/- Looking twice (twice.Twice): what it holds; New, Rounds, Words; copies; lists that are equal. -/
import Derived.Test.YtnjoefanafjniaaTwL
import Derived.Laws.CopyOwn
namespace Go.Proofs.Ytnjoefanafjniaa
open Go.RowKit

/-- A list of numbers of the call's own. -/
def OwnI (w : World) (v : Value) (L : List Int) : Prop := w.ownsRow 0 3 1 v L.length (L.map (Value.int .i64))
theorem OwnI.ints {w : World} {v : Value} {L : List Int} (h : OwnI w v L) : ∃ (g : Option Addr) (c : Nat), v = .slice g L.length c ∧ IntsAt w g L ∧ L.length ≤ c := by
  rcases h.2 with ⟨rfl, hn⟩ | ⟨g, cap, cur, rfl, hb, hg, h1, h2, h3, h4⟩
  · have : L = [] := List.eq_nil_of_length_eq_zero hn
    subst this
    exact ⟨none, 0, rfl, IntsAt.empty _ _, Nat.le_refl _⟩
  · exact ⟨_, cap, rfl, IntsAt.of_owns h, h1⟩
theorem OwnI.keep {w w' : World} {v : Value} {L : List Int} (h : OwnI w v L) (hs : ∀ b, v.ownBlock = some b → w'.heap[b]? = w.heap[b]?) : OwnI w' v L := by
  refine ⟨h.1, ?_⟩
  rcases h.2 with hn | ⟨g, cap, cur, rfl, hb, hgg, rest⟩
  · exact .inl hn
  · exact .inr ⟨g, cap, cur, rfl, hb, by rw [hs g rfl]; exact hgg, rest⟩
theorem OwnI.fr {w w' : World} {v : Value} {L : List Int} {S : List Nat} (h : OwnI w v L) (f : Fr S w w') (hs : ∀ b, v.ownBlock = some b → b ∉ S) : OwnI w' v L :=
  h.keep fun b hb => f.block b (h.lt b hb).2 (hs b hb)

/-- What a Twice holds: block p; the round that is at work; the last one; how many are done; whether it is done. -/
structure TwAt (w : World) (p : Nat) (c : ConfV) (vR vL : Value) (R La : List Int) (n : Int) (d : Bool) : Prop where
  b : w.heap[p]? = some (.cells #[.int .i64 c.wo, .int .i64 c.sl, .int .i64 c.st, .int .i64 c.wa, .int .i64 c.us, vR, vL, .int .i64 n, .bool d] 71)
  r : OwnI w vR R
  l : OwnI w vL La
  hr : vR.ownBlock ≠ some p
  hl : vL.ownBlock ≠ some p
  hrl : ∀ b, vR.ownBlock = some b → vL.ownBlock ≠ some b
theorem TwAt.fr {w w' : World} {p : Nat} {c : ConfV} {vR vL : Value} {R La : List Int} {n : Int} {d : Bool} {S : List Nat} (h : TwAt w p c vR vL R La n d) (f : Fr S w w') (hp : p ∉ S) (h1 : ∀ b, vR.ownBlock = some b → b ∉ S) (h2 : ∀ b, vL.ownBlock = some b → b ∉ S) : TwAt w' p c vR vL R La n d :=
  ⟨f.at h.b hp, h.r.fr f h1, h.l.fr f h2, h.hr, h.hl, h.hrl⟩

theorem heap_new_at' {w : World} {o : Obj} {b : Nat} (h : b = w.heap.size) : (w.alloc o).heap[b]? = some o := by subst h; exact heap_alloc_new w o
/-- A call that tells a list of its own. -/
def NewInts (w : World) (L : List Int) (e : Ending) (w' : World) : Prop := ∃ v, e = .returned v ∧ OwnI w' v L ∧ (∀ b, v.ownBlock = some b → w.heap.size ≤ b) ∧ Fr [] w w'

set_option maxHeartbeats 1000000 in
theorem dup_any (w : World) (g : Option Addr) (c : Nat) (L : List Int) (hL : L.length ≤ 10000) (h0 : L ≠ []) (hI : IntsAt w g L) : Calls Try.prog 34 #[.slice g L.length c] w (NewInts w L) := by
  obtain ⟨b, o, rfl, hc⟩ := hI.base h0
  obtain ⟨n, hn⟩ : ∃ n, n = L.length := ⟨_, rfl⟩
  rw [← hn] at hL ⊢
  have HN := Lib.hid hn
  have hmk : ∀ W : World, (Instr.makeSlice 32 (.int .i64 (n : Int)) (.int .i64 (n : Int))).run Try.prog W = .ok (.slice (some ⟨W.heap.size, 0, none⟩) n n) (mkW W n) := run_make_row' (P := Try.prog) 32 3 (.int .i64 0) 8 Try.underlying32 info_int rfl .i64 .i64 n (by omega) (by omega)
  have hfr : Fr [] w (mkW w n) := (Fr.refl [] w).alloc _
  have hbk : (mkW w n).heap[w.heap.size]? = some (.cells (madeCells #[Value.int .i64 0] n) 3) := heap_alloc_new w _
  have hsrc : ∀ j v, (L.map (Value.int .i64))[j]? = some v → (mkW w n).cell? ((⟨b, o, none⟩ : Addr).add j) = some v := fun j v hv => by
    rw [List.getElem?_map] at hv
    cases hj : L[j]? with
    | none => rw [hj] at hv; cases hv
    | some z =>
      rw [hj] at hv
      simp only [Option.map_some, Option.some.injEq] at hv
      subst hv
      rw [Addr.add_lit]
      exact hfr.cell (hc j z hj) (by simp)
  have HFR := Lib.hid hfr; have HBK := Lib.hid hbk; have HSRC := Lib.hid hsrc
  clear hfr hbk hsrc hc hI h0 hn
  have hcp := run_copy_row (P := Try.prog) (mkW w n) 32 32 3 3 w.heap.size 0 n n ⟨b, o, none⟩ n c _ _ (L.map (Value.int .i64)) Try.underlying32 (by kernel_rfl) HBK.out (by rw [List.length_map]; have := HN.out; show L.length = min n n; omega) HSRC.out (by rw [List.length_map, size_madeCells]; have := HN.out; omega) (fun v hv => by obtain ⟨z, _, rfl⟩ := List.mem_map.1 hv; rfl)
  have hlen : (L.map (Value.int .i64)).length = n := by rw [List.length_map, HN.out]
  have hrow := setRow_heap (mkW w n) w.heap.size _ ((madeCells #[Value.int .i64 0] n).toList.take 0 ++ L.map (Value.int .i64) ++ (madeCells #[Value.int .i64 0] n).toList.drop (0 + (L.map (Value.int .i64)).length)).toArray 3 _ HBK.out
  have hfin : Fr [] w ((mkW w n).setRow w.heap.size ((madeCells #[Value.int .i64 0] n).toList.take 0 ++ L.map (Value.int .i64) ++ (madeCells #[Value.int .i64 0] n).toList.drop (0 + (L.map (Value.int .i64)).length)).toArray) :=
    ⟨HFR.out.os, HFR.out.tape, HFR.out.output, by simpa [World.setRow] using HFR.out.size, fun k hk hn => by rw [setRow_other _ _ _ _ (by omega)]; exact HFR.out.block k hk hn⟩
  generalize (mkW w n).setRow w.heap.size ((madeCells #[Value.int .i64 0] n).toList.take 0 ++ L.map (Value.int .i64) ++ (madeCells #[Value.int .i64 0] n).toList.drop (0 + (L.map (Value.int .i64)).length)).toArray = w5 at hrow hfin hcp
  have hown : OwnI w5 (.slice (some ⟨w.heap.size, 0, none⟩) n n) L := by
    unfold OwnI
    rw [← HN.out]
    refine ⟨by simpa using hlen, .inr ⟨w.heap.size, n, _, rfl, Nat.zero_le _, hrow, Nat.le_refl _, by unfold maxLen; omega, ?_, ?_⟩⟩
    · simp [size_madeCells, ← HN.out]
    · simp only [List.take_zero, List.nil_append, Nat.mul_one]
      rw [List.take_append_of_le_length (by omega), List.take_of_length_le (by omega)]
  have HO := Lib.hid hown; have HF := Lib.hid hfin
  clear hrow hfin hown hlen
  go_enter Try.func34, Try.ntmps34
  go_wp2
  go_ret
  exact ⟨_, rfl, HO.out, fun b hb => by simp [Value.ownBlock] at hb; omega, HF.out⟩

set_option maxHeartbeats 1000000 in
theorem tnew_any (w : World) (c : ConfV) : Calls Try.prog 11 #[c.val] w fun e w' => ∃ p, e = .returned (.pointer (some ⟨p, 0, none⟩)) ∧ w.heap.size ≤ p ∧ TwAt w' p c (.slice none 0 0) (.slice none 0 0) [] [] 0 false ∧ Fr [] w w' := by
  obtain ⟨wo, sl, st, wa, us⟩ := c
  unfold ConfV.val
  go_enter Try.func11, Try.ntmps11
  go_wp2
  go_ret
  exact ⟨_, rfl, by omega, ⟨heap_new_at' (by simp), World.ownsRow_nil _ _ _ _, World.ownsRow_nil _ _ _ _, by simp [Value.ownBlock], by simp [Value.ownBlock], by simp [Value.ownBlock]⟩, ((Fr.refl [] w).alloc _).alloc _⟩

set_option maxHeartbeats 400000 in
theorem trounds_any (w : World) (p : Nat) (c : ConfV) (vR vL : Value) (R La : List Int) (n : Int) (d : Bool) (h : TwAt w p c vR vL R La n d) :
    Calls Try.prog 14 #[.pointer (some ⟨p, 0, none⟩)] w fun e w' => e = .returned (.int .i64 n) ∧ w' = w := by
  have q7 : w.cell? ⟨p, 7, none⟩ = some (.int .i64 n) := cell_of h.b rfl
  clear h
  go_enter Try.func14, Try.ntmps14
  go_wp2
  go_ret
  exact ⟨rfl, rfl⟩

set_option maxHeartbeats 400000 in
theorem twords_any (w : World) (p : Nat) (c : ConfV) (vR vL : Value) (R La : List Int) (n : Int) (d : Bool) (h : TwAt w p c vR vL R La n d) (hd : d = true → La ≠ []) (hl : La.length ≤ 10000) :
    Calls Try.prog 17 #[.pointer (some ⟨p, 0, none⟩)] w (NewInts w (if d then La else [])) := by
  have q8 : w.cell? ⟨p, 8, none⟩ = some (.bool d) := cell_of h.b rfl
  have q6 : w.cell? ⟨p, 6, none⟩ = some vL := cell_of h.b rfl
  cases d
  · clear h hd
    have HP := Lib.hid (show NewInts w [] (.returned (.slice none 0 0)) w from ⟨_, rfl, World.ownsRow_nil _ _ _ _, by simp [Value.ownBlock], Fr.refl _ _⟩)
    rw [if_neg (by simp)]
    go_enter Try.func17, Try.ntmps17
    go_wp2
    go_ret
    exact HP.out
  · rw [if_pos rfl]
    obtain ⟨g, cap, rfl, hI, -⟩ := h.l.ints
    have HI := Lib.hid hI; have HD := Lib.hid (hd rfl)
    clear h hd hI
    go_enter Try.func17, Try.ntmps17
    go_wp2_with fail
    refine (dup_any w g cap La hl HD.out HI.out).mono ?_
    rintro e w2 ⟨v, rfl, h1, h2, h3⟩
    have HP := Lib.hid (show NewInts w La (.returned v) w2 from ⟨v, rfl, h1, h2, h3⟩)
    clear h1 h2 h3
    go_wp2
    go_ret
    exact HP.out

end Go.Proofs.Ytnjoefanafjniaa

/- Whatever lines others store in between: what came in, and what is known of both Queues. -/
import Derived.Test.YtdpefnebghljoaaQuX
namespace Go.Proofs.Ytdpefnebghljoaa
open Go.RowKit

/-- What another one does ahead of a step. -/
structure TurnV where
  wh : Int
  g : Option Addr
  l : List Int
  c : Nat
  cl : Int
def TurnsAt (w : World) (g : Option Addr) (L : List TurnV) : Prop :=
  L.length ≤ 9223372036854775807 ∧ ∀ (j : Nat) (y : TurnV), L[j]? = some y → (0 ≤ y.wh ∧ y.wh ≤ 255) ∧ (0 ≤ y.cl ∧ y.cl ≤ 255) ∧ U8At w y.g y.l ∧
    ∃ b o, g = some ⟨b, o, none⟩ ∧ w.cell? ⟨b, o + j * 3, none⟩ = some (.int .u8 y.wh) ∧ w.cell? ⟨b, o + j * 3 + 1, none⟩ = some (.slice y.g y.l.length y.c) ∧ w.cell? ⟨b, o + j * 3 + 2, none⟩ = some (.int .u8 y.cl)
theorem TurnsAt.empty (w : World) (g : Option Addr) : TurnsAt w g [] := ⟨by simp, fun j y h => by simp at h⟩
/-- What is below B is as it was. -/
def Low (B : Nat) (w w' : World) : Prop := ∃ S : List Nat, Fr S w w' ∧ ∀ b ∈ S, B ≤ b
theorem Low.cell {B : Nat} {w w' : World} (h : Low B w w') {a : Addr} {v : Value} (hc : w.cell? a = some v) (ha : a.block < B) : w'.cell? a = some v := by
  obtain ⟨S, f, hS⟩ := h
  exact f.cell hc (fun hm => by have := hS _ hm; omega)
theorem Low.fr {B : Nat} {w w' : World} (f : Fr [] w w') : Low B w w' := ⟨[], f, by simp⟩
theorem Low.then {B : Nat} {w w' w'' : World} (h : Low B w w') {S : List Nat} (f : Fr S w' w'') (hS : ∀ b ∈ S, B ≤ b) : Low B w w'' := by
  obtain ⟨S', f', h'⟩ := h
  exact ⟨S' ++ S, (f'.mono (by simp +contextual)).trans (f.mono (by simp +contextual)), fun b hb => (List.mem_append.1 hb).elim (h' b) (hS b)⟩
theorem U8At.low {B : Nat} {w w' : World} {g : Option Addr} {L : List Int} (h : U8At w g L) (hw : w.heap.size ≤ B) (f : Low B w w') : U8At w' g L :=
  ⟨h.1, h.2.1, fun j y hy => let ⟨b, o, hg, hc⟩ := h.2.2 j y hy; ⟨b, o, hg, f.cell hc (by have := World.block_lt_of_cell? w _ hc; simp only at this ⊢; omega)⟩⟩
theorem TurnsAt.low {B : Nat} {w w' : World} {g : Option Addr} {L : List TurnV} (h : TurnsAt w g L) (hw : w.heap.size ≤ B) (f : Low B w w') : TurnsAt w' g L := by
  refine ⟨h.1, fun j y hy => ?_⟩
  obtain ⟨h1, h2, h3, b, o, hg, c0, c1, c2⟩ := h.2 j y hy
  have hb := World.block_lt_of_cell? w _ c0
  simp only at hb
  exact ⟨h1, h2, h3.low hw f, b, o, hg, f.cell c0 (by simp only; omega), f.cell c1 (by simp only; omega), f.cell c2 (by simp only; omega)⟩
theorem MemAt.put {T : Nat} {w : World} {p q : Nat} {L : List Int} {t : Int} (h : MemAt T w p q L t) (i : Nat) (u : Int) : MemAt T (w.setCell ⟨q, i, none⟩ (.int .i64 u)) p q (L.set i u) t := by
  obtain ⟨cap, cur, h⟩ := h
  exact ⟨cap, _, h.put i u⟩

theorem ints_len (w : World) (g h : Option Addr) (c d : Nat) (a b : Nat) (L M : List Int) (hL : a = L.length) (hM : b = M.length) (ha : IntsAt w g L) (hb : IntsAt w h M) :
    Calls Try.prog 18 #[.slice g a c, .slice h b d] w fun e w' => e = .returned (.bool (decide (L = M))) ∧ Fr [] w w' := by
  subst hL hM
  exact ints_any w g h c d L M ha hb
/-- Where all lie: apart. -/
structure Six (B pm qm pr qr px py : Nat) : Prop where
  b : B ≤ pm ∧ B ≤ qm ∧ B ≤ pr ∧ B ≤ qr ∧ B ≤ px ∧ B ≤ py
  m : pm ≠ qm ∧ pm ≠ pr ∧ pm ≠ qr ∧ pm ≠ px ∧ pm ≠ py
  n : qm ≠ pr ∧ qm ≠ qr ∧ qm ≠ px ∧ qm ≠ py
  r : pr ≠ qr ∧ pr ≠ px ∧ pr ≠ py
  q : qr ≠ px ∧ qr ≠ py
  x : px ≠ py
/-- Both memories. -/
def PlM (wo : Int) (N pm qm pr qr : Nat) (M : List Int) (t tr : Int) (w : World) : Prop :=
  MemAt 83 w pm qm M t ∧ MemAt 60 w pr qr M tr ∧ MOk M ∧ (∀ x ∈ mQ M, x < wo) ∧ M.length = N
theorem PlM.fr {wo : Int} {N pm qm pr qr : Nat} {M : List Int} {t tr : Int} {w w' : World} (h : PlM wo N pm qm pr qr M t tr w) (f : Fr [] w w') : PlM wo N pm qm pr qr M t tr w' :=
  ⟨h.1.fr f (by simp) (by simp), h.2.1.fr f (by simp) (by simp), h.2.2⟩
/-- What another one leaves. -/
def turned (M : List Int) (cl : Int) (L : List Int) : List Int := (storeL (storeL M 0 cl) 1 (wd L : Int))
theorem turned_set {M : List Int} {cl : Int} {L : List Int} (hm : 2 ≤ M.length) : turned M cl L = (M.set 0 cl).set 1 (wd L : Int) := by
  have e0 : storeL M 0 cl = M.set 0 cl := by unfold storeL; rw [if_pos (isIn_yes (by omega) (by omega))]; rfl
  unfold turned
  rw [e0]
  unfold storeL
  rw [if_pos (isIn_yes (by omega) (by rw [List.length_set]; omega))]
  rfl
theorem turned_ok {M : List Int} {cl wo : Int} {L : List Int} (hm : 2 ≤ M.length) (hL : Ln L) (hw : ∀ x ∈ L, x < wo) : MOk (turned M cl L) ∧ (∀ x ∈ mQ (turned M cl L), x < wo) ∧ (turned M cl L).length = M.length := by
  rw [turned_set hm]
  obtain ⟨g1, g2⟩ := MOk.set (M := M.set 0 cl) (by rw [List.length_set]; exact hm) hL
  exact ⟨g1, by rw [g2]; exact hw, by simp⟩
theorem isDone_eq (n : QSt) : n.isDone = n.fn.isNone := by cases n <;> rfl

theorem MemAt.slot {T : Nat} {w : World} {p q : Nat} {M : List Int} {t : Int} (h : MemAt T w p q M t) {N : Nat} (hN : M.length = N) :
    ∃ cap, N ≤ cap ∧ w.cell? ⟨p, 0, none⟩ = some (.slice (some ⟨q, 0, none⟩) N cap) ∧ w.cell? ⟨p, 1, none⟩ = some (.int .i64 t) ∧ ∀ i, i < N → w.cell? ⟨q, i, none⟩ = some (.int .i64 (M.getD i 0)) ∧ w.frozen? ⟨q, i, none⟩ = false := by
  obtain ⟨cap, cur, h⟩ := h
  subst hN
  exact ⟨cap, h.hl, h.c0, h.c1, fun i hi => ⟨h.cq (getElem?_nat hi), h.fq i⟩⟩
theorem laid_set {c : ConfV} {N : Nat} (hN : (N : Int) = c.cells) (h2 : 2 ≤ N) (Q : List Int) : laidM c 0 Q = (List.replicate N (0 : Int)).set 1 (wd Q : Int) := by
  have e : c.cells.toNat = N := by omega
  unfold laidM
  rw [e]
  have e0 : storeL (List.replicate N (0 : Int)) 0 0 = List.replicate N 0 := by
    unfold storeL
    split
    · exact List.ext_getElem? fun i => by
        by_cases hi : i = 0
        · subst hi
          show ((List.replicate N (0 : Int)).set 0 0)[0]? = _
          rw [List.getElem?_set_self (by rw [List.length_replicate]; omega), List.getElem?_replicate, if_pos (by omega)]
        · show ((List.replicate N (0 : Int)).set 0 0)[i]? = _
          rw [List.getElem?_set_ne (by omega)]
    · rfl
  rw [e0]
  unfold storeL
  rw [if_pos (isIn_yes (by omega) (by rw [List.length_replicate]; omega))]
  rfl

end Go.Proofs.Ytdpefnebghljoaa

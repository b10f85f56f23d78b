/- Looking twice: what it and the memory hold, together; a step; the chapter's example. -/
import Derived.Test.YtnjoefanafjniaaTwP
namespace Go.Proofs.Ytnjoefanafjniaa
open Go.RowKit

/-- What is below B is as it was. -/
def FB (B : Nat) (w w' : World) : Prop := ∃ S : List Nat, (∀ b ∈ S, B ≤ b) ∧ Fr S w w'
theorem FB.refl (B : Nat) (w : World) : FB B w w := ⟨[], by simp, Fr.refl _ _⟩
theorem FB.of {B : Nat} {w w' : World} (f : Fr [] w w') : FB B w w' := ⟨[], by simp, f⟩
theorem FB.trans {B : Nat} {a b c : World} (h : FB B a b) (k : FB B b c) : FB B a c := by
  obtain ⟨S, hS, f⟩ := h
  obtain ⟨S', hS', f'⟩ := k
  exact ⟨S ++ S', fun b hb => (List.mem_append.1 hb).elim (hS b) (hS' b), (f.mono (by simp +contextual)).trans (f'.mono (by simp +contextual))⟩
theorem FB.at {B : Nat} {w w' : World} (h : FB B w w') {k : Nat} {o : Obj} (hk : w.heap[k]? = some o) (hb : k < B) : w'.heap[k]? = some o := by
  obtain ⟨S, hS, f⟩ := h
  exact f.at hk (fun hm => by have := hS k hm; omega)
theorem FB.cell {B : Nat} {w w' : World} (h : FB B w w') {p : Addr} {v : Value} (hc : w.cell? p = some v) (hb : p.block < B) : w'.cell? p = some v := by
  obtain ⟨S, hS, f⟩ := h
  exact f.cell hc (fun hm => by have := hS _ hm; omega)
theorem FB.size {B : Nat} {w w' : World} (h : FB B w w') : w.heap.size ≤ w'.heap.size := by obtain ⟨_, _, f⟩ := h; exact f.size
theorem FB.base {B : Nat} {w0 w w' : World} (f0 : Fr [] w0 w) (h : FB B w w') (hB : w0.heap.size ≤ B) : Fr [] w0 w' := by
  obtain ⟨S, hS, f⟩ := h
  exact f0.then f (fun x hx => .inr (Nat.le_trans hB (hS x hx)))
theorem FB.ints {B : Nat} {w w' : World} (h : FB B w w') {g : Option Addr} {L : List Int} (hI : IntsAt w g L) (hg : ∀ a, g = some a → a.block < B) : IntsAt w' g L := by
  obtain ⟨S, hS, f⟩ := h
  exact hI.fr f (fun a ha hm => by have := hS _ hm; have := hg a ha; omega)

/-- The blocks of a Twice, and of the memory. -/
def Foot (p pm qm : Nat) (vR vL : Value) (b : Nat) : Prop := b = p ∨ b = pm ∨ b = qm ∨ vR.ownBlock = some b ∨ vL.ownBlock = some b
/-- A Twice, and the memory, all of blocks from B on. -/
structure TwIn (B : Nat) (w : World) (p pm qm : Nat) (c : ConfV) (s : TwS) (M : List Int) (t : Int) (vR vL : Value) : Prop where
  tw : TwAt w p c vR vL s.r s.l s.n s.d
  m : MemAt 78 w pm qm M t
  hpm : p ≠ pm ∧ p ≠ qm
  hr : vR.ownBlock ≠ some pm ∧ vR.ownBlock ≠ some qm
  hl : vL.ownBlock ≠ some pm ∧ vL.ownBlock ≠ some qm
  ge : ∀ b, Foot p pm qm vR vL b → B ≤ b
theorem TwIn.lt {B : Nat} {w : World} {p pm qm : Nat} {c : ConfV} {s : TwS} {M : List Int} {t : Int} {vR vL : Value} (h : TwIn B w p pm qm c s M t vR vL) {b : Nat} (hb : Foot p pm qm vR vL b) : b < w.heap.size := by
  rcases hb with rfl | rfl | rfl | hb | hb
  · exact heap_lt h.tw.b
  · exact h.m.plt
  · exact h.m.qlt
  · exact (h.tw.r.lt b hb).2
  · exact (h.tw.l.lt b hb).2
theorem TwIn.fr {B : Nat} {w w' : World} {p pm qm : Nat} {c : ConfV} {s : TwS} {M : List Int} {t : Int} {vR vL : Value} (h : TwIn B w p pm qm c s M t vR vL) {S : List Nat} (f : Fr S w w') (hS : ∀ b, Foot p pm qm vR vL b → b ∉ S) : TwIn B w' p pm qm c s M t vR vL :=
  ⟨h.tw.fr f (hS _ (.inl rfl)) (fun b hb => hS _ (.inr (.inr (.inr (.inl hb))))) (fun b hb => hS _ (.inr (.inr (.inr (.inr hb))))),
   h.m.fr f (hS _ (.inr (.inl rfl))) (hS _ (.inr (.inr (.inl rfl)))), h.hpm, h.hr, h.hl, h.ge⟩
theorem TwIn.fr0 {B : Nat} {w w' : World} {p pm qm : Nat} {c : ConfV} {s : TwS} {M : List Int} {t : Int} {vR vL : Value} (h : TwIn B w p pm qm c s M t vR vL) (f : Fr [] w w') : TwIn B w' p pm qm c s M t vR vL := h.fr f (by simp)
/-- The memory is written on. -/
theorem TwIn.mem {B : Nat} {w w' : World} {p pm qm : Nat} {c : ConfV} {s : TwS} {M M' : List Int} {t t' : Int} {vR vL : Value} (h : TwIn B w p pm qm c s M t vR vL) (f : Fr [pm, qm] w w') (hm : MemAt 78 w' pm qm M' t') : TwIn B w' p pm qm c s M' t' vR vL :=
  ⟨h.tw.fr f (by simp; exact h.hpm) (fun b hb => by simp; exact ⟨fun e => h.hr.1 (e ▸ hb), fun e => h.hr.2 (e ▸ hb)⟩) (fun b hb => by simp; exact ⟨fun e => h.hl.1 (e ▸ hb), fun e => h.hl.2 (e ▸ hb)⟩),
   hm, h.hpm, h.hr, h.hl, h.ge⟩
theorem TwIn.memFB {B : Nat} {w w' : World} {p pm qm : Nat} {c : ConfV} {s : TwS} {M : List Int} {t : Int} {vR vL : Value} (h : TwIn B w p pm qm c s M t vR vL) (f : Fr [pm, qm] w w') : FB B w w' :=
  ⟨[pm, qm], fun b hb => by
    simp at hb
    rcases hb with rfl | rfl
    · exact h.ge _ (.inr (.inl rfl))
    · exact h.ge _ (.inr (.inr (.inl rfl))), f⟩

/-- What a step leaves. -/
def StepOut (B : Nat) (w : World) (p pm qm : Nat) (c : ConfV) (vR vL : Value) (s' : TwS) (M : List Int) (t' : Int) (e : Ending) (w' : World) : Prop :=
  ∃ vR' vL', e = .returned (.bool s'.d) ∧ TwIn B w' p pm qm c s' M t' vR' vL' ∧ Fr (p :: pm :: qm :: vR.ownBlock.toList) w w' ∧ FB B w w' ∧ (∀ b, Foot p pm qm vR' vL' b → Foot p pm qm vR vL b ∨ w.heap.size ≤ b)

theorem tstep_any (B : Nat) (w : World) (p pm qm : Nat) (c : ConfV) (vR vL : Value) (s : TwS) (M : List Int) (t : Int) (hc : c.small) (h : TwIn B w p pm qm c s M t vR vL)
    (ht0 : 0 ≤ t) (ht1 : t ≤ 1000000) (hn0 : 0 ≤ s.n) (hn1 : s.n ≤ 1000000) (hml : (M.length : Int) = c.cells) (hrl : (s.r.length : Int) < c.sl) :
    Calls Try.prog 13 #[.pointer (some ⟨p, 0, none⟩), .pointer (some ⟨pm, 0, none⟩)] w
      (StepOut B w p pm qm c vR vL (s.step c.sl.toNat (loadV M (c.slot s.r.length))) M (if s.d then t else t + 1)) := by
  refine (step_any w p pm qm c vR vL s M t hc h.tw h.m ht0 ht1 hn0 hn1 hml hrl h.hpm h.hr h.hl).mono ?_
  rintro e w' ⟨vR', vL', rfl, h1, h2, h3, h4, h5⟩
  have hfoot : ∀ b, Foot p pm qm vR' vL' b → Foot p pm qm vR vL b ∨ w.heap.size ≤ b := by
    rintro b (rfl | rfl | rfl | hb | hb)
    · exact .inl (.inl rfl)
    · exact .inl (.inr (.inl rfl))
    · exact .inl (.inr (.inr (.inl rfl)))
    · exact (h4 b hb).imp (fun h => .inr (.inr (.inr (.inl h)))) id
    · exact (h5 b hb).imp (fun h => .inr (.inr (.inr (.inr h)))) id
  have hpl := h.m.plt
  have hql := h.m.qlt
  have hBp := h.ge p (.inl rfl)
  have hpl2 := h.lt (b := p) (.inl rfl)
  refine ⟨vR', vL', rfl, ⟨h1, h2, h.hpm, ⟨fun e => ?_, fun e => ?_⟩, ⟨fun e => ?_, fun e => ?_⟩, fun b hb => (hfoot b hb).elim (h.ge b) (fun h6 => by omega)⟩, h3, ?_, hfoot⟩
  · exact (h4 _ e).elim h.hr.1 (by omega)
  · exact (h4 _ e).elim h.hr.2 (by omega)
  · exact (h5 _ e).elim h.hl.1 (by omega)
  · exact (h5 _ e).elim h.hl.2 (by omega)
  · refine ⟨_, fun b hb => h.ge b ?_, h3⟩
    simp only [List.mem_cons, Option.mem_toList] at hb
    rcases hb with rfl | rfl | rfl | hb
    · exact .inl rfl
    · exact .inr (.inl rfl)
    · exact .inr (.inr (.inl rfl))
    · exact .inr (.inr (.inr (.inl hb)))

theorem twin_new {w w' : World} {B p pm qm : Nat} {c : ConfV} {M : List Int} {t : Int} (hB : B ≤ w.heap.size) (hm : MemAt 78 w pm qm M t) (h1 : B ≤ pm) (h2 : B ≤ qm) (hp : w.heap.size ≤ p) (ht : TwAt w' p c (.slice none 0 0) (.slice none 0 0) [] [] 0 false) (f : Fr [] w w') :
    TwIn B w' p pm qm c ⟨[], [], 0, false⟩ M t (.slice none 0 0) (.slice none 0 0) := by
  have h3 := hm.plt
  have h4 := hm.qlt
  refine ⟨ht, hm.fr f (by simp) (by simp), ⟨by omega, by omega⟩, by simp [Value.ownBlock], by simp [Value.ownBlock], ?_⟩
  rintro b (rfl | rfl | rfl | hb | hb)
  · omega
  · exact h1
  · exact h2
  · simp [Value.ownBlock] at hb
  · simp [Value.ownBlock] at hb

end Go.Proofs.Ytnjoefanafjniaa

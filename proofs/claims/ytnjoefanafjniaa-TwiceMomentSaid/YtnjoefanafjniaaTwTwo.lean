/- Two who look at once. -/
import Derived.Test.YtnjoefanafjniaaTwW
namespace Go.Proofs.Ytnjoefanafjniaa
open Go.RowKit

theorem wrap2 {x : Int} (h1 : 1 ≤ x) (h2 : x ≤ 5) : IntKind.i64.wrap (IntKind.i64.wrap (2 * x) - 1) = 2 * x - 1 := by
  rw [IntKind.wrap_i64, IntKind.wrap_i64]; omega
theorem IntsAt.drop {w : World} {q o : Nat} {L : List Int} (h : IntsAt w (some ⟨q, o, none⟩) L) (m : Nat) : IntsAt w (some ⟨q, o + m, none⟩) (L.drop m) := by
  refine ⟨by have := h.1; rw [List.length_drop]; omega, fun j x hx => ?_⟩
  rw [List.getElem?_drop] at hx
  obtain ⟨b, o2, hb, hc⟩ := h.2 (m + j) x hx
  simp only [Option.some.injEq, Addr.mk.injEq, and_true] at hb
  obtain ⟨rfl, rfl⟩ := hb
  exact ⟨q, o + m, rfl, by rw [Nat.add_assoc]; exact hc⟩
theorem ints_len (w : World) (g h : Option Addr) (c d : Nat) (a b : Nat) (L M : List Int) (hL : a = L.length) (hM : b = M.length) (ha : IntsAt w g L) (hb : IntsAt w h M) :
    Calls Try.prog 19 #[.slice g a c, .slice h b d] w fun e w' => e = .returned (.bool (decide (L = M))) ∧ Fr [] w w' := by
  subst hL hM
  exact ints_any w g h c d L M ha hb

/-- The blocks of a Twice alone. -/
def Own1 (p : Nat) (vR vL : Value) (b : Nat) : Prop := b = p ∨ vR.ownBlock = some b ∨ vL.ownBlock = some b
def Apart (p : Nat) (vR vL : Value) (p' : Nat) (vR' vL' : Value) : Prop := ∀ b, Own1 p vR vL b → ¬ Own1 p' vR' vL' b
theorem Apart.symm {p p' : Nat} {vR vL vR' vL' : Value} (h : Apart p vR vL p' vR' vL') : Apart p' vR' vL' p vR vL := fun b h1 h2 => h b h2 h1
theorem Own1.foot {p pm qm b : Nat} {vR vL : Value} (h : Own1 p vR vL b) : Foot p pm qm vR vL b := by
  rcases h with h | h | h
  · exact .inl h
  · exact .inr (.inr (.inr (.inl h)))
  · exact .inr (.inr (.inr (.inr h)))
theorem TwIn.own {B : Nat} {w : World} {p pm qm : Nat} {c : ConfV} {s : TwS} {M : List Int} {t : Int} {vR vL : Value} (h : TwIn B w p pm qm c s M t vR vL) {b : Nat} (hb : Own1 p vR vL b) : b ≠ pm ∧ b ≠ qm := by
  rcases hb with rfl | hb | hb
  · exact h.hpm
  · exact ⟨fun e => h.hr.1 (e ▸ hb), fun e => h.hr.2 (e ▸ hb)⟩
  · exact ⟨fun e => h.hl.1 (e ▸ hb), fun e => h.hl.2 (e ▸ hb)⟩
/-- A step of the one leaves the other one as it is. -/
theorem TwIn.beside {B : Nat} {w w' : World} {pa pb pm qm : Nat} {c : ConfV} {sb sa' : TwS} {M : List Int} {t t' : Int} {vRa vLa vRb vLb vRa' vLa' : Value}
    (hb : TwIn B w pb pm qm c sb M t vRb vLb) (hd : Apart pa vRa vLa pb vRb vLb) (ha' : TwIn B w' pa pm qm c sa' M t' vRa' vLa') (f : Fr (pa :: pm :: qm :: vRa.ownBlock.toList) w w')
    (hf : ∀ b, Foot pa pm qm vRa' vLa' b → Foot pa pm qm vRa vLa b ∨ w.heap.size ≤ b) : TwIn B w' pb pm qm c sb M t' vRb vLb ∧ Apart pa vRa' vLa' pb vRb vLb := by
  have key : ∀ b, Own1 pb vRb vLb b → b ∉ pa :: pm :: qm :: vRa.ownBlock.toList := fun b h hm => by
    have h1 := hb.own h
    simp only [List.mem_cons, Option.mem_toList] at hm
    rcases hm with e | e | e | e
    · exact hd b (.inl e) h
    · exact h1.1 e
    · exact h1.2 e
    · exact hd b (.inr (.inl e)) h
  refine ⟨⟨hb.tw.fr f (key _ (.inl rfl)) (fun b h => key b (.inr (.inl h))) (fun b h => key b (.inr (.inr h))), ha'.m, hb.hpm, hb.hr, hb.hl, hb.ge⟩, fun b h h2 => ?_⟩
  rcases hf b h.foot with h3 | h3
  · have h4 := ha'.own h
    rcases h3 with e | e | e | e | e
    · exact hd b (.inl e) h2
    · exact h4.1 e
    · exact h4.2 e
    · exact hd b (.inr (.inl e)) h2
    · exact hd b (.inr (.inr e)) h2
  · have := hb.lt h2.foot (pm := pm) (qm := qm)
    omega

end Go.Proofs.Ytnjoefanafjniaa

/- The document's bytes of entries (coachhouseref13.Encode). -/
import Derived.Test.YtphnjgkaapfocaaEntE
namespace Go.Proofs.Ytphnjgkaapfocaa
open Go.RowKit

set_option maxHeartbeats 4000000 in
set_option maxRecDepth 100000 in
theorem ref_encode_any (w : World) (g : Option Addr) (c : Nat) (L : List EntV) (ha : EntsAt w g L) :
    Calls Try.prog 11 #[.slice g L.length c] w (EncPost w L) := by
  obtain ⟨i0, hi, hz0, hz1, hz2⟩ := info_parts byte_info
  have hl := ha.1
  have HA := Lib.hid ha; clear ha
  obtain ⟨len, hlen⟩ : ∃ len, len = L.length := ⟨_, rfl⟩
  rw [← hlen] at hl ⊢
  have HLEN := Lib.hid hlen; clear hlen
  by_cases hlong : (1000 : Int) < (len : Int)
  · have HP := Lib.hid (show EncPost w L (.returned (.tuple #[.slice none 0 0, .int .i64 13])) w from ⟨Fr.refl _ _, .inl ⟨by have := HLEN.out; omega, rfl⟩⟩)
    go_enter Try.func11, Try.ntmps11
    go_wp2
    go_ret2
    exact HP.out
  · go_enter Try.func11, Try.ntmps11
    go_wp2
    go_loopw [5, 4] (fun i v wr => ∃ k : Nat, k ≤ len ∧ i = .int .i64 (k : Int) ∧ OwnB w.heap.size wr v (forms (L.take k)) ∧ (∀ x ∈ L.take k, x.ok) ∧ Fr [] w wr) (fun i _ _ => len - (intOf i).toNat)
    case atStart => exact ⟨0, Nat.zero_le _, rfl, World.ownsRow_nil _ _ _ _, by simp, Fr.refl _ _⟩
    case round =>
      obtain ⟨k, hk, rfl, hown, hok, f⟩ := hrel
      have HO := Lib.hid hown; have HK := Lib.hid hok; clear hown hok
      by_cases hlt : k < len
      · obtain ⟨x, hx⟩ := ent_get (L := L) (k := k) (by rw [← HLEN.out]; exact hlt)
        obtain ⟨ba, oa, rfl, hca⟩ := HA.out.base (by intro e; rw [e] at hx; simp at hx)
        have hc := (EntCells.of (hca k x hx)).fr f (by simp)
        clear hca
        have HC := Lib.hid hc
        obtain ⟨c0, c1, c2, c3, c4, c5, c6, c7, c8, c9, c10⟩ := hc
        have HX := Lib.hid hx; clear hx
        have hlt' : (k : Int) < (len : Int) := by omega
        have hk0 : (0 : Int) ≤ (k : Int) := by omega
        go_wp2_with fail
        refine (ref_right_any _ x).mono ?_
        rintro e w2 ⟨rfl, f2⟩
        have HC2 := Lib.hid (HC.out.fr f2 (by simp))
        have HO2 := Lib.hid (owns_fr HO.out f2)
        have F2 := Lib.hid (f.trans f2)
        clear c0 c1 c2 c3 c4 c5 c6 c7 c8 c9 c10 HC HO f f2
        by_cases hxok : x.ok
        · rw [decide_eq_true hxok]
          have HXO := Lib.hid hxok; clear hxok
          obtain ⟨c0, c1, c2, c3, c4, c5, c6, c7, c8, c9, c10⟩ := HC2.out
          go_wp2_with fail
          refine (form_any _ x HXO.out).mono ?_
          rintro e w3 ⟨B, rfl, hB, hBc, f3⟩
          have HO3 := Lib.hid (owns_fr HO2.out f3)
          have F3 := Lib.hid (F2.out.trans f3)
          clear c0 c1 c2 c3 c4 c5 c6 c7 c8 c9 c10 HC2 HO2 F2 f3
          have HLF := Lib.hid (show (forms (L.take k)).length ≤ 12000 by rw [length_forms, List.length_take]; have := HLEN.out; omega)
          have hBl := F3.out.size
          go_wp2_with (first
            | (at_builtin; refine wpList_append_own _ rfl _ _ 24 rfl w.heap.size 5 i0 (.int .u8 0) 1 1 Try.underlying24 hi hz0 hz1 hz2 rfl (by decide) _ _ _ rfl HO3.out ⟨B, 0, none⟩ 12 12 (x.form.map (Value.int .u8)) rfl rfl (World.news_of_block hBc) (fun u hu => by obtain ⟨z, _, rfl⟩ := List.mem_map.1 hu; rfl) (by have := HLF.out; unfold maxLen; omega) (by have := HLF.out; omega) hBl ?_)
            | fail)
          intro v5 w5 hown5 hgrow _
          have hT : OwnB w.heap.size w5 v5 (forms (L.take (k + 1))) := by rw [take_snocE HX.out, forms_snoc]; unfold OwnB; rw [List.length_append, List.map_append]; exact hown5
          have hKK : ∀ y ∈ L.take (k + 1), y.ok := fun y hy => by rw [take_snocE HX.out, List.mem_append, List.mem_singleton] at hy; rcases hy with hy | rfl; exact HK.out y hy; exact HXO.out
          have hF5 : Fr [] w w5 := F3.out.grown hgrow (fun k hk => .inr (HO3.out.lt k hk).1)
          have HT := Lib.hid hT; have HKK := Lib.hid hKK; have HF5 := Lib.hid hF5
          clear hT hKK hF5 hgrow hown5 hBc
          go_wp2
          go_roundw
          case rel => exact ⟨k + 1, by omega, by go_num, HT.out, HKK.out, HF5.out⟩
          case measure => simp [intOf]; omega
        · rw [decide_eq_false hxok]
          have HP := Lib.hid (show EncPost w L (.returned (.tuple #[.slice none 0 0, .int .i64 1])) w2 from ⟨F2.out, .inr (.inl ⟨by have := HLEN.out; omega, fun h => hxok (h x (List.mem_of_getElem? HX.out)), rfl⟩)⟩)
          clear hxok
          go_wp2
          go_ret2
          exact HP.out
      · have hkL : L.take k = L := List.take_of_length_le (by have := HLEN.out; omega)
        have HP := HO.out
        have HQ := HK.out
        rw [hkL] at HP HQ
        have HF := Lib.hid (enc_of_own f (by have := HLEN.out; omega) HQ HP)
        clear HP HQ hkL
        go_wp2
        go_ret2
        exact HF.out

end Go.Proofs.Ytphnjgkaapfocaa

/- Table[int,string]: slices.Insert of one, whatever the road. Printed by gen_tab.py. -/
import Derived.Test.YtamnmpcnhaeigaaTabEW
namespace Go.Proofs.Ytamnmpcnhaeigaa.TabW
open Go.RowKit
set_option linter.unusedVariables false

theorem insert_any (w : World) (s : Value) (i : Nat) (L : List (Int × ByteArray)) (k : Int) (v : ByteArray) (vb : Nat) (hn : L.length ≤ 1000) (hi : i ≤ L.length) (hr : Things w s L)
    (hv : w.heap[vb]? = some (.cells #[kv k, vv v] 90 (0, 0))) (hvq : vb ∉ rowsOf s) :
    Calls Try.prog 45 #[s, .int .i64 i, .slice (some ⟨vb, 0, none⟩) 1 1] w fun e w' => InsPost w s (ins L i (k, v)) e w' := by
  have hend : i = L.length → ins L i (k, v) = L ++ [(k, v)] := fun h => by subst h; simp [ins]
  rcases hr with ⟨rfl, rfl⟩ | ⟨q, c, rfl, hc, hc63, hr⟩
  · obtain rfl : i = 0 := by simpa using hi
    have := insert_end_grow w none 0 [] k v vb hn (.inl ⟨rfl, rfl⟩) (by simp) hv
    exact this
  · have hne : vb ≠ q := fun h => hvq (by simp [rowsOf, h])
    by_cases h : i = L.length
    · rw [hend h]
      subst h
      by_cases hg : L.length + 1 ≤ c
      · exact insert_end_room w q c L k v vb hn hr hg hc63 hv
      · exact insert_end_grow w _ c L k v vb hn (.inr ⟨q, c, rfl, hc, hc63, hr⟩) (by omega) hv
    · by_cases hg : L.length + 1 ≤ c
      · exact insert_shift w q c i L k v vb hn (by omega) hr hg hc63 hv hne
      · exact insert_grow w q c i L k v vb hn (by omega) hr hc (by omega) hv

end Go.Proofs.Ytamnmpcnhaeigaa.TabW

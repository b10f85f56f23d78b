/- The program's Twice, and the document's, beside one another. -/
import Derived.Test.YtnjoefanafjniaaTwQ
import Derived.Laws.AppendOwn
namespace Go.Proofs.Ytnjoefanafjniaa
open Go.RowKit

theorem run_append_zero {P : Program} (w : World) (t ty e : TypeId) (i : TypeInfo) (ht : P.underlying t = some (.slice e)) (hi : P.info? e = some i) (b : Addr) (n cap c : Nat) (hn : n ≤ cap) (g : Option Addr) :
    (Builtin.append_ #[t, t] ty #[.slice (some b) n cap, .slice g 0 c]).run P w = .ok (.slice (some b) n cap) w := by
  cases g <;> simp [Builtin.append_, run_underlying ht, sizeOf, typeInfo, hi, Builtin.lenOf, Builtin.firstCells, loadCells, loadCellsFrom, storeCells, hn]

/-- A list of the call's own that isn't nil. -/
def OwnSome (base : Nat) (w : World) (e : TypeId) (size : Nat) (v : Value) (n : Nat) (xs : List Value) : Prop := w.ownsRow base e size v n xs ∧ ∃ g cap, v = .slice (some ⟨g, 0, none⟩) n cap ∧ n ≤ cap

/-- All of a list behind one of the call's own. -/
theorem wpList_append_more {P : Program} {w : World} {ops : Array Oper} {rest : List Oper} {o : Oper} {a : Act} {Q : Exit → Act → World → Prop} (hgd : o.guard = none) (s x : Operand) (t : TypeId)
    (ho : o.op = .call { callee := .builtin .append, args := #[s, x], argTypes := #[t, t] })
    (e : TypeId) (i : TypeInfo) (z : Value) (size bytes : Nat) (ht : P.underlying t = some (.slice e)) (hi : P.info? e = some i) (hz : i.zero = some z) (hs1 : i.size = size) (hb1 : i.bytes = bytes) (hzs : z.cells.size = size) (hsz : 0 < size)
    (base : Nat) (v : Value) (n : Nat) (xs : List Value) (hs : a.eval s = v) (hown : OwnSome base w e size v n xs)
    (g : Option Addr) (m c : Nat) (news : List Value) (hx : a.eval x = .slice g m c) (hl : news.length = m * size) (hnews : m ≠ 0 → ∃ ad, g = some ad ∧ ∀ j u, news[j]? = some u → w.cell? (ad.add j) = some u) (h1 : ∀ u ∈ news, u.oneCell' = true)
    (h63 : n + m ≤ maxLen) (hbytes : (n + m) * bytes ≤ 140737488355328) (hbase : base ≤ w.heap.size) (w0 : World) (hw0 : w0.heap.size ≤ base) (f0 : Fr [] w0 w)
    (h : ∀ v' w', OwnSome base w' e size v' (n + m) (xs ++ news) → Fr [] w0 w' → wpList P ops Q rest (a.put o.dst v') w') : wpList P ops Q (o :: rest) a w := by
  have key : ∃ v' w', (Builtin.append_ #[t, t] o.type #[v, .slice g m c]).run P w = .ok v' w' ∧ OwnSome base w' e size v' (n + m) (xs ++ news) ∧ Fr [] w0 w' := by
    obtain ⟨hown, gv, cap, rfl, hcap⟩ := hown
    by_cases hm : m = 0
    · subst hm
      have hn0 : news = [] := List.eq_nil_of_length_eq_zero (by simpa using hl)
      subst hn0
      rw [List.append_nil, Nat.add_zero]
      exact ⟨_, _, run_append_zero w t o.type e i ht hi ⟨gv, 0, none⟩ n cap c hcap g, ⟨hown, gv, cap, rfl, hcap⟩, f0⟩
    · obtain ⟨ad, rfl, hc⟩ := hnews hm
      obtain ⟨v', w', hr, h2, h3, h4⟩ := run_append_own (P := P) w base t o.type e i z size bytes ht hi hz hs1 hb1 hzs hsz _ n xs hown ad m c news hl hc h1 h63 hbytes hbase
      refine ⟨v', w', hr, ⟨h2, ?_⟩, f0.grown h3 (fun k hk => .inr (Nat.le_trans hw0 (hown.lt k hk).1))⟩
      rcases h2.2 with ⟨rfl, _⟩ | ⟨g', cap', cur', rfl, _, _, hle, _⟩
      · have := (h4.1 rfl).1; cases this
      · exact ⟨g', cap', rfl, hle⟩
  obtain ⟨v', w', hr, h2, h3⟩ := key
  refine wpList_plain hgd fun _ hK => ?_
  unfold Oper.wp execOp
  simp only [ho, resolve, invoke, builtin, Sem.run_bind, Sem.run_pure, Result.andThen_ok, List.map_toArray, List.map_cons, List.map_nil, hs, hx, hr]
  exact hK _ _ (h v' w' h2 h3)
theorem own_empty (w : World) (e : TypeId) (size : Nat) : OwnSome w.heap.size (w.alloc (.cells #[] e)) e size (.slice (some ⟨w.heap.size, 0, none⟩) 0 0) 0 [] :=
  ⟨⟨by simp, .inr ⟨w.heap.size, 0, #[], rfl, Nat.le_refl _, heap_alloc_new w _, Nat.le_refl _, by unfold maxLen; omega, by simp, by simp⟩⟩, w.heap.size, 0, rfl, Nat.le_refl _⟩
theorem IntsAt.news {w : World} {g : Option Addr} {L : List Int} (h : IntsAt w g L) (hn : L.length ≠ 0) : ∃ ad, g = some ad ∧ ∀ j u, (L.map (Value.int .i64))[j]? = some u → w.cell? (ad.add j) = some u := by
  obtain ⟨b, o, rfl, hc⟩ := h.base (by intro e; rw [e] at hn; exact hn rfl)
  refine ⟨_, rfl, fun j u hu => ?_⟩
  rw [List.getElem?_map] at hu
  cases hj : L[j]? with
  | none => rw [hj] at hu; cases hu
  | some z =>
    rw [hj] at hu
    simp only [Option.map_some, Option.some.injEq] at hu
    subst hu
    rw [Addr.add_lit]
    exact hc j z hj

/-- The document's blocks. -/
def RFoot (p pr qr : Nat) (v : Value) (b : Nat) : Prop := b = p ∨ b = pr ∨ b = qr ∨ v.ownBlock = some b
structure RIn (B : Nat) (w : World) (p pr qr : Nat) (c : ConfV) (L M : List Int) (t : Int) (v : Value) : Prop where
  r : RefT w p c v L
  m : MemAt 55 w pr qr M t
  hpr : p ≠ pr ∧ p ≠ qr
  hv : v.ownBlock ≠ some pr ∧ v.ownBlock ≠ some qr
  ge : ∀ b, RFoot p pr qr v b → B ≤ b
theorem RIn.lt {B : Nat} {w : World} {p pr qr : Nat} {c : ConfV} {L M : List Int} {t : Int} {v : Value} (h : RIn B w p pr qr c L M t v) {b : Nat} (hb : RFoot p pr qr v b) : b < w.heap.size := by
  rcases hb with rfl | rfl | rfl | hb
  · exact heap_lt h.r.b
  · exact h.m.plt
  · exact h.m.qlt
  · exact (h.r.o.lt b hb).2
theorem RIn.fr {B : Nat} {w w' : World} {p pr qr : Nat} {c : ConfV} {L M : List Int} {t : Int} {v : Value} (h : RIn B w p pr qr c L M t v) {S : List Nat} (f : Fr S w w') (hS : ∀ b, RFoot p pr qr v b → b ∉ S) : RIn B w' p pr qr c L M t v :=
  ⟨h.r.fr f (hS _ (.inl rfl)) (fun b hb => hS _ (.inr (.inr (.inr hb)))), h.m.fr f (hS _ (.inr (.inl rfl))) (hS _ (.inr (.inr (.inl rfl)))), h.hpr, h.hv, h.ge⟩

/-- Both, apart from one another. -/
structure Play (B : Nat) (w : World) (p pm qm ph pr qr : Nat) (c : ConfV) (s : TwS) (L M : List Int) (t tr : Int) (vR vL v : Value) : Prop where
  a : TwIn B w p pm qm c s M t vR vL
  b : RIn B w ph pr qr c L M tr v
  d : ∀ x, Foot p pm qm vR vL x → ¬ RFoot ph pr qr v x
theorem Play.fr0 {B : Nat} {w w' : World} {p pm qm ph pr qr : Nat} {c : ConfV} {s : TwS} {L M : List Int} {t tr : Int} {vR vL v : Value} (h : Play B w p pm qm ph pr qr c s L M t tr vR vL v) (f : Fr [] w w') : Play B w' p pm qm ph pr qr c s L M t tr vR vL v :=
  ⟨h.a.fr0 f, h.b.fr f (by simp), h.d⟩
/-- The program's memory, and then the document's, is written on. -/
theorem Play.mem {B : Nat} {w w1 w2 : World} {p pm qm ph pr qr : Nat} {c : ConfV} {s : TwS} {L M M' : List Int} {t t' tr : Int} {vR vL v : Value} (h : Play B w p pm qm ph pr qr c s L M t tr vR vL v)
    (f1 : Fr [pm, qm] w w1) (h1 : MemAt 78 w1 pm qm M' t') (f2 : Fr [qr] w1 w2) (h2 : MemAt 55 w2 pr qr M' tr) : Play B w2 p pm qm ph pr qr c s L M' t' tr vR vL v ∧ FB B w w2 := by
  have e1 := h.a.mem f1 h1
  have e2 := h.b.fr f1 (fun b hb hm => by
    simp at hm
    rcases hm with rfl | rfl
    · exact h.d _ (.inr (.inl rfl)) hb
    · exact h.d _ (.inr (.inr (.inl rfl))) hb)
  have e3 := e1.fr f2 (fun b hb hm => by
    simp at hm
    subst hm
    exact h.d _ hb (.inr (.inr (.inl rfl))))
  refine ⟨⟨e3, ⟨e2.r.fr f2 (by simp; exact e2.hpr.2) (fun b hb hm => by simp at hm; exact e2.hv.2 (hm ▸ hb)), h2, e2.hpr, e2.hv, e2.ge⟩, h.d⟩, (h.a.memFB f1).trans ⟨[qr], fun b hb => ?_, f2⟩⟩
  simp at hb
  subst hb
  exact h.b.ge _ (.inr (.inr (.inl rfl)))
theorem Play.mid {B : Nat} {w w1 : World} {p pm qm ph pr qr : Nat} {c : ConfV} {s : TwS} {L M : List Int} {t tr : Int} {vR vL v : Value} (h : Play B w p pm qm ph pr qr c s L M t tr vR vL v)
    (f1 : Fr [pm, qm] w w1) : MemAt 55 w1 pr qr M tr := (h.b.fr f1 (fun b hb hm => by
    simp at hm
    rcases hm with rfl | rfl
    · exact h.d _ (.inr (.inl rfl)) hb
    · exact h.d _ (.inr (.inr (.inl rfl))) hb)).m
/-- The program makes a step. -/
theorem Play.step {B : Nat} {w w' : World} {p pm qm ph pr qr : Nat} {c : ConfV} {s s' : TwS} {L M : List Int} {t t' tr : Int} {vR vL vR' vL' v : Value} (h : Play B w p pm qm ph pr qr c s L M t tr vR vL v)
    (ha : TwIn B w' p pm qm c s' M t' vR' vL') (f : Fr (p :: pm :: qm :: vR.ownBlock.toList) w w') (hf : ∀ b, Foot p pm qm vR' vL' b → Foot p pm qm vR vL b ∨ w.heap.size ≤ b) : Play B w' p pm qm ph pr qr c s' L M t' tr vR' vL' v := by
  refine ⟨ha, h.b.fr f (fun b hb hm => ?_), fun b hb hr => ?_⟩
  · simp only [List.mem_cons, Option.mem_toList] at hm
    rcases hm with e | e | e | e
    · exact h.d b (.inl e) hb
    · exact h.d b (.inr (.inl e)) hb
    · exact h.d b (.inr (.inr (.inl e))) hb
    · exact h.d b (.inr (.inr (.inr (.inl e)))) hb
  · rcases hf b hb with h1 | h1
    · exact h.d b h1 hr
    · have := h.b.lt hr
      omega
/-- The document makes a step. -/
theorem Play.rstep {B : Nat} {w w' : World} {p pm qm ph pr qr : Nat} {c : ConfV} {s : TwS} {L L' M : List Int} {t tr tr' : Int} {vR vL v : Value} {e : Ending} {d : Bool} (h : Play B w p pm qm ph pr qr c s L M t tr vR vL v)
    (hp : RefPost w ph pr qr c v L' M tr' d e w') : e = .returned (.bool d) ∧ (∃ v', Play B w' p pm qm ph pr qr c s L' M t tr' vR vL v') ∧ FB B w w' := by
  obtain ⟨v', he, h1, h2, h3, h4⟩ := hp
  have hB : B ≤ w.heap.size := by
    have h5 := h.b.ge ph (.inl rfl)
    have h6 := h.b.lt (b := ph) (.inl rfl)
    omega
  have hf : ∀ b, RFoot ph pr qr v' b → RFoot ph pr qr v b ∨ w.heap.size ≤ b := by
    rintro b (e | e | e | e)
    · exact .inl (.inl e)
    · exact .inl (.inr (.inl e))
    · exact .inl (.inr (.inr (.inl e)))
    · exact (h4 b e).imp (fun h => .inr (.inr (.inr h))) id
  have hnot : ∀ b, b ∈ ph :: pr :: qr :: v.ownBlock.toList → RFoot ph pr qr v b := fun b hm => by
    simp only [List.mem_cons, Option.mem_toList] at hm
    exact hm
  refine ⟨he, ⟨v', h.a.fr h3 (fun b hb hm => h.d b hb (hnot b hm)), ⟨h1, h2, h.b.hpr, ⟨fun e => ?_, fun e => ?_⟩, fun b hb => (hf b hb).elim (h.b.ge b) (fun h7 => by omega)⟩, fun b hb hr => ?_⟩, ⟨_, fun b hb => h.b.ge b (hnot b hb), h3⟩⟩
  · rcases h4 _ e with h7 | h7
    · exact h.b.hv.1 h7
    · have := h.b.lt (b := pr) (.inr (.inl rfl)); omega
  · rcases h4 _ e with h7 | h7
    · exact h.b.hv.2 h7
    · have := h.b.lt (b := qr) (.inr (.inr (.inl rfl))); omega
  · rcases hf b hr with h7 | h7
    · exact h.d b hb h7
    · have := h.a.lt hb; omega
theorem MemAt.ints {T : Nat} {w : World} {p q : Nat} {L : List Int} {t : Int} (h : MemAt T w p q L t) : IntsAt w (some ⟨q, 0, none⟩) L := by
  obtain ⟨cap, cur, h⟩ := h
  have h1 := h.hl
  have h2 := h.hm
  refine ⟨by unfold maxLen at h2; omega, fun j x hx => ⟨q, 0, rfl, by rw [Nat.zero_add]; exact h.cq hx⟩⟩
theorem MemAt.slot0 {T : Nat} {w : World} {p q : Nat} {L : List Int} {t : Int} (h : MemAt T w p q L t) : ∃ cap, w.cell? ⟨p, 0, none⟩ = some (.slice (some ⟨q, 0, none⟩) L.length cap) := by
  obtain ⟨cap, cur, h⟩ := h
  exact ⟨cap, h.c0⟩
theorem MemAt.slot1 {T : Nat} {w : World} {p q : Nat} {L : List Int} {t : Int} (h : MemAt T w p q L t) : w.cell? ⟨p, 1, none⟩ = some (.int .i64 t) := by
  obtain ⟨cap, cur, h⟩ := h
  exact h.c1

end Go.Proofs.Ytnjoefanafjniaa

/- A part of the proof: TpZb to TpZc. -/
import Derived.Test.YtgjklfmnmljilaaGreatDoorZT03
import Derived.Test.YtgjklfmnmljilaaGreatDoorZT14
import Derived.Test.YtgjklfmnmljilaaGreatDoorZT19
import Derived.Test.YtgjklfmnmljilaaGreatDoorZT20
import Derived.Test.YtgjklfmnmljilaaGreatDoorZT21
import Derived.Test.YtgjklfmnmljilaaGreatDoorZT22
import Derived.Test.YtgjklfmnmljilaaGreatDoorZT23
namespace Go.Proofs.YtgjklfmnmljilaaGreatDoor
set_option linter.unusedVariables false
set_option linter.unusedSimpArgs false
set_option linter.unusedSectionVars false
set_option linter.unnecessarySimpa false
set_option maxRecDepth 100000
set_option maxHeartbeats 8000000
section
open Go.RowKit Go.Shelf Go.Lib
attribute [local go_sem] Oper.semAt_some
def QA (w:World) (b n:Nat) (f:Nat→List Value):Prop:=∃W:Array Value,w.heap[b]?=some (.cells W 80 (0,0))∧W.size=n*35∧∀k,k<n→(f k).length=35∧∀(j:Nat) (u:Value),(f k)[j]?=some u→W[k*35+j]?=some u
def upd (f:Nat→List Value) (k:Nat) (L:List Value):Nat→List Value:=fun i=>if i=k then L else f i
theorem Q68 (f:Nat→List Value) (k:Nat):upd f k (f k)=f:=by funext i;unfold upd;split<;>simp_all
theorem QA.cell {w:World} {b n k:Nat} {f:Nat→List Value} {L:List Value} (h:QA w b n (upd f k L)) (hk:k<n) (j:Nat) {u:Value}
 (hu:L[j]?=some u:=by
   simp only [List.getElem?_cons_succ,List.getElem?_cons_zero]
   exact rfl):w.cell? ⟨b,k*35+j,none⟩=some u:=by
 obtain ⟨W,h1,h2,h3⟩:=h
 have h4:=(h3 k hk).2 j u (by unfold upd;rw [if_pos rfl];exact hu)
 exact cell_of h1 h4
theorem QA.frozen {w:World} {b n:Nat} {f:Nat→List Value} (h:QA w b n f) (i:Nat):w.frozen? ⟨b,i,none⟩=false:=by
 obtain ⟨W,h1,h2,h3⟩:=h
 exact Q9 h1
theorem QA.fr {w w':World} {b n:Nat} {f:Nat→List Value} (h:QA w b n f) {S:List Nat} (g:Fr S w w') (hb:b∉S):QA w' b n f:=by
 obtain ⟨W,h1,h2⟩:=h
 exact ⟨W,g.at h1 hb,h2⟩
theorem QA.lt {w:World} {b n:Nat} {f:Nat→List Value} (h:QA w b n f):b<w.heap.size:=by
 obtain ⟨W,h1,h2⟩:=h
 exact Q6 h1
theorem QA.set {w:World} {b n k:Nat} {f:Nat→List Value} {L:List Value} (h:QA w b n (upd f k L)) (hk:k<n) (j:Nat) (hj:j<35) (v:Value):QA (w.setCell ⟨b,k*35+j,none⟩ v) b n (upd f k (L.set j v)):=by
 obtain ⟨W,h1,h2,h3⟩:=h
 refine ⟨_,heap_setCell_same (i:=k*35+j) h1 v,by simpa using h2,fun i hi=> ?_⟩
 have hl:=(h3 k hk).1
 unfold upd at hl
 rw [if_pos rfl] at hl
 by_cases hik:i=k
 · subst hik
   unfold upd
   rw [if_pos rfl]
   refine ⟨by simpa using hl,fun m u hm=> ?_⟩
   by_cases hmj:m=j
   · subst hmj
     rw [List.getElem?_set_self (by omega)] at hm
     rw [Array.getElem?_setIfInBounds_self_of_lt (by omega)]
     exact hm
   · rw [List.getElem?_set_ne (fun e=>hmj e.symm)] at hm
     rw [Array.getElem?_setIfInBounds_ne (by omega)]
     exact (h3 i hi).2 m u (by unfold upd;rw [if_pos rfl];exact hm)
 · have h4:=h3 i hi
   unfold upd at h4 ⊢
   rw [if_neg hik] at h4 ⊢
   refine ⟨h4.1,fun m u hm=> ?_⟩
   have hm35:m<35:=by rw [←h4.1];exact (List.getElem?_eq_some_iff.1 hm).1
   rw [Array.getElem?_setIfInBounds_ne (by omega)]
   exact h4.2 m u hm
theorem QA.drew {w:World} {b n:Nat} {f:Nat→List Value} (h:QA w b n f):QA w.drew b n f:=h
theorem QA.ne {w:World} {b n:Nat} {f:Nat→List Value} (h:QA w b n f) {a:Addr} (v:Value) (hb:b≠a.block:=by have:=HNE.out;simp<;>omega):QA (w.setCell a v) b n f:=by
 obtain ⟨W,h1,h2⟩:=h
 exact ⟨W,X4 h1 hb v,h2⟩
theorem QA.alloc {w:World} {b n:Nat} {f:Nat→List Value} (h:QA w b n f) (o:Obj):QA (w.alloc o) b n f:=by
 obtain ⟨W,h1,h2⟩:=h
 exact ⟨W,Qd h1 o,h2⟩
theorem ZP {P:Program} (t:TypeId) (g o:Nat) (vs:List Value) (tt:TypeId) (cur:Array Value) (w:World) (ht:(P.info? t).map (·.size)=some vs.length) (hg:w.heap[g]?=some (.cells cur tt (0,0))) (hfit:o+vs.length≤cur.size)
 (h1:∀v∈vs,v.oneCell'=true):(storeVar t ⟨g,o,none⟩ (.agg vs.toArray)).run P w=.ok () (w.setRow g (cur.toList.take o++vs++cur.toList.drop (o+vs.length)).toArray):=by
 have h:=run_storeCells_at P g o tt vs 0 cur w hg (by simpa using hfit) h1
 simp only [Nat.add_zero] at h
 cases hi:P.info? t with
 |none=>rw [hi] at ht;cases ht
 |some i=>
  rw [hi] at ht
  have hs:i.size=vs.length:=by simpa using ht
  simp [storeVar,sizeOf,typeInfo,hi,hs,Value.cells,h]
theorem QA.sto {P:Program} {w:World} {b n k:Nat} {f:Nat→List Value} {L:List Value} (h:QA w b n (upd f k L)) (hk:k<n) (o:Nat) (vs:List Value) (t:TypeId) (ht:(P.info? t).map (·.size)=some vs.length) (hfit:o+vs.length≤35) (h1:∀v∈vs,v.oneCell'=true):
 ∃w',(storeVar t ⟨b,k*35+o,none⟩ (.agg vs.toArray)).run P w=.ok () w'∧QA w' b n (upd f k (L.take o++vs++L.drop (o+vs.length)))∧Fr [b] w w':=by
 obtain ⟨W,hg,h2,h3⟩:=h
 have hl:=(h3 k hk).1
 unfold upd at hl
 rw [if_pos rfl] at hl
 have hkn:k*35+35≤n*35:=by omega
 have e0:(W.toList.take (k*35+o)).length=k*35+o:=by rw [List.length_take,Array.length_toList];omega
 refine ⟨_,ZP t b (k*35+o) vs _ W w ht hg (by omega) h1,⟨_,setRow_heap w b W _ _ _ hg, ?_,fun i hi=> ?_⟩,(Fr.refl [b] w).setRow' (by simp) _⟩
 · simp;omega
 · have ho:(L.take o).length=o:=by rw [List.length_take];omega
   by_cases hik:i=k
   · subst hik
     unfold upd
     rw [if_pos rfl]
     refine ⟨by simp;omega,fun m u hm=> ?_⟩
     rw [List.getElem?_toArray,List.append_assoc]
     rw [List.append_assoc] at hm
     rcases Nat.lt_or_ge m o with hmo|hmo
     · rw [List.getElem?_append_left (by omega),List.getElem?_take,if_pos hmo] at hm
       rw [List.getElem?_append_left (by omega),List.getElem?_take,if_pos (by omega),Array.getElem?_toList]
       exact (h3 i hi).2 m u (by unfold upd;rw [if_pos rfl];exact hm)
     · rw [List.getElem?_append_right (by omega),ho] at hm
       rw [List.getElem?_append_right (by omega),e0,show i*35+m - (i*35+o)=m - o by omega]
       rcases Nat.lt_or_ge (m - o) vs.length with hmv|hmv
       · rw [List.getElem?_append_left hmv] at hm ⊢;exact hm
       · rw [List.getElem?_append_right hmv,List.getElem?_drop] at hm ⊢
         rw [Array.getElem?_toList,show i*35+o+vs.length+(m - o - vs.length)=i*35+m by omega]
         exact (h3 i hi).2 m u (by unfold upd;rw [if_pos rfl];rw [←hm];congr 1;omega)
   · have h4:=h3 i hi
     unfold upd at h4 ⊢
     rw [if_neg hik] at h4 ⊢
     refine ⟨h4.1,fun m u hm=> ?_⟩
     have hm35:m<35:=by rw [←h4.1];exact (List.getElem?_eq_some_iff.1 hm).1
     have h5:=h4.2 m u hm
     rw [List.getElem?_toArray,List.append_assoc]
     rcases Nat.lt_or_ge i k with hlt|hge
     · rw [List.getElem?_append_left (by omega),List.getElem?_take,if_pos (by omega),Array.getElem?_toList];exact h5
     · rw [List.getElem?_append_right (by omega),e0,List.getElem?_append_right (by omega),List.getElem?_drop,Array.getElem?_toList,show k*35+o+vs.length+(i*35+m - (k*35+o) - vs.length)=i*35+m by omega];exact h5
theorem QA.sto0 {P:Program} {w:World} {b n k:Nat} {f:Nat→List Value} {L:List Value} (h:QA w b n (upd f k L)) (hk:k<n) (vs:List Value) (t:TypeId) (ht:(P.info? t).map (·.size)=some vs.length) (hfit:vs.length=35) (h1:∀v∈vs,v.oneCell'=true) (hL:L.length=35):
 ∃w',(storeVar t ⟨b,k*35,none⟩ (.agg vs.toArray)).run P w=.ok () w'∧QA w' b n (upd f k vs)∧Fr [b] w w':=by
 have h2:=h.sto (P:=P) hk 0 vs t ht (by omega) h1
 rw [Nat.add_zero,List.take_zero,List.nil_append,Nat.zero_add,List.drop_of_length_le (by omega),List.append_nil] at h2
 exact h2
theorem Vl {P:Program} {w:World} {b:Nat} {cur:Array Value} {tt:TypeId} (h:w.heap[b]?=some (.cells cur tt (0,0))) (vs:List Value) (t:TypeId) (ht:(P.info? t).map (·.size)=some vs.length) (hs:vs.length=cur.size) (h1:∀v∈vs,v.oneCell'=true):
 ∃w',(storeVar t ⟨b,0,none⟩ (.agg vs.toArray)).run P w=.ok () w'∧w'.heap[b]?=some (.cells vs.toArray tt (0,0))∧Fr [b] w w':=by
 have hr:=ZP t b 0 vs tt cur w ht h (by omega) h1
 rw [Nat.zero_add,List.take_zero,List.nil_append,List.drop_of_length_le (by rw [Array.length_toList];omega),List.append_nil] at hr
 exact ⟨_,hr,setRow_heap w b cur _ _ _ h,(Fr.refl [b] w).setRow' (by simp) _⟩
theorem Vq {P:Program} {o:Oper} {a:Act} {w:World} {K:Act→World→Prop} {Q:Exit→Act→World→Prop} (d x:Operand) (dT sT:TypeId) (hop:o.op=Op.call {callee:=Callee.builtin Builtin.append,args:=#[d,x],argTypes:=#[dT,sT]})
 (v u:Value) (hd:a.eval d=v) (hx:a.eval x=u) {v':Value} {w':World} (hr:(Builtin.append_ #[dT,sT] o.type #[v,u]).run P w=.ok v' w') (hK:K (a.put o.dst v') w'):Oper.wp P o a w K Q:=by
 unfold Oper.wp execOp
 simp only [hop,resolve,invoke,builtin,Sem.run_bind,Sem.run_pure,Result.andThen_ok,List.map_toArray,List.map_cons,List.map_nil,hd,hx,hr]
 exact hK
def Xa (R:World→Prop) (pM pW:Nat) (ve:Value):Prop:=∀(L:List Nat) (w1 w2:World),Fr L w1 w2→(∀b∈L,b=pM∨b=pW∨ve.ownBlock=some b)→R w1→R w2
theorem Xa.go {R:World→Prop} {pM pW:Nat} {ve:Value} (h:Xa R pM pW ve) {w1 w2:World} (r:R w1) {L:List Nat} (f:Fr L w1 w2) (hs:∀b∈L,b=pM∨b=pW∨ve.ownBlock=some b:=by simp):R w2:=h L w1 w2 f hs r
theorem Zy {P:Program} {o:Oper} {a:Act} {w:World} {K:Act→World→Prop} {Q:Exit→Act→World→Prop} (t:TypeId) (x y:Operand) (hop:o.op=.store t x y) (ad:Addr) (v:Value) (hx:a.eval x=.pointer (some ad)) (hy:a.eval y=v) {w':World} (hr:(storeVar t ad v).run P w=.ok () w')
 (hK:K (a.put o.dst undef) w'):Oper.wp P o a w K Q:=by
 unfold Oper.wp execOp
 have e:(Instr.storeAt t (.pointer (some ad)) v).run P w=.ok () w':=hr
 simp only [hop,hx,hy,Sem.run_bind,Sem.run_pure,e,Result.andThen_ok]
 exact hK
theorem Zf {P:Program} {ops:Array Oper} {rest:List Oper} {o:Oper} {a:Act} {Q:Exit→Act→World→Prop} {w:World} (hgd:o.guard=none) (t:TypeId) (x y:Operand) (hop:o.op=.store t x y) (ad:Addr) (v:Value) (hx:a.eval x=.pointer (some ad)) (hy:a.eval y=v) {w':World} (hr:(storeVar t ad v).run P w=.ok () w')
 (h:wpList P ops Q rest (a.put o.dst undef) w'):wpList P ops Q (o::rest) a w:=
 wpList_plain hgd fun _ hK=>Zy t x y hop ad v hx hy hr (hK _ _ h)
theorem tkl (i:Nat) {P:Program} {ops:Array Oper} {Q:Exit→Act→World→Prop} {md:Region.Mode} {S:World→Prop} {oi:Oper} {v:Value} {fuel:Nat} {listed l':Array Bool} {a a':Act} {w:World} {t:TypeId} {x:Operand} {ad:Addr}
 (hl:∀w,S w→(loadVar t ad).run P w=.ok v w) (h:wpAnyH P md ops Q S fuel l' a' w)
 (hi:ops[i]?=some oi:=by
   simp only [List.getElem?_toArray,List.getElem?_cons_succ,List.getElem?_cons_zero]
   exact rfl)
 (hop:oi.op=.load t x:=by exact rfl) (hx:a.eval x=.pointer (some ad):=by exact rfl)
 (hs:Region.noSelect ops=true:=by kernel_rfl) (hf:Region.free md ops listed i=true:=by kernel_rfl) (hr:(Region.ready md ops listed).contains i=true:=by kernel_rfl)
 (hQ:∀c a w,Q (.panic c) (a.put oi.dst v) w→Q (.panic c) a w:=by exact fun _ _ _ h=>h)
 (hw:Region.wanted oi (yielded ops a.tmps)=true:=by rfl)
 (hS:S w:=by assumption)
 (ha:a.put oi.dst v=a':=by
   try simp only [Act.put,List.setIfInBounds_toArray,List.set_cons_zero,List.set_cons_succ]
   exact rfl)
 (hl':listed.setIfInBounds i true=l':=by
   try simp only [List.setIfInBounds_toArray,List.set_cons_zero,List.set_cons_succ]
   exact rfl):wpAnyH P md ops Q S (fuel+1) listed a w:=by
 subst ha hl'
 refine wpAnyH_take hi hs hf hr hQ (.inl ⟨hw,fun w' hw'=> ?_⟩) hS h
 have e:(Instr.loadAt t (.pointer (some ad))).run P w'=.ok v w':=hl w' hw'
 unfold execOp
 simp only [hop,hx,Sem.run_bind,Sem.run_pure,e,Result.andThen_ok]
theorem Q33 {P:Program} {w:World} {b:Nat} {L:Array Value} {tt:TypeId} {z:Nat×Nat} (t:TypeId) (h:w.heap[b]?=some (.cells L tt z)) (hi:(P.info? t).map (·.size)=some L.size:=by kernel_rfl) (hag:∀w:World,(isAgg t).run P w=.ok true w:=by intro w;simp [go_sem]):(loadVar t ⟨b,0,none⟩).run P w=.ok (.agg L) w:=by
 obtain ⟨L⟩:=L
 cases hie:P.info? t with
 |none=>rw [hie] at hi;cases hi
 |some ie=>
  rw [hie] at hi
  have hs:ie.size=L.length:=by simpa using hi
  refine Lib.rl_loadVar_cells _ ie hie hag b 0 L hs.symm w (fun k v hk=> ?_)
  rw [Nat.zero_add]
  exact cell_of h (by simpa using hk)
theorem QA.ld {P:Program} {w:World} {b n k:Nat} {f:Nat→List Value} {L:List Value} (h:QA w b n (upd f k L)) (hk:k<n) (o:Nat) (vs:List Value) (t:TypeId) (hv:(L.drop o).take vs.length=vs:=by rfl) (hi:(P.info? t).map (·.size)=some vs.length:=by kernel_rfl) (hag:∀w:World,(isAgg t).run P w=.ok true w:=by intro w;simp [go_sem]):
 (loadVar t ⟨b,k*35+o,none⟩).run P w=.ok (.agg vs.toArray) w:=by
 cases hie:P.info? t with
 |none=>rw [hie] at hi;cases hi
 |some ie=>
  rw [hie] at hi
  have hs:ie.size=vs.length:=by simpa using hi
  refine Lib.rl_loadVar_cells _ ie hie hag b (k*35+o) vs hs.symm w (fun j v hj=> ?_)
  rw [Nat.add_assoc]
  refine h.cell hk (o+j) ?_
  have hj2:=(List.getElem?_eq_some_iff.1 hj).1
  rw [←hv,List.getElem?_take,if_pos hj2,List.getElem?_drop] at hj
  exact hj
def EvV.cells (x:EvV):List Value:=[.bool x.ended,.int .i64 x.who,.int .i64 x.at_,.int .i64 x.ask.op,.int .i64 x.ask.dl,.bool x.ask.wait,.bool x.ask.force,.int .i64 x.ask.slot,.int .i64 x.ask.gen,.int .i64 x.ask.stream,.int .i64 x.e,.int .i64 x.slot,.int .i64 x.gen,.int .i64 x.stream,.int .i64 x.cI,.int .i64 x.cL,.int .i64 x.cE,.int .i64 x.cO]
def EvV.val (x:EvV):Value:=.agg x.cells.toArray
structure Ja where
 vw:Value
 vt:Value
 vq:Value
 vd:Value
def Qa.cells (k:Qa) (v:Ja):List Value:=[.int .i64 k.st,.int .i64 k.ask.op,.int .i64 k.ask.dl,.bool k.ask.wait,.bool k.ask.force,.int .i64 k.ask.slot,.int .i64 k.ask.gen,.int .i64 k.ask.stream,.bool k.half,.int .i64 k.word,.int .i64 k.grant,v.vw,v.vt,v.vq,v.vd,.bool k.parks,.bool k.timed,
 .bool k.ans.ended,.int .i64 k.ans.who,.int .i64 k.ans.at_,.int .i64 k.ans.ask.op,.int .i64 k.ans.ask.dl,.bool k.ans.ask.wait,.bool k.ans.ask.force,.int .i64 k.ans.ask.slot,.int .i64 k.ans.ask.gen,.int .i64 k.ans.ask.stream,.int .i64 k.ans.e,.int .i64 k.ans.slot,.int .i64 k.ans.gen,.int .i64 k.ans.stream,.int .i64 k.ans.cI,.int .i64 k.ans.cL,.int .i64 k.ans.cE,.int .i64 k.ans.cO]
end
section
open Go.RowKit Go.Shelf Go.Lib
attribute [local go_sem] Oper.semAt_some
variable (w:World) (pM pW pm pc pw n who:Nat) (ve:Value) (c:Q0) (ent mat:Int) (f:Nat→List Value) (k:Qa) (v:Ja)
def QB (w:World) (pM pW pm pc pw n:Nat) (ve:Value) (c:Q0) (ent mat:Int):Prop:=
 w.heap[pM]?=some (.cells #[.int .i64 c.wo,.int .i64 c.sl,.int .i64 c.st,.int .i64 c.wa,.int .i64 c.us,.pointer (some ⟨pm,0,none⟩),.pointer (some ⟨pc,0,none⟩),.pointer (some ⟨pw,0,none⟩),ve,.slice (some ⟨pW,0,none⟩) n n,.int .i64 ent,.int .i64 mat] 86 (0,0))
theorem QB.fr {w w':World} {pM pW pm pc pw n:Nat} {ve:Value} {c:Q0} {ent mat:Int} (h:QB w pM pW pm pc pw n ve c ent mat) {S:List Nat} (f:Fr S w w') (hp:pM∉S):QB w' pM pW pm pc pw n ve c ent mat:=f.at h hp
structure QT (w':World) (pM pW pm pc pw n who:Nat) (ve:Value) (c:Q0) (ent mat:Int) (f:Nat→List Value) (k:Qa) (v:Ja):Prop where
 mb:QB w' pM pW pm pc pw n ve c ent mat
 wr:QA w' pW n (upd f who (k.cells v))
abbrev tMB (pM pW pm pc pw n:Nat) (ve:Value) (c:Q0) (ent mat:Int):Th:=tR pM #[.int .i64 c.wo,.int .i64 c.sl,.int .i64 c.st,.int .i64 c.wa,.int .i64 c.us,.pointer (some ⟨pm,0,none⟩),.pointer (some ⟨pc,0,none⟩),.pointer (some ⟨pw,0,none⟩),ve,.slice (some ⟨pW,0,none⟩) n n,.int .i64 ent,.int .i64 mat] 86
abbrev tWo (o:Bool) (pW n:Nat) (f:Nat→List Value) (who:Nat) (C:List Value):Th:=⟨o,[pW],fun w=>QA w pW n (upd f who C),fun g h k=>k.fr g (h _ (by simp))⟩
abbrev tW (pW n:Nat) (f:Nat→List Value) (who:Nat) (C:List Value):Th:=tWo true pW n f who C
section
variable {S0:List Nat} {w0 w:World} {L L':List Th} {pW n who:Nat} {f:Nat→List Value} {C C':List Value}
theorem Bag.wq (B:Bag S0 w0 L w) (i:Nat) {o:Bool} (hk:who<n) (h:gt L i=tWo o pW n f who C:=by exact rfl):∀j,j<35→w.cell? ⟨pW,who*35+j,none⟩=C[j]?:=fun j hj=>by
 have k:=B.g i
 rw [h] at k
 have hl:C.length=35:=by
  obtain ⟨_,_,_,h3⟩:=k
  have:=(h3 who hk).1
  unfold upd at this
  rwa [if_pos rfl] at this
 have e:C[j]?=some C[j]:=List.getElem?_eq_getElem (by omega)
 rw [e]
 exact QA.cell k hk j e
theorem Bag.wq0 (B:Bag S0 w0 L w) (i:Nat) {o:Bool} (hk:who<n) (h:gt L i=tWo o pW n f who C:=by exact rfl):w.cell? ⟨pW,who*35,none⟩=C[0]?:=B.wq i hk h 0 (by decide)
theorem Bag.wu (B:Bag S0 w0 L w) (i:Nat) {o:Bool} (h:gt L i=tWo o pW n f who C:=by exact rfl):∀j,w.frozen? ⟨pW,j,none⟩=false:=fun j=>by
 have k:=B.g i
 rw [h] at k
 exact QA.frozen k j
theorem Bag.ws (B:Bag S0 w0 L w) (i:Nat) (hk:who<n) {j:Nat} {v:Value} (h:gt L i=tW pW n f who C:=by exact rfl) (hj:j<35:=by decide) (hC:C.set j v=C':=by simp only [List.set_cons_zero,List.set_cons_succ];exact rfl)
 (hi:i<L.length:=by exact Nat.lt_of_sub_ne_zero (by intro h;cases h)) (hL:L.set i (tW pW n f who C')=L':=by (try simp only [List.set_cons_zero,List.set_cons_succ]);exact rfl):Bag S0 w0 L' (w.setCell ⟨pW,who*35+j,none⟩ v):=by
 have k:=B.g i
 rw [h] at k
 exact B.up i (T':=tW pW n f who C') (hC▸QA.set k hk j hj v) ((Fr.refl [pW] w).sc pW _ v) (by rw [h]) (by rw [h]) (by rw [h]) hi hL
theorem Bag.ws0 (B:Bag S0 w0 L w) (i:Nat) (hk:who<n) {v:Value} (h:gt L i=tW pW n f who C:=by exact rfl) (hC:C.set 0 v=C':=by simp only [List.set_cons_zero];exact rfl)
 (hi:i<L.length:=by exact Nat.lt_of_sub_ne_zero (by intro h;cases h)) (hL:L.set i (tW pW n f who C')=L':=by (try simp only [List.set_cons_zero,List.set_cons_succ]);exact rfl):Bag S0 w0 L' (w.setCell ⟨pW,who*35,none⟩ v):=B.ws i hk (j:=0) h (by decide) hC hi hL
end
theorem Bag.wst {S0:List Nat} {w0 w:World} {L L':List Th} {pW n who:Nat} {f:Nat→List Value} {C C':List Value} (P:Program) (B:Bag S0 w0 L w) (i:Nat) (hk:who<n) (o:Nat) (vs:List Value) (t:TypeId) (h:gt L i=tW pW n f who C:=by exact rfl) (ht:(P.info? t).map (·.size)=some vs.length:=by kernel_rfl) (hfit:o+vs.length≤35:=by first|decide|(simp only [EvV.cells,Qa.cells,List.length_cons,List.length_nil];decide)) (h1:∀v∈vs,v.oneCell'=true:=by simp [Value.oneCell',EvV.cells,Qa.cells])
 (hC:C.take o++vs++C.drop (o+vs.length)=C':=by exact rfl) (hi:i<L.length:=by exact Nat.lt_of_sub_ne_zero (by intro h;cases h)) (hL:L.set i (tW pW n f who C')=L':=by (try simp only [List.set_cons_zero,List.set_cons_succ]);exact rfl):
 ∃w',(storeVar t ⟨pW,who*35+o,none⟩ (.agg vs.toArray)).run P w=.ok () w'∧Bag S0 w0 L' w':=by
 have k:=B.g i
 rw [h] at k
 obtain ⟨w',hr,hw,fs⟩:=QA.sto (P:=P) k hk o vs t ht hfit h1
 exact ⟨w',hr,B.up i (T':=tW pW n f who C') (hC▸hw) fs (by rw [h]) (by rw [h]) (by rw [h]) hi hL⟩
theorem tl (i:Nat) {V:Type} {S0:List Nat} {w0:World} {F:V→List Th} {P:Program} {ops:Array Oper} {Q:Exit→Act→World→Prop} {md:Region.Mode} {oi:Oper} {v:Value} {fuel:Nat} {listed l':Array Bool} {a a':Act} {w:World} {t:TypeId} {x:Operand} {ad:Addr}
 (hl:∀w v',Bag S0 w0 (F v') w→(loadVar t ad).run P w=.ok v w) (h:wpAnyH P md ops Q (SB S0 w0 F) fuel l' a' w)
 (hi:ops[i]?=some oi:=by
   simp only [List.getElem?_toArray,List.getElem?_cons_succ,List.getElem?_cons_zero]
   exact rfl)
 (hop:oi.op=.load t x:=by exact rfl) (hx:a.eval x=.pointer (some ad):=by exact rfl)
 (hs:Region.noSelect ops=true:=by kernel_rfl) (hf:Region.free md ops listed i=true:=by kernel_rfl) (hr:(Region.ready md ops listed).contains i=true:=by kernel_rfl)
 (hQ:∀c a w,Q (.panic c) (a.put oi.dst v) w→Q (.panic c) a w:=by exact fun _ _ _ h=>h)
 (hw:Region.wanted oi (yielded ops a.tmps)=true:=by rfl)
 (hS:SB S0 w0 F w:=by first|exact ⟨(),B⟩|exact ⟨_,B⟩|exact ⟨(),B.pre⟩|exact ⟨_,B.pre⟩|exact ⟨(),B.sel [0,2]⟩)
 (ha:a.put oi.dst v=a':=by
   try simp only [Act.put,List.setIfInBounds_toArray,List.set_cons_zero,List.set_cons_succ]
   exact rfl)
 (hl':listed.setIfInBounds i true=l':=by
   try simp only [List.setIfInBounds_toArray,List.set_cons_zero,List.set_cons_succ]
   exact rfl):wpAnyH P md ops Q (SB S0 w0 F) (fuel+1) listed a w:=tkl i (fun w ⟨v,B⟩=>hl w v B) h hi hop hx hs hf hr hQ hw hS ha hl'
theorem Zn {w:World} {pM pW pm pc pw n who:Nat} {ve:Value} {c:Q0} {ent mat:Int} {f:Nat→List Value} {k:Qa} {v:Ja} (hMB:QB w pM pW pm pc pw n ve c ent mat) (hW:QA w pW n (upd f who (k.cells v))) (hne:pM≠pW):Bag [pW] w [⟨false,[pM],fun w=>QB w pM pW pm pc pw n ve c ent mat,fun f h k=>k.fr f (h _ (by simp))⟩,tW pW n f who (k.cells v)] w:=by
 have h1:=Q6 hMB;have h2:=hW.lt
 refine Bag.of ?_ (by simp;omega) (by simp;omega) ?_
 · simp only [List.forall_mem_cons];exact ⟨hMB,hW,by simp⟩
 · intro T hT ho x hx
   simp only [List.mem_cons,List.not_mem_nil,or_false] at hT
   rcases hT with rfl|rfl
   · cases ho
   · simpa using hx
theorem rgci {S0:List Nat} {w0 w:World} {L:List Th} (i k:Nat) (is:List Nat) {F:Value→List Th} {P:Program} {ops:Array Oper} {Q:Exit→Act→World→Prop} {id:Nat} {a:Act} {b:Nat} {A:Array Value} {t:TypeId} (B:Bag S0 w0 L w) (h:∀w',Bag S0 w0 L w'→wpAnyH P .any ops Q (SB S0 w0 F) ops.size (Array.replicate ops.size false) a w')
 (hT:gt L i=tR b A t:=by exact rfl) (hF:∀v,is.map (gt (L.set i (tR b (A.setIfInBounds k v) t)))=F v:=by intro v;simp only [List.setIfInBounds_toArray,List.set_cons_zero,List.set_cons_succ,List.map_cons,List.map_nil,gt,List.getD_cons_zero,List.getD_cons_succ];exact rfl)
 (hn:is.Nodup:=by decide) (hm:P.follows .mixedOrders=true:=by kernel_rfl):(Code.region id ops true).wp P Q a w:=by
 refine wp_region_held_drew hm ⟨A.getD k undef, ?_⟩ (fun _=>h _ B.drew)
 rw [←hF,set_self]
 have e:L.set i (tR b A t)=L:=by
  rw [←hT]
  by_cases h:i<L.length
  · simp [gt,List.getD_eq_getElem?_getD,h]
  · rw [List.set_eq_of_length_le (by omega)]
 rw [e]
 exact B.drew.sel is hn rfl
theorem rgw (i k:Nat) {S0:List Nat} {w0 w:World} {L:List Th} {F:Value→List Th} {P:Program} {ops:Array Oper} {Q:Exit→Act→World→Prop} {id:Nat} {a:Act} {pW n who:Nat} {f:Nat→List Value} {C:List Value} (B:Bag S0 w0 L w) (h:∀w',Bag S0 w0 L w'→wpAnyH P .any ops Q (SB S0 w0 F) ops.size (Array.replicate ops.size false) a w')
 (hT:gt L i=tW pW n f who C:=by exact rfl) (hF:∀v,L.set i (tW pW n f who (C.set k v))=F v:=by intro v;simp only [List.set_cons_zero,List.set_cons_succ];exact rfl)
 (hS:SB S0 w0 F w.drew:=by exact ⟨_,B.drew⟩) (hm:P.follows .mixedOrders=true:=by kernel_rfl):(Code.region id ops true).wp P Q a w:=wp_region_held_drew hm hS (fun _=>h _ B.drew)
theorem mbag0 {w:World} {pM pW pm pc pw n who:Nat} {ve:Value} {c:Q0} {ent mat:Int} {f:Nat→List Value} {k:Qa} {v:Ja} (hMB:QB w pM pW pm pc pw n ve c ent mat) (hW:QA w pW n (upd f who (k.cells v))) (hne:pM≠pW):Bag [] w [tRo false pM #[.int .i64 c.wo,.int .i64 c.sl,.int .i64 c.st,.int .i64 c.wa,.int .i64 c.us,.pointer (some ⟨pm,0,none⟩),.pointer (some ⟨pc,0,none⟩),.pointer (some ⟨pw,0,none⟩),ve,.slice (some ⟨pW,0,none⟩) n n,.int .i64 ent,.int .i64 mat] 86,tWo false pW n f who (k.cells v)] w:=(Zn hMB hW hne).look [0,1]
abbrev tYb (p:Nat) (c:Q0) (t:Qh):Th:=⟨true,[p],fun w=>Jq w p none none c t,fun f h k=>k.fr f (h _ (by simp))⟩
theorem GV (hMB:QB w pM pW pm pc pw n ve c ent mat) (hW:QA w pW n (upd f who (k.cells v))) (hk:who<n) (hne:pM≠pW) (parks:Bool):
 Calls Tryz.prog 84 #[.pointer (some ⟨pM,0,none⟩),.int .i64 who,.bool parks] w fun e w'=>e=.returned (.tuple #[])∧∃p,w.heap.size≤p∧Jq w' p none none c (QG who)∧QT w' pM pW pm pc pw n who ve c ent mat f (k.QU who parks) {v with vd:=.pointer (some ⟨p,0,none⟩)}∧Fr [pW] w w':=by
 have HY:=hid fun w'=>Q5Z w' c who
 have B:Bag [pW] w [tRo false pM _ _,tW pW n f who _] w:=Zn hMB hW hne
 dsimp only [Qa.cells] at B
 clear hMB hW hne
 have m:=B.q 0
 go_in
 go_wp2_with fail
 refine (HY.out _).mono ?_
 rintro e w1 ⟨p,rfl,hp,ht,f1⟩
 replace B:=B.nw (T':=tYb p c (QG who)) ht f1 (fun x hx=>by simp at hx;subst hx;exact ⟨hp,Q6 ht⟩)
 clear m
 have q:=B.wq 1 hk;have q0:=B.wq0 1 hk;have u:=B.wu 1
 go_wp2_with fail
 clear q q0 u
 generalize hw:World.setCell _ _ _=w2
 replace B:=(((B.ws 1 hk).ws 1 hk).ws0 1 hk).e hw
 go_end0
 exact ⟨rfl,p,hp,B.g 2,⟨B.g 0,B.g 1⟩,B.fr⟩
theorem Z4 (hMB:QB w pM pW pm pc pw n ve c ent mat) (hW:QA w pW n (upd f who (k.cells v))) (hk:who<n) (hne:pM≠pW) (x:EvV):
 Calls Tryz.prog 81 #[.pointer (some ⟨pM,0,none⟩),.int .i64 who,x.val] w fun e w'=>e=.returned (.tuple #[])∧∃p,w.heap.size≤p∧Jq w' p none none c (QG who)∧QT w' pM pW pm pc pw n who ve c ent mat f (k.end_ who x) {v with vd:=.pointer (some ⟨p,0,none⟩)}∧Fr [pW] w w':=by
 have HU:=hid fun w' k' h1 h2=>GV w' pM pW pm pc pw n who ve c ent mat f k' v h1 h2 hk hne false
 have B:Bag [pW] w [tRo false pM _ _,tW pW n f who _] w:=Zn hMB hW hne
 dsimp only [Qa.cells] at B
 clear hMB hW hne
 dsimp only [EvV.val,EvV.cells]
 have m:=B.qa 0
 go_in
 go_wp2_with fail
 generalize hb:(World.heap _).size=b,hw:World.alloc _ _=w1
 replace B:=B.al hw hb
 clear m hw hb
 refine rgx [0,2] B fun _ B=> ?_
 iterate 5 refine tb ?_
 refine tl 5 (fun w' v' B=>Q33 50 (B.g 1)) ?_
 refine tj 6 ?_
 refine tj 7 ?_
 refine tc 8 fun K hK=> ?_
 obtain ⟨w3,hrun,B3⟩:=B.wst Tryz.prog 1 hk 17 x.cells 50
 refine Zy _ _ _ rfl _ _ rfl rfl hrun ?_
 replace B:=B3
 refine bk hK ?_
 clear hK K
 try go_frame
 refine wpAnyH_done (by decide+kernel) ?_ _
 go_wp2_with fail
 refine (HU.out _ {k with ans:=x} (B.g 0) (B.g 1)).mono ?_
 rintro e w9 ⟨rfl,p,hp,ht,hmp,f9⟩
 go_wp2_with fail
 go_end0
 exact ⟨rfl,p,Nat.le_trans B.fr.size hp,ht,hmp,B.fr.then f9 (by simp)⟩
end
end Go.Proofs.YtgjklfmnmljilaaGreatDoor

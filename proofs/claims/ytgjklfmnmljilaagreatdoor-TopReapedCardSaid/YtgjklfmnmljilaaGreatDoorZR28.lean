/- A part of the proof. -/
import Derived.Test.YtgjklfmnmljilaaGreatDoorZR27
namespace Go.Proofs.YtgjklfmnmljilaaGreatDoor
set_option linter.unusedVariables false
set_option linter.unusedSimpArgs false
set_option linter.unusedSectionVars false
set_option linter.unnecessarySimpa false
set_option maxRecDepth 100000
set_option maxHeartbeats 8000000
section
open Go.RowKit Go.Shelf Go.Lib
attribute [local go_sem] Oper.semAt_some
def QL (w:World) (b n:Nat) (f:Nat→List Value):Prop:=∃W:Array Value,w.heap[b]?=some (.cells W 80 (0,0))∧W.size=n*35∧∀k,k<n→(f k).length=35∧∀(j:Nat) (u:Value),(f k)[j]?=some u→W[k*35+j]?=some u
def upd (f:Nat→List Value) (k:Nat) (L:List Value):Nat→List Value:=fun i=>if i=k then L else f i
theorem Q5S (f:Nat→List Value) (k:Nat):upd f k (f k)=f:=by funext i;unfold upd;split<;>simp_all
theorem QL.cell {w:World} {b n k:Nat} {f:Nat→List Value} {L:List Value} (h:QL w b n (upd f k L)) (hk:k<n) (j:Nat) {u:Value}
 (hu:L[j]?=some u:=by
   simp only [List.getElem?_cons_succ,List.getElem?_cons_zero]
   exact rfl):w.cell? ⟨b,k*35+j,none⟩=some u:=by
 obtain ⟨W,h1,h2,h3⟩:=h
 have h4:=(h3 k hk).2 j u (by unfold upd;rw [if_pos rfl];exact hu)
 exact cell_of h1 h4
theorem QL.frozen {w:World} {b n:Nat} {f:Nat→List Value} (h:QL w b n f) (i:Nat):w.frozen? ⟨b,i,none⟩=false:=by
 obtain ⟨W,h1,h2,h3⟩:=h
 exact Qb h1
theorem QL.fr {w w':World} {b n:Nat} {f:Nat→List Value} (h:QL w b n f) {S:List Nat} (g:Fr S w w') (hb:b∉S):QL w' b n f:=by
 obtain ⟨W,h1,h2⟩:=h
 exact ⟨W,g.at h1 hb,h2⟩
theorem QL.lt {w:World} {b n:Nat} {f:Nat→List Value} (h:QL w b n f):b<w.heap.size:=by
 obtain ⟨W,h1,h2⟩:=h
 exact Q9 h1
theorem QL.set {w:World} {b n k:Nat} {f:Nat→List Value} {L:List Value} (h:QL w b n (upd f k L)) (hk:k<n) (j:Nat) (hj:j<35) (v:Value):QL (w.setCell ⟨b,k*35+j,none⟩ v) b n (upd f k (L.set j v)):=by
 obtain ⟨W,h1,h2,h3⟩:=h
 refine ⟨_,heap_setCell_same (i:=k*35+j) h1 v,by simpa using h2,fun i hi=> ?_⟩
 have hl:=(h3 k hk).1
 unfold upd at hl
 rw [if_pos rfl] at hl
 by_cases hik:i=k
 · subst hik
   unfold upd
   rw [if_pos rfl]
   refine ⟨by simpa using hl,fun m u hm=> ?_⟩
   by_cases hmj:m=j
   · subst hmj
     rw [List.getElem?_set_self Lb] at hm
     rw [Array.getElem?_setIfInBounds_self_of_lt Lb]
     exact hm
   · rw [List.getElem?_set_ne (fun e=>hmj e.symm)] at hm
     rw [Array.getElem?_setIfInBounds_ne Lb]
     exact (h3 i hi).2 m u (by unfold upd;rw [if_pos rfl];exact hm)
 · have h4:=h3 i hi
   unfold upd at h4 ⊢
   rw [if_neg hik] at h4 ⊢
   refine ⟨h4.1,fun m u hm=> ?_⟩
   have hm35:m<35:=by rw [←h4.1];exact (List.getElem?_eq_some_iff.1 hm).1
   rw [Array.getElem?_setIfInBounds_ne Lb]
   exact h4.2 m u hm
theorem ZW {P:Program} (t:TypeId) (g o:Nat) (vs:List Value) (tt:TypeId) (cur:Array Value) (w:World) (ht:(P.info? t).map (·.size)=some vs.length) (hg:w.heap[g]?=some (.cells cur tt (0,0))) (hfit:o+vs.length≤cur.size)
 (h1:∀v∈vs,v.oneCell'=true):(storeVar t ⟨g,o,none⟩ (.agg vs.toArray)).run P w=.ok () (w.setRow g (cur.toList.take o++vs++cur.toList.drop (o+vs.length)).toArray):=by
 have h:=run_storeCells_at P g o tt vs 0 cur w hg (by simpa using hfit) h1
 simp only [Nat.add_zero] at h
 cases hi:P.info? t with
 |none=>rw [hi] at ht;cases ht
 |some i=>
  rw [hi] at ht
  have hs:i.size=vs.length:=by simpa using ht
  simp [storeVar,sizeOf,typeInfo,hi,hs,Value.cells,h]
theorem QL.sto {P:Program} {w:World} {b n k:Nat} {f:Nat→List Value} {L:List Value} (h:QL w b n (upd f k L)) (hk:k<n) (o:Nat) (vs:List Value) (t:TypeId) (ht:(P.info? t).map (·.size)=some vs.length) (hfit:o+vs.length≤35) (h1:∀v∈vs,v.oneCell'=true):
 ∃w',(storeVar t ⟨b,k*35+o,none⟩ (.agg vs.toArray)).run P w=.ok () w'∧QL w' b n (upd f k (L.take o++vs++L.drop (o+vs.length)))∧Fr [b] w w':=by
 obtain ⟨W,hg,h2,h3⟩:=h
 have hl:=(h3 k hk).1
 unfold upd at hl
 rw [if_pos rfl] at hl
 have hkn:k*35+35≤n*35:=Lb
 have e0:(W.toList.take (k*35+o)).length=k*35+o:=by rw [List.length_take,Array.length_toList];omega
 refine ⟨_,ZW t b (k*35+o) vs _ W w ht hg Lb h1,⟨_,setRow_heap w b W _ _ _ hg, ?_,fun i hi=> ?_⟩,(Fr.refl [b] w).setRow' Lc _⟩
 · simp;omega
 · have ho:(L.take o).length=o:=by rw [List.length_take];omega
   by_cases hik:i=k
   · subst hik
     unfold upd
     rw [if_pos rfl]
     refine ⟨by simp;omega,fun m u hm=> ?_⟩
     rw [List.getElem?_toArray,List.append_assoc]
     rw [List.append_assoc] at hm
     rcases Nat.lt_or_ge m o with hmo|hmo
     · rw [List.getElem?_append_left Lb,List.getElem?_take,if_pos hmo] at hm
       rw [List.getElem?_append_left Lb,List.getElem?_take,if_pos Lb,Array.getElem?_toList]
       exact (h3 i hi).2 m u (by unfold upd;rw [if_pos rfl];exact hm)
     · rw [List.getElem?_append_right Lb,ho] at hm
       rw [List.getElem?_append_right Lb,e0,show i*35+m - (i*35+o)=m - o by omega]
       rcases Nat.lt_or_ge (m - o) vs.length with hmv|hmv
       · rw [List.getElem?_append_left hmv] at hm ⊢;exact hm
       · rw [List.getElem?_append_right hmv,List.getElem?_drop] at hm ⊢
         rw [Array.getElem?_toList,show i*35+o+vs.length+(m - o - vs.length)=i*35+m by omega]
         exact (h3 i hi).2 m u (by unfold upd;rw [if_pos rfl];rw [←hm];congr 1;omega)
   · have h4:=h3 i hi
     unfold upd at h4 ⊢
     rw [if_neg hik] at h4 ⊢
     refine ⟨h4.1,fun m u hm=> ?_⟩
     have hm35:m<35:=by rw [←h4.1];exact (List.getElem?_eq_some_iff.1 hm).1
     have h5:=h4.2 m u hm
     rw [List.getElem?_toArray,List.append_assoc]
     rcases Nat.lt_or_ge i k with hlt|hge
     · rw [List.getElem?_append_left Lb,List.getElem?_take,if_pos Lb,Array.getElem?_toList];exact h5
     · rw [List.getElem?_append_right Lb,e0,List.getElem?_append_right Lb,List.getElem?_drop,Array.getElem?_toList,show k*35+o+vs.length+(i*35+m - (k*35+o) - vs.length)=i*35+m by omega];exact h5
theorem QL.sto0 {P:Program} {w:World} {b n k:Nat} {f:Nat→List Value} {L:List Value} (h:QL w b n (upd f k L)) (hk:k<n) (vs:List Value) (t:TypeId) (ht:(P.info? t).map (·.size)=some vs.length) (hfit:vs.length=35) (h1:∀v∈vs,v.oneCell'=true) (hL:L.length=35):
 ∃w',(storeVar t ⟨b,k*35,none⟩ (.agg vs.toArray)).run P w=.ok () w'∧QL w' b n (upd f k vs)∧Fr [b] w w':=by
 have h2:=h.sto (P:=P) hk 0 vs t ht Lb h1
 rw [Nat.add_zero,List.take_zero,List.nil_append,Nat.zero_add,List.drop_of_length_le Lb,List.append_nil] at h2
 exact h2
theorem Yd {P:Program} {w:World} {b:Nat} {cur:Array Value} {tt:TypeId} (h:w.heap[b]?=some (.cells cur tt (0,0))) (vs:List Value) (t:TypeId) (ht:(P.info? t).map (·.size)=some vs.length) (hs:vs.length=cur.size) (h1:∀v∈vs,v.oneCell'=true):
 ∃w',(storeVar t ⟨b,0,none⟩ (.agg vs.toArray)).run P w=.ok () w'∧w'.heap[b]?=some (.cells vs.toArray tt (0,0))∧Fr [b] w w':=by
 have hr:=ZW t b 0 vs tt cur w ht h Lb h1
 rw [Nat.zero_add,List.take_zero,List.nil_append,List.drop_of_length_le (by rw [Array.length_toList];omega),List.append_nil] at hr
 exact ⟨_,hr,setRow_heap w b cur _ _ _ h,(Fr.refl [b] w).setRow' Lc _⟩
theorem Vq {P:Program} {o:Oper} {a:Act} {w:World} {K:Act→World→Prop} {Q:Exit→Act→World→Prop} (d x:Operand) (dT sT:TypeId) (hop:o.op=Op.call {callee:=Callee.builtin Builtin.append,args:=#[d,x],argTypes:=#[dT,sT]})
 (v u:Value) (hd:a.eval d=v) (hx:a.eval x=u) {v':Value} {w':World} (hr:(Builtin.append_ #[dT,sT] o.type #[v,u]).run P w=.ok v' w') (hK:K (a.put o.dst v') w'):Oper.wp P o a w K Q:=by
 unfold Oper.wp execOp
 simp only [hop,resolve,invoke,builtin,Sem.run_bind,Sem.run_pure,Result.andThen_ok,List.map_toArray,List.map_cons,List.map_nil,hd,hx,hr]
 exact hK
def Xe (R:World→Prop) (pM pW:Nat) (ve:Value):Prop:=∀(L:List Nat) (w1 w2:World),Fr L w1 w2→(∀b∈L,b=pM∨b=pW∨ve.ownBlock=some b)→R w1→R w2
theorem Xe.go {R:World→Prop} {pM pW:Nat} {ve:Value} (h:Xe R pM pW ve) {w1 w2:World} (r:R w1) {L:List Nat} (f:Fr L w1 w2) (hs:∀b∈L,b=pM∨b=pW∨ve.ownBlock=some b:=by simp):R w2:=h L w1 w2 f hs r
theorem Yp {P:Program} {o:Oper} {a:Act} {w:World} {K:Act→World→Prop} {Q:Exit→Act→World→Prop} (t:TypeId) (x y:Operand) (hop:o.op=.store t x y) (ad:Addr) (v:Value) (hx:a.eval x=.pointer (some ad)) (hy:a.eval y=v) {w':World} (hr:(storeVar t ad v).run P w=.ok () w')
 (hK:K (a.put o.dst undef) w'):Oper.wp P o a w K Q:=by
 unfold Oper.wp execOp
 have e:(Instr.storeAt t (.pointer (some ad)) v).run P w=.ok () w':=hr
 simp only [hop,hx,hy,Sem.run_bind,Sem.run_pure,e,Result.andThen_ok]
 exact hK
theorem X8 {P:Program} {ops:Array Oper} {rest:List Oper} {o:Oper} {a:Act} {Q:Exit→Act→World→Prop} {w:World} (hgd:o.guard=none) (t:TypeId) (x y:Operand) (hop:o.op=.store t x y) (ad:Addr) (v:Value) (hx:a.eval x=.pointer (some ad)) (hy:a.eval y=v) {w':World} (hr:(storeVar t ad v).run P w=.ok () w')
 (h:wpList P ops Q rest (a.put o.dst undef) w'):wpList P ops Q (o::rest) a w:=
 wpList_plain hgd fun _ hK=>Yp t x y hop ad v hx hy hr (hK _ _ h)
theorem tkl (i:Nat) {P:Program} {ops:Array Oper} {Q:Exit→Act→World→Prop} {md:Region.Mode} {S:World→Prop} {oi:Oper} {v:Value} {fuel:Nat} {listed l':Array Bool} {a a':Act} {w:World} {t:TypeId} {x:Operand} {ad:Addr}
 (hl:∀w,S w→(loadVar t ad).run P w=.ok v w) (h:wpAnyH P md ops Q S fuel l' a' w)
 (hi:ops[i]?=some oi:=by
   simp only [List.getElem?_toArray,List.getElem?_cons_succ,List.getElem?_cons_zero]
   exact rfl)
 (hop:oi.op=.load t x:=by exact rfl) (hx:a.eval x=.pointer (some ad):=by exact rfl)
 (hs:Region.noSelect ops=true:=by kernel_rfl) (hf:Region.free md ops listed i=true:=by kernel_rfl) (hr:(Region.ready md ops listed).contains i=true:=by kernel_rfl)
 (hQ:∀c a w,Q (.panic c) (a.put oi.dst v) w→Q (.panic c) a w:=by exact fun _ _ _ h=>h)
 (hw:Region.wanted oi (yielded ops a.tmps)=true:=by rfl)
 (hS:S w:=by assumption)
 (ha:a.put oi.dst v=a':=by
   try simp only [Act.put,List.setIfInBounds_toArray,List.set_cons_zero,List.set_cons_succ]
   exact rfl)
 (hl':listed.setIfInBounds i true=l':=by
   try simp only [List.setIfInBounds_toArray,List.set_cons_zero,List.set_cons_succ]
   exact rfl):wpAnyH P md ops Q S (fuel+1) listed a w:=by
 subst ha hl'
 refine wpAnyH_take hi hs hf hr hQ (.inl ⟨hw,fun w' hw'=> ?_⟩) hS h
 have e:(Instr.loadAt t (.pointer (some ad))).run P w'=.ok v w':=hl w' hw'
 unfold execOp
 simp only [hop,hx,Sem.run_bind,Sem.run_pure,e,Result.andThen_ok]
theorem Um {P:Program} {w:World} {b:Nat} {L:Array Value} {tt:TypeId} {z:Nat×Nat} (t:TypeId) (h:w.heap[b]?=some (.cells L tt z)) (hi:(P.info? t).map (·.size)=some L.size:=by kernel_rfl) (hag:∀w:World,(isAgg t).run P w=.ok true w:=by intro w;simp [go_sem]):(loadVar t ⟨b,0,none⟩).run P w=.ok (.agg L) w:=by
 obtain ⟨L⟩:=L
 cases hie:P.info? t with
 |none=>rw [hie] at hi;cases hi
 |some ie=>
  rw [hie] at hi
  have hs:ie.size=L.length:=by simpa using hi
  refine Lib.rl_loadVar_cells _ ie hie hag b 0 L hs.symm w (fun k v hk=> ?_)
  rw [Nat.zero_add]
  exact cell_of h (by simpa using hk)
theorem QL.ld {P:Program} {w:World} {b n k:Nat} {f:Nat→List Value} {L:List Value} (h:QL w b n (upd f k L)) (hk:k<n) (o:Nat) (vs:List Value) (t:TypeId) (hv:(L.drop o).take vs.length=vs:=by rfl) (hi:(P.info? t).map (·.size)=some vs.length:=by kernel_rfl) (hag:∀w:World,(isAgg t).run P w=.ok true w:=by intro w;simp [go_sem]):
 (loadVar t ⟨b,k*35+o,none⟩).run P w=.ok (.agg vs.toArray) w:=by
 cases hie:P.info? t with
 |none=>rw [hie] at hi;cases hi
 |some ie=>
  rw [hie] at hi
  have hs:ie.size=vs.length:=by simpa using hi
  refine Lib.rl_loadVar_cells _ ie hie hag b (k*35+o) vs hs.symm w (fun j v hj=> ?_)
  rw [Nat.add_assoc]
  refine h.cell hk (o+j) ?_
  have hj2:=(List.getElem?_eq_some_iff.1 hj).1
  rw [←hv,List.getElem?_take,if_pos hj2,List.getElem?_drop] at hj
  exact hj
def EvV.cells (x:EvV):List Value:=[.bool x.ended,.int .i64 x.who,.int .i64 x.at_,.int .i64 x.ask.op,.int .i64 x.ask.dl,.bool x.ask.wait,.bool x.ask.force,.int .i64 x.ask.slot,.int .i64 x.ask.gen,.int .i64 x.ask.stream,.int .i64 x.e,.int .i64 x.slot,.int .i64 x.gen,.int .i64 x.stream,.int .i64 x.cI,.int .i64 x.cL,.int .i64 x.cE,.int .i64 x.cO]
def EvV.val (x:EvV):Value:=.agg x.cells.toArray
structure Je where
 vw:Value
 vt:Value
 vq:Value
 vd:Value
def Q8.cells (k:Q8) (v:Je):List Value:=[.int .i64 k.st,.int .i64 k.ask.op,.int .i64 k.ask.dl,.bool k.ask.wait,.bool k.ask.force,.int .i64 k.ask.slot,.int .i64 k.ask.gen,.int .i64 k.ask.stream,.bool k.half,.int .i64 k.word,.int .i64 k.grant,v.vw,v.vt,v.vq,v.vd,.bool k.parks,.bool k.timed,
 .bool k.ans.ended,.int .i64 k.ans.who,.int .i64 k.ans.at_,.int .i64 k.ans.ask.op,.int .i64 k.ans.ask.dl,.bool k.ans.ask.wait,.bool k.ans.ask.force,.int .i64 k.ans.ask.slot,.int .i64 k.ans.ask.gen,.int .i64 k.ans.ask.stream,.int .i64 k.ans.e,.int .i64 k.ans.slot,.int .i64 k.ans.gen,.int .i64 k.ans.stream,.int .i64 k.ans.cI,.int .i64 k.ans.cL,.int .i64 k.ans.cE,.int .i64 k.ans.cO]
end
section
open Go.RowKit Go.Shelf Go.Lib
attribute [local go_sem] Oper.semAt_some
variable (w:World) (pM pW pm pc pw n who:Nat) (ve:Value) (c:Q0) (ent mat:Int) (f:Nat→List Value) (k:Q8) (v:Je)
def QG (w:World) (pM pW pm pc pw n:Nat) (ve:Value) (c:Q0) (ent mat:Int):Prop:=
 w.heap[pM]?=some (.cells #[.int .i64 c.wo,.int .i64 c.sl,.int .i64 c.st,.int .i64 c.wa,.int .i64 c.us,.pointer (some ⟨pm,0,none⟩),.pointer (some ⟨pc,0,none⟩),.pointer (some ⟨pw,0,none⟩),ve,.slice (some ⟨pW,0,none⟩) n n,.int .i64 ent,.int .i64 mat] 86 (0,0))
theorem QG.fr {w w':World} {pM pW pm pc pw n:Nat} {ve:Value} {c:Q0} {ent mat:Int} (h:QG w pM pW pm pc pw n ve c ent mat) {S:List Nat} (f:Fr S w w') (hp:pM∉S):QG w' pM pW pm pc pw n ve c ent mat:=f.at h hp
structure QZ (w':World) (pM pW pm pc pw n who:Nat) (ve:Value) (c:Q0) (ent mat:Int) (f:Nat→List Value) (k:Q8) (v:Je):Prop where
 mb:QG w' pM pW pm pc pw n ve c ent mat
 wr:QL w' pW n (upd f who (k.cells v))
abbrev tMB (pM pW pm pc pw n:Nat) (ve:Value) (c:Q0) (ent mat:Int):Th:=tR pM #[.int .i64 c.wo,.int .i64 c.sl,.int .i64 c.st,.int .i64 c.wa,.int .i64 c.us,.pointer (some ⟨pm,0,none⟩),.pointer (some ⟨pc,0,none⟩),.pointer (some ⟨pw,0,none⟩),ve,.slice (some ⟨pW,0,none⟩) n n,.int .i64 ent,.int .i64 mat] 86
abbrev tWo (o:Bool) (pW n:Nat) (f:Nat→List Value) (who:Nat) (C:List Value):Th:=⟨o,[pW],fun w=>QL w pW n (upd f who C),fun g h k=>k.fr g (h _ Lc)⟩
abbrev tW (pW n:Nat) (f:Nat→List Value) (who:Nat) (C:List Value):Th:=tWo true pW n f who C
section
variable {S0:List Nat} {w0 w:World} {L L':List Th} {pW n who:Nat} {f:Nat→List Value} {C C':List Value}
theorem Bag.wq (B:Bag S0 w0 L w) (i:Nat) {o:Bool} (hk:who<n) (h:gt L i=tWo o pW n f who C:=by exact rfl):∀j,j<35→w.cell? ⟨pW,who*35+j,none⟩=C[j]?:=fun j hj=>by
 have k:=B.g i
 rw [h] at k
 have hl:C.length=35:=by
  obtain ⟨_,_,_,h3⟩:=k
  have:=(h3 who hk).1
  unfold upd at this
  rwa [if_pos rfl] at this
 have e:C[j]?=some C[j]:=List.getElem?_eq_getElem Lb
 rw [e]
 exact QL.cell k hk j e
theorem Bag.wq0 (B:Bag S0 w0 L w) (i:Nat) {o:Bool} (hk:who<n) (h:gt L i=tWo o pW n f who C:=by exact rfl):w.cell? ⟨pW,who*35,none⟩=C[0]?:=B.wq i hk h 0 (by decide)
theorem Bag.wu (B:Bag S0 w0 L w) (i:Nat) {o:Bool} (h:gt L i=tWo o pW n f who C:=by exact rfl):∀j,w.frozen? ⟨pW,j,none⟩=false:=fun j=>by
 have k:=B.g i
 rw [h] at k
 exact QL.frozen k j
theorem Bag.ws (B:Bag S0 w0 L w) (i:Nat) (hk:who<n) {j:Nat} {v:Value} (h:gt L i=tW pW n f who C:=by exact rfl) (hj:j<35:=by decide) (hC:C.set j v=C':=by simp only [List.set_cons_zero,List.set_cons_succ];exact rfl)
 (hi:i<L.length:=by exact Nat.lt_of_sub_ne_zero (by intro h;cases h)) (hL:L.set i (tW pW n f who C')=L':=by (try simp only [List.set_cons_zero,List.set_cons_succ]);exact rfl):Bag S0 w0 L' (w.setCell ⟨pW,who*35+j,none⟩ v):=by
 have k:=B.g i
 rw [h] at k
 exact B.up i (T':=tW pW n f who C') (hC▸QL.set k hk j hj v) ((Fr.refl [pW] w).sc pW _ v) (by rw [h]) (by rw [h]) (by rw [h]) hi hL
theorem Bag.ws0 (B:Bag S0 w0 L w) (i:Nat) (hk:who<n) {v:Value} (h:gt L i=tW pW n f who C:=by exact rfl) (hC:C.set 0 v=C':=by simp only [List.set_cons_zero];exact rfl)
 (hi:i<L.length:=by exact Nat.lt_of_sub_ne_zero (by intro h;cases h)) (hL:L.set i (tW pW n f who C')=L':=by (try simp only [List.set_cons_zero,List.set_cons_succ]);exact rfl):Bag S0 w0 L' (w.setCell ⟨pW,who*35,none⟩ v):=B.ws i hk (j:=0) h (by decide) hC hi hL
end
theorem Bag.wst {S0:List Nat} {w0 w:World} {L L':List Th} {pW n who:Nat} {f:Nat→List Value} {C C':List Value} (P:Program) (B:Bag S0 w0 L w) (i:Nat) (hk:who<n) (o:Nat) (vs:List Value) (t:TypeId) (h:gt L i=tW pW n f who C:=by exact rfl) (ht:(P.info? t).map (·.size)=some vs.length:=by kernel_rfl) (hfit:o+vs.length≤35:=by first|decide|(simp only [EvV.cells,Q8.cells,List.length_cons,List.length_nil];decide)) (h1:∀v∈vs,v.oneCell'=true:=by simp [Value.oneCell',EvV.cells,Q8.cells])
 (hC:C.take o++vs++C.drop (o+vs.length)=C':=by exact rfl) (hi:i<L.length:=by exact Nat.lt_of_sub_ne_zero (by intro h;cases h)) (hL:L.set i (tW pW n f who C')=L':=by (try simp only [List.set_cons_zero,List.set_cons_succ]);exact rfl):
 ∃w',(storeVar t ⟨pW,who*35+o,none⟩ (.agg vs.toArray)).run P w=.ok () w'∧Bag S0 w0 L' w':=by
 have k:=B.g i
 rw [h] at k
 obtain ⟨w',hr,hw,fs⟩:=QL.sto (P:=P) k hk o vs t ht hfit h1
 exact ⟨w',hr,B.up i (T':=tW pW n f who C') (hC▸hw) fs (by rw [h]) (by rw [h]) (by rw [h]) hi hL⟩
theorem tl (i:Nat) {V:Type} {S0:List Nat} {w0:World} {F:V→List Th} {P:Program} {ops:Array Oper} {Q:Exit→Act→World→Prop} {md:Region.Mode} {oi:Oper} {v:Value} {fuel:Nat} {listed l':Array Bool} {a a':Act} {w:World} {t:TypeId} {x:Operand} {ad:Addr}
 (hl:∀w v',Bag S0 w0 (F v') w→(loadVar t ad).run P w=.ok v w) (h:wpAnyH P md ops Q (SB S0 w0 F) fuel l' a' w)
 (hi:ops[i]?=some oi:=by
   simp only [List.getElem?_toArray,List.getElem?_cons_succ,List.getElem?_cons_zero]
   exact rfl)
 (hop:oi.op=.load t x:=by exact rfl) (hx:a.eval x=.pointer (some ad):=by exact rfl)
 (hs:Region.noSelect ops=true:=by kernel_rfl) (hf:Region.free md ops listed i=true:=by kernel_rfl) (hr:(Region.ready md ops listed).contains i=true:=by kernel_rfl)
 (hQ:∀c a w,Q (.panic c) (a.put oi.dst v) w→Q (.panic c) a w:=by exact fun _ _ _ h=>h)
 (hw:Region.wanted oi (yielded ops a.tmps)=true:=by rfl)
 (hS:SB S0 w0 F w:=by first|exact ⟨(),B⟩|exact ⟨_,B⟩|exact ⟨(),B.pre⟩|exact ⟨_,B.pre⟩|exact ⟨(),B.sel [0,2]⟩)
 (ha:a.put oi.dst v=a':=by
   try simp only [Act.put,List.setIfInBounds_toArray,List.set_cons_zero,List.set_cons_succ]
   exact rfl)
 (hl':listed.setIfInBounds i true=l':=by
   try simp only [List.setIfInBounds_toArray,List.set_cons_zero,List.set_cons_succ]
   exact rfl):wpAnyH P md ops Q (SB S0 w0 F) (fuel+1) listed a w:=tkl i (fun w ⟨v,B⟩=>hl w v B) h hi hop hx hs hf hr hQ hw hS ha hl'
theorem Zn {w:World} {pM pW pm pc pw n who:Nat} {ve:Value} {c:Q0} {ent mat:Int} {f:Nat→List Value} {k:Q8} {v:Je} (hMB:QG w pM pW pm pc pw n ve c ent mat) (hW:QL w pW n (upd f who (k.cells v))) (hne:pM≠pW):Bag [pW] w [⟨false,[pM],fun w=>QG w pM pW pm pc pw n ve c ent mat,fun f h k=>k.fr f (h _ Lc)⟩,tW pW n f who (k.cells v)] w:=by
 have h1:=Q9 hMB;have h2:=hW.lt
 refine Bag.of ?_ (by simp;omega) (by simp;omega) ?_
 · simp only [List.forall_mem_cons];exact ⟨hMB,hW,Lc⟩
 · intro T hT ho x hx
   simp only [List.mem_cons,List.not_mem_nil,or_false] at hT
   rcases hT with rfl|rfl
   · cases ho
   · simpa using hx
theorem rgci {S0:List Nat} {w0 w:World} {L:List Th} (i k:Nat) (is:List Nat) {F:Value→List Th} {P:Program} {ops:Array Oper} {Q:Exit→Act→World→Prop} {id:Nat} {a:Act} {b:Nat} {A:Array Value} {t:TypeId} (B:Bag S0 w0 L w) (h:∀w',Bag S0 w0 L w'→wpAnyH P .any ops Q (SB S0 w0 F) ops.size (Array.replicate ops.size false) a w')
 (hT:gt L i=tR b A t:=by exact rfl) (hF:∀v,is.map (gt (L.set i (tR b (A.setIfInBounds k v) t)))=F v:=by intro v;simp only [List.setIfInBounds_toArray,List.set_cons_zero,List.set_cons_succ,List.map_cons,List.map_nil,gt,List.getD_cons_zero,List.getD_cons_succ];exact rfl)
 (hn:is.Nodup:=by decide) (hm:P.follows .mixedOrders=true:=by kernel_rfl):(Code.region id ops true).wp P Q a w:=by
 refine wp_region_held_drew hm ⟨A.getD k undef, ?_⟩ (fun _=>h _ B.drew)
 rw [←hF,set_self]
 have e:L.set i (tR b A t)=L:=by
  rw [←hT]
  by_cases h:i<L.length
  · simp [gt,List.getD_eq_getElem?_getD,h]
  · rw [List.set_eq_of_length_le Lb]
 rw [e]
 exact B.drew.sel is hn rfl
theorem rgw (i k:Nat) {S0:List Nat} {w0 w:World} {L:List Th} {F:Value→List Th} {P:Program} {ops:Array Oper} {Q:Exit→Act→World→Prop} {id:Nat} {a:Act} {pW n who:Nat} {f:Nat→List Value} {C:List Value} (B:Bag S0 w0 L w) (h:∀w',Bag S0 w0 L w'→wpAnyH P .any ops Q (SB S0 w0 F) ops.size (Array.replicate ops.size false) a w')
 (hT:gt L i=tW pW n f who C:=by exact rfl) (hF:∀v,L.set i (tW pW n f who (C.set k v))=F v:=by intro v;simp only [List.set_cons_zero,List.set_cons_succ];exact rfl)
 (hS:SB S0 w0 F w.drew:=by exact ⟨_,B.drew⟩) (hm:P.follows .mixedOrders=true:=by kernel_rfl):(Code.region id ops true).wp P Q a w:=wp_region_held_drew hm hS (fun _=>h _ B.drew)
theorem mbag0 {w:World} {pM pW pm pc pw n who:Nat} {ve:Value} {c:Q0} {ent mat:Int} {f:Nat→List Value} {k:Q8} {v:Je} (hMB:QG w pM pW pm pc pw n ve c ent mat) (hW:QL w pW n (upd f who (k.cells v))) (hne:pM≠pW):Bag [] w [tRo false pM #[.int .i64 c.wo,.int .i64 c.sl,.int .i64 c.st,.int .i64 c.wa,.int .i64 c.us,.pointer (some ⟨pm,0,none⟩),.pointer (some ⟨pc,0,none⟩),.pointer (some ⟨pw,0,none⟩),ve,.slice (some ⟨pW,0,none⟩) n n,.int .i64 ent,.int .i64 mat] 86,tWo false pW n f who (k.cells v)] w:=(Zn hMB hW hne).look [0,1]
abbrev tYb (p:Nat) (c:Q0) (t:Qf):Th:=⟨true,[p],fun w=>Jy w p none none c t,fun f h k=>k.fr f (h _ Lc)⟩
theorem GD (hMB:QG w pM pW pm pc pw n ve c ent mat) (hW:QL w pW n (upd f who (k.cells v))) (hk:who<n) (hne:pM≠pW) (parks:Bool):
 Calls Tryz.prog 84 #[.pointer (some ⟨pM,0,none⟩),.int .i64 who,.bool parks] w fun e w'=>e=.returned (.tuple #[])∧∃p,w.heap.size≤p∧Jy w' p none none c (Qz who)∧QZ w' pM pW pm pc pw n who ve c ent mat f (k.QT who parks) {v with vd:=.pointer (some ⟨p,0,none⟩)}∧Fr [pW] w w':=by
 have HY:=hid fun w'=>Q5J w' c who
 have B:Bag [pW] w [tRo false pM _ _,tW pW n f who _] w:=Zn hMB hW hne
 dsimp only [Q8.cells] at B
 clear hMB hW hne
 have m:=B.q 0
 go_in
 go_wp2_with fail
 refine (HY.out _).mono ?_
 rintro e w1 ⟨p,rfl,hp,ht,f1⟩
 replace B:=B.nw (T':=tYb p c (Qz who)) ht f1 (fun x hx=>by simp at hx;subst hx;exact ⟨hp,Q9 ht⟩)
 clear m
 have q:=B.wq 1 hk;have q0:=B.wq0 1 hk;have u:=B.wu 1
 go_wp2_with fail
 clear q q0 u
 generalize hw:World.setCell _ _ _=w2
 replace B:=(((B.ws 1 hk).ws 1 hk).ws0 1 hk).e hw
 go_end0
 exact ⟨rfl,p,hp,B.g 2,⟨B.g 0,B.g 1⟩,B.fr⟩
theorem XY (hMB:QG w pM pW pm pc pw n ve c ent mat) (hW:QL w pW n (upd f who (k.cells v))) (hk:who<n) (hne:pM≠pW) (x:EvV):
 Calls Tryz.prog 81 #[.pointer (some ⟨pM,0,none⟩),.int .i64 who,x.val] w fun e w'=>e=.returned (.tuple #[])∧∃p,w.heap.size≤p∧Jy w' p none none c (Qz who)∧QZ w' pM pW pm pc pw n who ve c ent mat f (k.end_ who x) {v with vd:=.pointer (some ⟨p,0,none⟩)}∧Fr [pW] w w':=by
 have HU:=hid fun w' k' h1 h2=>GD w' pM pW pm pc pw n who ve c ent mat f k' v h1 h2 hk hne false
 have B:Bag [pW] w [tRo false pM _ _,tW pW n f who _] w:=Zn hMB hW hne
 dsimp only [Q8.cells] at B
 clear hMB hW hne
 dsimp only [EvV.val,EvV.cells]
 have m:=B.qa 0
 go_in
 go_wp2_with fail
 generalize hb:(World.heap _).size=b,hw:World.alloc _ _=w1
 replace B:=B.al hw hb
 clear m hw hb
 refine rgx [0,2] B fun _ B=> ?_
 iterate 5 refine tb ?_
 refine tl 5 (fun w' v' B=>Um 50 (B.g 1)) ?_
 refine tj 6 ?_
 refine tj 7 ?_
 refine tc 8 fun K hK=> ?_
 obtain ⟨w3,hrun,B3⟩:=B.wst Tryz.prog 1 hk 17 x.cells 50
 refine Yp _ _ _ rfl _ _ rfl rfl hrun ?_
 replace B:=B3
 refine bk hK ?_
 clear hK K
 try go_frame
 refine wpAnyH_done (by decide+kernel) ?_ _
 go_wp2_with fail
 refine (HU.out _ {k with ans:=x} (B.g 0) (B.g 1)).mono ?_
 rintro e w9 ⟨rfl,p,hp,ht,hmp,f9⟩
 go_wp2_with fail
 go_end0
 exact ⟨rfl,p,Nat.le_trans B.fr.size hp,ht,hmp,B.fr.then f9 Lc⟩
end
section
open Go.RowKit Go.Shelf Go.Lib
attribute [local go_sem] Oper.semAt_some
variable (w:World) (pM pW pm pc pw n who:Nat) (ve:Value) (c:Q0) (ent mat:Int) (f:Nat→List Value) (k:Q8) (v:Je)
theorem VJ {S0 S:List Nat} {w0 w w':World} {pM pW n who:Nat} {f:Nat→List Value} {C:List Value} {ob:Bool} {A:Array Value} {t:TypeId} (B:Bag S0 w0 [tRo ob pM A t,tW pW n f who C] w) (g:Fr S w w') (h0:∀x∈S,x∈S0) (hD:∀b∈S,b≠pM∧b≠pW):Bag S0 w0 [tRo ob pM A t,tW pW n f who C] w':=
 B.fo g h0 fun i x hx hm=>by
  have:=hD x hm
  rcases i with _|_|i
  · simp [gt] at hx;exact this.1 hx
  · simp [gt] at hx;exact this.2 hx
  · simp [gt,Th.nil] at hx
theorem Q2r (hMB:QG w pM pW pm pc pw n ve c ent mat) (hW:QL w pW n (upd f who (k.cells v))) (hk:who<n) (hne:pM≠pW) (p:Nat) (R:World→Prop) (S:List Nat) (hST:Xe R pM pW ve) (hD:∀b∈S,b≠pM∧b≠pW∧ve.ownBlock≠some b) (hve:∀b,ve.ownBlock=some b→b≠pM∧b≠pW) (hv:v.vd=.pointer (some ⟨p,0,none⟩)) (HC:∀w',Fr [] w w'→Calls Tryz.prog 85 #[.pointer (some ⟨p,0,none⟩),.pointer (some ⟨pm,0,none⟩)] w' fun e w2=>e=.returned (.bool false)∧R w2∧Fr S w' w2):
 Calls Tryz.prog 60 #[.pointer (some ⟨pM,0,none⟩),.int .i64 who] w fun e w'=>e=.returned (.tuple #[])∧QZ w' pM pW pm pc pw n who ve c ent mat f k v∧R w'∧Fr (pM::pW::S) w w':=by
 obtain ⟨vw,vt,vq,vd⟩:=v
 dsimp only at hv
 subst hv
 have HCS:=hid HC
 have B:Bag (pM::pW::S) w [tRo false pM _ _,tW pW n f who _] w:=(Zn hMB hW hne).mono Lc
 dsimp only [Q8.cells] at B
 clear hMB hW hne HC
 have m:=B.q 0
 go_in
 go_wp2_with fail
 clear m
 refine rgf B fun _ fc B=> ?_
 iterate 8 refine tb ?_
 refine tc 8 fun K hK=> ?_
 go_simp
 refine (HCS.out _ fc).mono ?_
 rintro e w1 ⟨rfl,hr,f1⟩
 replace B:=VJ B f1 (by intro x hx;simp [hx]) (fun b hb=>⟨(hD b hb).1,(hD b hb).2.1⟩)
 go_wp2_with fail
 refine bk hK ?_
 clear hK K
 try go_frame
 refine tb ?_
 refine wpAnyH_done (by decide+kernel) ?_ _
 go_wp2
 first
  |go_end0
  |(try simp only [Exit.inBlock,Exit.then]
    refine bodyPost_ret (results_none rfl _ _ _) rfl ?_)
 exact ⟨rfl,⟨B.g 0,B.g 1⟩,hr,B.fr⟩
theorem Ew (hMB:QG w pM pW pm pc pw n ve c ent mat) (hW:QL w pW n (upd f who (k.cells v))) (hk:who<n) (hne:pM≠pW) (p:Nat) (R:World→Prop) (S:List Nat) (hST:Xe R pM pW ve) (hD:∀b∈S,b≠pM∧b≠pW∧ve.ownBlock≠some b) (hve:∀b,ve.ownBlock=some b→b≠pM∧b≠pW) (hv:v.vd=.pointer (some ⟨p,0,none⟩)) (HC:∀w',Fr [] w w'→Calls Tryz.prog 85 #[.pointer (some ⟨p,0,none⟩),.pointer (some ⟨pm,0,none⟩)] w' fun e w2=>e=.returned (.bool true)∧R w2∧Fr S w' w2) (hpk:k.parks=true):
 Calls Tryz.prog 60 #[.pointer (some ⟨pM,0,none⟩),.int .i64 who] w fun e w'=>e=.returned (.tuple #[])∧QZ w' pM pW pm pc pw n who ve c ent mat f {k with st:=6} v∧R w'∧Fr (pM::pW::S) w w':=by
 obtain ⟨vw,vt,vq,vd⟩:=v
 dsimp only at hv
 subst hv
 have HCS:=hid HC
 have B:Bag (pM::pW::S) w [tRo false pM _ _,tW pW n f who _] w:=(Zn hMB hW hne).mono Lc
 dsimp only [Q8.cells] at B
 clear hMB hW hne HC
 have m:=B.q 0
 go_in
 go_wp2_with fail
 clear m
 refine rgf B fun _ fc B=> ?_
 iterate 8 refine tb ?_
 refine tc 8 fun K hK=> ?_
 go_simp
 refine (HCS.out _ fc).mono ?_
 rintro e w1 ⟨rfl,hr,f1⟩
 replace B:=VJ B f1 (by intro x hx;simp [hx]) (fun b hb=>⟨(hD b hb).1,(hD b hb).2.1⟩)
 go_wp2_with fail
 refine bk hK ?_
 clear hK K
 try go_frame
 refine tb ?_
 refine wpAnyH_done (by decide+kernel) ?_ _
 have q:=B.wq 1 hk;have q0:=B.wq0 1 hk;have u:=B.wu 1;have m:=B.q 0
 go_wp2_with fail
 clear q q0 u m
 generalize hw:World.setCell _ _ _=w2
 replace B:=((B.ws0 1 hk)).e hw
 first
  |go_end0
  |(try simp only [Exit.inBlock,Exit.then]
    refine bodyPost_ret (results_none rfl _ _ _) rfl ?_)
 exact ⟨rfl,⟨B.g 0,B.g 1⟩,hST.go hr (hw▸(Fr.refl [pW] w1).sc pW _ _),B.fr⟩
theorem Q3s:(Tryz.prog.info? 50).map (fun i=>(i.zero,i.size,i.bytes))=some (some (.agg #[.bool false,.int .i64 0,.int .i64 0,.int .i64 0,.int .i64 0,.bool false,.bool false,.int .i64 0,.int .i64 0,.int .i64 0,.int .i64 0,.int .i64 0,.int .i64 0,.int .i64 0,.int .i64 0,.int .i64 0,.int .i64 0,.int .i64 0]),18,136):=by kernel_rfl
def Xn (w:World) (ve:Value) (evs:List EvV):Prop:=J3 50 18 w ve evs.length (evs.flatMap EvV.cells)
abbrev tEv (o:Bool) (ve:Value) (N:Nat) (C:List Value):Th:=⟨o,ve.ownBlock.toList,fun w=>J3 50 18 w ve N C,fun f h k=>k.fr f fun b hb=>h b (by simp [hb])⟩
theorem mbagE {w:World} {pM pW pm pc pw n who:Nat} {ve:Value} {c:Q0} {ent mat:Int} {f:Nat→List Value} {k:Q8} {v:Je} {evs:List EvV} (hMB:QG w pM pW pm pc pw n ve c ent mat) (hW:QL w pW n (upd f who (k.cells v))) (hne:pM≠pW) (hE:Xn w ve evs) (hve:∀b,ve.ownBlock=some b→b≠pM∧b≠pW):
 Bag (pM::pW::ve.ownBlock.toList) w [tMB pM pW pm pc pw n ve c ent mat,tW pW n f who (k.cells v),tEv true ve evs.length (evs.flatMap EvV.cells)] w:=by
 have h1:=Q9 hMB;have h2:=hW.lt;have h3:=J3.lt hE
 refine Bag.of (by simp only [List.forall_mem_cons];exact ⟨hMB,hW,hE,Lc⟩) ?_ ?_ ?_
 · cases h:ve.ownBlock with
   |none=>simp [h,hne]
   |some b=>have:=hve b h;simp [h];omega
 · cases h:ve.ownBlock with
   |none=>simp [h];omega
   |some b=>have:=h3 b h;simp [h];omega
 · simp only [List.forall_mem_cons];simp;intro x hx;simp [hx]
theorem Bag.evs {S0:List Nat} {w0 w:World} {L:List Th} (B:Bag S0 w0 L w) (i j:Nat) {ve:Value} {N:Nat} {C:List Value} {b:Nat} {t:TypeId} {o:Bool} (es:List Value) (hlen:N≤100000) (hi:gt L i=tEv true ve N C:=by exact rfl) (hj:gt L j=tRo o b es.toArray t:=by exact rfl) (hes:es.length=18:=by rfl) (h1:∀u∈es,u.oneCell'=true:=by simp [Value.oneCell'])
 (hil:i<L.length:=by exact Nat.lt_of_sub_ne_zero (by intro h;cases h)):
  ∃g off cap w',(Builtin.append_ #[63,63] 63 #[ve,.slice (some ⟨b,0,none⟩) 1 1]).run Tryz.prog w=.ok (.slice (some ⟨g,off,none⟩) (N+1) cap) w'∧(ve.ownBlock=some g∨w.heap.size≤g)∧Bag S0 w0 (L.set i (tEv true (.slice (some ⟨g,off,none⟩) (N+1) cap) (N+1) (C++es))) w':=by
 have k:=B.g i
 rw [hi] at k
 have q:=B.q j hj
 obtain ⟨i0,hi0,hz0,hz1,hz2⟩:=info_parts Q3s
 obtain ⟨g,off,cap2,w5,hrun,hr2,fa,hg,hlt⟩:=Yq (P:=Tryz.prog) w 63 63 50 i0 _ 18 Tryz.underlying63 hi0 hz0 hz1 Lb rfl ve _ _ k ⟨b,0,none⟩ 1 es hes (fun j u hj=>by rw [Addr.add_lit,Nat.zero_add,q j];simpa using hj) h1 hlen
 refine ⟨g,off,cap2,w5,hrun,hg.imp id (fun h=>Nat.le_of_eq h.symm),B.up' i (T':=tEv true _ _ _) hr2 fa (fun x hx=>⟨by rw [hi],by rw [hi];exact hx⟩) (fun x hx=> ?_) hil⟩
 simp [Value.ownBlock] at hx
 subst hx
 refine ⟨hlt,hg.elim (fun h=>.inl ⟨fun _=>by rw [hi],by rw [hi];simp [h]⟩) (fun h=>.inr (Nat.le_of_eq h.symm))⟩
theorem Q0R (hMB:QG w pM pW pm pc pw n ve c ent mat) (hW:QL w pW n (upd f who (k.cells v))) (hk:who<n) (hne:pM≠pW) (p:Nat) (R:World→Prop) (S:List Nat) (hST:Xe R pM pW ve) (hD:∀b∈S,b≠pM∧b≠pW∧ve.ownBlock≠some b) (hve:∀b,ve.ownBlock=some b→b≠pM∧b≠pW) (hv:v.vd=.pointer (some ⟨p,0,none⟩)) (HC:∀w',Fr [] w w'→Calls Tryz.prog 85 #[.pointer (some ⟨p,0,none⟩),.pointer (some ⟨pm,0,none⟩)] w' fun e w2=>e=.returned (.bool true)∧R w2∧Fr S w' w2) (evs:List EvV) (hE:Xn w ve evs) (hlen:evs.length≤100000) (hpk:k.parks=false):
 Calls Tryz.prog 60 #[.pointer (some ⟨pM,0,none⟩),.int .i64 who] w fun e w'=>e=.returned (.tuple #[])∧∃ve',QZ w' pM pW pm pc pw n who ve' c ent mat f {k with st:=0} v∧Xn w' ve' (evs++[{k.ans with ended:=true,who:=who,at_:=mat,ask:=k.ask}])∧R w'∧(∀b,ve'.ownBlock=some b→ve.ownBlock=some b∨w.heap.size≤b)∧Fr (pM::pW::(ve.ownBlock.toList++S)) w w':=by
 have HCS:=hid HC
 have hE2:J3 50 18 w ve evs.length (evs.flatMap EvV.cells):=hE
 have B:Bag (pM::pW::S) w [tRo false pM _ _,tW pW n f who _] w:=(Zn hMB hW hne).mono Lc
 rw [Q8.cells,hv,hpk] at B
 clear hMB hW HC
 have m:=B.q 0
 go_in
 go_wp2_with fail
 clear m
 refine rgf B fun _ fc B=> ?_
 iterate 8 refine tb ?_
 refine tc 8 fun K hK=> ?_
 go_simp
 refine (HCS.out _ fc).mono ?_
 rintro e w1 ⟨rfl,hr,f1⟩
 have F1:=(fc.mono (S':=S) Lc).trans f1
 replace B:=VJ B f1 (by intro x hx;simp [hx]) (fun b hb=>⟨(hD b hb).1,(hD b hb).2.1⟩)
 go_wp2_with fail
 refine bk hK ?_
 clear hK K
 try go_frame
 refine tb ?_
 refine wpAnyH_done (by decide+kernel) ?_ _
 have hMB1:QG w1 pM pW pm pc pw n ve c ent mat:=B.g 0
 have hW1:=B.g 1
 have B:=mbagE (k:=k) (v:=v) hMB1 (by rw [Q8.cells,hv,hpk];exact hW1) hne (show Xn w1 ve evs from J3.fr hE F1 fun b hb hm=>(hD b hm).2.2 hb) hve
 clear hMB1 hW1 hE hE2
 have hLD:=QL.ld (P:=Tryz.prog) (B.g 1) hk 17 k.ans.cells 50
 dsimp only [Q8.cells] at B
 obtain ⟨w2,hrun,hb2,fs⟩:=Yd (P:=Tryz.prog) (heap_alloc_new w1 (.cells #[.bool false,.int .i64 0,.int .i64 0,.int .i64 0,.int .i64 0,.bool false,.bool false,.int .i64 0,.int .i64 0,.int .i64 0,.int .i64 0,.int .i64 0,.int .i64 0,.int .i64 0,.int .i64 0,.int .i64 0,.int .i64 0,.int .i64 0] 50)) k.ans.cells 50 (by kernel_rfl) rfl (by simp [Value.oneCell',EvV.cells])
 have q:=B.wq 1 hk;have m:=B.q 0
 go_wp2_with (first|(refine ZM rfl _ _ rfl _ _ rfl hLD ?_)|(refine X8 rfl _ _ _ rfl _ _ rfl rfl hrun ?_))
 clear q m hLD hrun
 dsimp only [EvV.cells] at hb2
 replace B:=B.nw (T':=tR _ _ _) hb2 (((Fr.refl [] w1).alloc _).then fs (fun x hx=>by simp at hx;exact .inr Lb)) (fun x hx=>by simp at hx;subst hx;exact ⟨Nat.le_refl _,Q9 hb2⟩)
 replace B:=B.sel [0,1,3,2]
 clear hb2 fs
 generalize w1.heap.size=b9 at B ⊢
 have ha1:∀j:Nat,who*35+1+j=who*35+(1+j):=fun j=>Nat.add_assoc _ _ _
 have n1:=B.n2 1 2 (x:=pW) (y:=b9);have n2:=n1.symm;have n3:=B.n2 0 2 (x:=pM) (y:=b9);have n4:=n3.symm
 have q:=B.wq 1 hk;have m:=B.q 0;have r:=B.q 2;have u:=B.u 2
 try go_frame
 go_region
 clear q m r u n1 n2 n3 n4
 generalize hw:World.setCell _ _ _=w3
 replace B:=(((((((((((B.s 2).s 2).s 2).s 2).s 2).s 2).s 2).s 2).s 2).s 2).e hw).drew
 go_wp2_with fail
 refine rgci 0 8 [0,1,2] B fun _ B=> ?_
 iterate 4 refine tb ?_
 refine tl 5 (fun w' v' B=>Um 50 (B.g 2)) ?_
 refine wpAnyH_ready (rs:=[4,6]) (by decide+kernel) Lc ?_
 refine AllReadyH.cons (o:=_) rfl (fun K hK=> ?_) (AllReadyH.cons (o:=_) rfl (fun K hK=> ?_) AllReadyH.nil)
 all_goals try simp only [List.getElem_toArray,List.getElem_cons_succ,List.getElem_cons_zero]
 have m:=B.q 0
 go_simp
 refine bk hK ?_
 clear hK K
 try go_frame
 clear m
 refine tc 6 fun K hK=> ?_
 go_simp
 generalize hb:(World.heap _).size=bE,hw:World.alloc _ _=w4
 replace B:=B.al hw hb
 refine bk hK ?_
 clear hK K
 try go_frame
 rotate_left
 go_simp
 generalize hb:(World.heap _).size=bE,hw:World.alloc _ _=w4
 replace B:=B.al hw hb
 refine bk hK ?_
 clear hK K
 try go_frame
 have m:=B.q 0
 refine tc 4 fun K hK=> ?_
 go_simp
 refine bk hK ?_
 clear hK K
 try go_frame
 clear m
 all_goals
  obtain ⟨g,off,cap2,w5,hrun,hg,B5⟩:=B.evs 3 4 (EvV.cells {k.ans with ended:=true,who:=who,at_:=mat,ask:=k.ask}) hlen (h1:=by simp [Value.oneCell',EvV.cells])
  refine tc 7 fun K hK=> ?_
  refine Vq _ _ _ _ rfl _ _ rfl rfl hrun ?_
  replace hg:=hg.imp id (fun h=>Nat.le_trans F1.size (Nat.le_trans B.fr.size h))
  replace B:=B5
  simp only [List.set_cons_zero,List.set_cons_succ] at B
  clear B5 hrun
  refine bk hK ?_
  clear hK K
  try go_frame
  refine tb ?_
  refine tb ?_
  have u:=B.u 0;have m:=B.q 0
  refine tc 10 fun K hK=> ?_
  go_simp
  clear u m
  generalize hw:World.setCell _ _ _=w6
  replace B:=(B.s 0).e hw
  refine bk hK ?_
  clear hK K
  try go_frame
  refine wpAnyH_done (by decide+kernel) ?_ _
  have q:=B.wq 1 hk;have q0:=B.wq0 1 hk;have u:=B.wu 1;have m:=B.q 0
  go_wp2_with fail
  clear q q0 u m
  generalize hw:World.setCell _ _ _=w7
  replace B:=(B.ws0 1 hk).e hw
  go_end0
  refine ⟨rfl,_,⟨B.g 0,B.g 1⟩, ?_,hST.go hr B.fr (by intro b hb;simpa using hb),fun b hb=>by cases hb;exact hg,(F1.mono (by intro x hx;simp [hx])).trans (B.fr.mono (by intro x hx;simp at hx ⊢;rcases hx with h|h|h<;>simp [h]))⟩
  unfold Xn
  rw [List.length_append,List.flatMap_append]
  exact B.g 3
end
end Go.Proofs.YtgjklfmnmljilaaGreatDoor

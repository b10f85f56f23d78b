/- A part of the proof: TrJ to TqM. -/
import Derived.Test.YtgjklfmnmljilaaGreatDoorZS03
import Derived.Test.YtgjklfmnmljilaaGreatDoorZS42
import Derived.Test.YtgjklfmnmljilaaGreatDoorZS43
import Derived.Deep.DeepCutAuto
namespace Go.Proofs.YtgjklfmnmljilaaGreatDoor
set_option linter.unusedVariables false
set_option linter.unusedSimpArgs false
set_option linter.unusedSectionVars false
set_option linter.unnecessarySimpa false
set_option maxRecDepth 100000
set_option maxHeartbeats 8000000
section
open Go.RowKit Go.Shelf Go.Lib
theorem Zk (x:EvV):x.cells.length=18:=rfl
theorem Q3e:∀l:List EvV,(l.flatMap EvV.cells).length=l.length*18
 |[]=>rfl
 |x::t=>by rw [List.flatMap_cons,List.length_append,Q3e t,Zk,List.length_cons];omega
theorem Q8N (l:List EvV):∀u∈l.flatMap EvV.cells,u.oneCell'=true:=by
 intro u hu
 obtain ⟨x, -,h⟩:=List.mem_flatMap.1 hu
 unfold EvV.cells at h
 simp only [List.mem_cons,List.not_mem_nil,or_false] at h
 rcases h with h|h|h|h|h|h|h|h|h|h|h|h|h|h|h|h|h|h<;>rw [h]<;>rfl
theorem Q4r {w:World} {base:Nat} {e:TypeId} {k:Nat} {v:Value} {n:Nat} {C:List Value} (h:w.ownsRow base e k v n C) (hC:C.length=n*k):Jo e k w v n C∧∀b,v.ownBlock=some b→base≤b:=by
 refine ⟨⟨hC, ?_⟩,fun b hb=>(h.lt b hb).1⟩
 rcases h.2 with ⟨h',h0⟩|⟨g,cap,cur,h',_,hg,hl,hm,hs,htake⟩
 · exact .inl ⟨h',h0⟩
 · refine .inr ⟨g,0,cap,cur,h',hg,hl,hm,by omega,fun j u hj=> ?_⟩
   have hjl:j<n*k:=by rw [←hC];exact (List.getElem?_eq_some_iff.1 hj).1
   rw [Nat.zero_add,←Array.getElem?_toList,←hj,←htake,List.getElem?_take,if_pos hjl]
def Q7x (w:World) (evs:List EvV) (e:Ending) (w':World):Prop:=∃v',e=.returned v'∧XH w' v' evs∧(∀b,v'.ownBlock=some b→w.heap.size≤b)∧Fr [] w w'
theorem Q17 (w:World) (ve:Value) (evs:List EvV) (hE:XH w ve evs) (hn:evs.length≤100000):Calls Tryz.prog 36 #[ve] w (Q7x w evs):=by
 obtain ⟨i0,hi,hz0,hz1,hz2⟩:=info_parts Q3f
 obtain ⟨n,hL⟩:∃n,evs.length=n:=⟨_,rfl⟩
 obtain ⟨C,hC⟩:∃C,evs.flatMap EvV.cells=C:=⟨_,rfl⟩
 have hlen:=Q3e evs
 have hone:=Q8N evs
 have hE':=hE
 unfold XH at hE'
 rw [hC] at hlen hone hE'
 rw [hL] at hlen hE' hn
 rcases hE'.2 with ⟨rfl,h0⟩|⟨q,off,cap,cur,rfl,hg,h1,h2,h3,h4⟩
 · have HX:=hid hE
   have hnil0:=fun (wx:World)=>Lib.run_eql_slice_nil (P:=Tryz.prog) wx 63 50 none 0 0 0 0 Tryz.underlying63
   clear hE hE'
   go_in
   go_wp2
   go_ret
   exact ⟨_,rfl,HX.out,fun b hb=>(by cases hb),Fr.refl _ _⟩
 · have hnil:=fun (wx:World)=>Lib.run_eql_slice_nil (P:=Tryz.prog) wx 63 50 (some ⟨q,off,none⟩) n cap 0 0 Tryz.underlying63
   have hown:=World.ownsRow_lit (w:=w) (base:=w.heap.size) (e:=50) (size:=18) #[] 0 (Nat.le_refl _) (by unfold maxLen;omega) rfl
   have hnews:∀j u,C[j]?=some u→(w.alloc (.cells #[] 50)).cell? ((⟨q,off,none⟩:Addr).add j)=some u:=by
    intro j u hu
    rw [Addr.add_lit,←cell_of hg (h4 j u hu)]
    exact World.cell?_of_block (w:=w) (Below.heap_alloc _ _ _ (Q8 hg))
   have Hn':=hid hnews;clear hnews
   have HL:=hid hlen;clear hlen
   have HO:=hid hone;clear hone
   have HCC:=hid hC
   have HEL:=hid hL
   clear hE hE' hL hC h4 hg h3 h1 h2
   go_in
   go_wp2_with (first|(at_builtin;refine wpList_append_own _ rfl _ _ 63 rfl w.heap.size 50 i0 _ 18 136 Tryz.underlying63 hi hz0 hz1 hz2 rfl (by decide) _ _ _ rfl hown ⟨q,off,none⟩ n cap C rfl ?c0 Hn'.out HO.out ?c3 ?c4 ?c5 ?c6))
   case c0=>exact HL.out
   case c3=>unfold maxLen;omega
   case c4=>omega
   case c6=>
    intro v' w1 hown1 hgrow hnl
    have hfr:Fr [] w w1:=((Fr.refl [] w).alloc (.cells #[] 50)).grown hgrow (fun k hk=>by simp [Value.ownBlock] at hk;right;omega)
    have hlen:=HL.out
    have hC:=HCC.out
    have hL:=HEL.out
    obtain ⟨r1,r2⟩:=Q4r hown1 hlen
    have HR:=hid r1;have HR2:=hid r2;have HFR:=hid hfr
    clear hnl hgrow hown1 r1 r2 hlen hC hL hfr
    obtain ⟨z,hz⟩:∃z,v'=z:=⟨_,rfl⟩
    go_wp2
    go_ret
    refine ⟨_,rfl, ?_,HR2.out,HFR.out⟩
    unfold XH
    rw [HEL.out,HCC.out]
    have:=HR.out
    simpa using this
theorem Q0W (w:World) (pM pW pm pc pw n:Nat) (ve:Value) (c:Q0) (ent mat:Int) (hMB:QC w pM pW pm pc pw n ve c ent mat) (evs:List EvV) (hE:XH w ve evs) (hn:evs.length≤100000):
 Calls Tryz.prog 19 #[.pointer (some ⟨pM,0,none⟩)] w (Q7x w evs):=by
 have HC:=hid (Q17 w ve evs hE hn)
 have q:=cl 8 hMB
 clear hMB hE
 go_in
 go_wp2_with fail
 refine HC.out.mono ?_
 rintro e w1 ⟨v',rfl,a1,a2,a3⟩
 have H1:=hid a1;have H2:=hid a2;have H3:=hid a3
 clear a1 a2 a3
 go_wp2
 go_ret
 exact ⟨_,rfl,H1.out,H2.out,H3.out⟩
variable {w w':World} {b:Bs} {c:Q0} {who:Nat} {S:List Nat} {F:List Nat} {m:Qb} {N N' n:Int}
theorem MAt.fr (A:MAt w F b m N) (f:Fr S w w') (hF:∀x∈F,x∉S) (h0:0∉S) (h2:2∉S):MAt w' F b m N:=by
 obtain ⟨ve,vr,v,L,A⟩:=A
 have hs:=f.size
 have B:∀x∈b.l,x∉S:=fun x hx=>hF x (A.bl x hx).2.2
 refine ⟨ve,vr,v,L,A.mb.fr f (B _ (by simp [Bs.l])),A.wr.fr f (B _ (by simp [Bs.l])),A.me.fr f (B _ (by simp [Bs.l])) (B _ (by simp [Bs.l])),A.ck.fr f (B _ (by simp [Bs.l])),A.wl.ov f (B _ (by simp [Bs.l])) (B _ (by simp [Bs.l])) fun x hx=>hF x (A.e2 x hx).1.2.2,Jo.fr A.ev f fun x hx=>hF x (A.e1 x hx).1.2.2,
  A.fl.fr f h0,A.db.fr f h2,A.nd,fun x hx=> ?_,fun x hx=> ?_,fun x hx=> ?_,fun k hk=>(A.th k hk).fr f fun x hx=>hF x (A.l1 k hk x hx).1.2.2,A.ln,fun k hk x hx=> ?_,A.l2⟩
 · have:=A.bl x hx;exact ⟨this.1,by omega,this.2.2⟩
 · have:=A.e1 x hx;exact ⟨⟨this.1.1,by omega,this.1.2.2⟩,this.2⟩
 · have:=A.e2 x hx;exact ⟨⟨this.1.1,by omega,this.1.2.2⟩,this.2⟩
 · have:=A.l1 k hk x hx;exact ⟨⟨this.1.1,by omega,this.1.2.2⟩,this.2⟩
theorem MAt.do_ (A:MAt w F b m N) (I:MInv n m) (hN:N≤100000000) (hn:n≤1000000000) (h0:0≤m.entries) (h1:m.entries≤1000000000) (x:Qy):
 Calls Tryz.prog 11 #[pt b.pM,x.val] w (Q1y w F b (doV m x) (N+2)):=by
 obtain ⟨ve,vr,v,L,A⟩:=A
 exact r_do A I hN hn h0 h1 x
theorem MAt.state (A:MAt w F b m N) (hw:who<m.ws.length):Calls Tryz.prog 10 #[pt b.pM,.int .i64 who] w fun e w'=>e=.returned (.int .i64 (m.wk who).st)∧Fr [] w w':=by
 obtain ⟨ve,vr,v,L,A⟩:=A
 exact Q2x w _ _ _ _ _ _ who _ _ _ _ _ _ _ A.mb (A.row who) hw A.ne.1
theorem MAt.events (A:MAt w F b m N) (I:MInv n m):Calls Tryz.prog 19 #[pt b.pM] w (Q7x w m.evs):=by
 obtain ⟨ve,vr,v,L,A⟩:=A
 have h1:=I.ev;have h2:=YC m.ws
 exact Q0W w _ _ _ _ _ _ _ _ _ _ A.mb _ A.ev (by omega)
def Q3t (w:World) (c:Q0) (e:Ending) (w':World):Prop:=∃b F,e=.returned (.tuple #[pt b.pM,.int .i64 0])∧MAt w' F b (QH c) 0∧(∀x∈F,w.heap.size≤x)∧Fr [] w w'
theorem r_new (w:World) (c:Q0) (hc:c.fits) (h3:3≤w.heap.size) (hfl:Qe w 0 Qc) (hdb:Hq w):Calls Tryz.prog 17 #[c.val] w (Q3t w c):=by
 refine (Q6v w c hc).mono ?_
 rintro e w' ⟨pM,pW,pm,pc,pw,pr,qm,rfl,⟨z1,z2,z3,z4,z5,z6,z7⟩,nd,mb,wr,me,ck,wl,f⟩
 have hsz:(QH c).ws.length=c.wo.toNat:=by simp [QH]
 have W:∀k,(QH c).wk k=Jd:=KS c
 have l1:=Q8 mb;have l2:=wr.lt;have l3:=me.plt;have l4:=me.qlt;have l5:=Q8 ck;have l6:=Q8 wl.b;have l7:=Q8 wl.r.1
 refine ⟨⟨pM,pW,pm,qm,pc,pw,pr⟩,[pM,pW,pm,qm,pc,pw,pr],rfl,⟨.slice none 0 0,.slice none 0 0,fun _=>Q8j,fun _=>[], ?_⟩,fun x hx=> ?_,f⟩
 · refine ⟨by rw [hsz];exact mb,by rw [hsz];simp only [W];exact wr,me,ck,wl,Jo.nil _ _ _,hfl.fr f (by simp),hdb.fr f (by simp),nd,fun x hx=> ?_,fun x hx=>(by cases hx),fun x hx=>(by cases hx),fun k hk=>by rw [W];exact E5 (.inl rfl),fun k hk=>by simp,fun k hk x hx=>(by cases hx),fun j k _ _ _ x hx=>(by cases hx)⟩
   simp only [Bs.l,List.mem_cons,List.not_mem_nil,or_false] at hx
   rcases hx with rfl|rfl|rfl|rfl|rfl|rfl|rfl<;>refine ⟨by omega,by assumption,by simp⟩
 · simp only [List.mem_cons,List.not_mem_nil,or_false] at hx
   rcases hx with rfl|rfl|rfl|rfl|rfl|rfl|rfl<;>assumption
end
section
open Go.RowKit Go.Shelf Go.Lib
attribute [local go_sem] Oper.semAt_some
def Vo.val (a:Vo):Value:=.agg #[.int .i64 a.op,.int .i64 a.dl,.bool a.wait,.bool a.force,.int .i64 a.slot,.int .i64 a.gen,.int .i64 a.stream]
def Q86 (b n:Nat):Value:=.slice (some ⟨b,0,none⟩) n n
structure HB (w:World) (p g1 g2 g3 n:Nat) (W G:List Int) (C:List Value):Prop where
 b:w.heap[p]?=some (.cells #[Q86 g1 n,Q86 g2 n,Q86 g3 n] 73 (0,0))
 b1:w.heap[g1]?=some (.cells (W.map (Value.int .i64)).toArray 3 (0,0))
 b2:w.heap[g2]?=some (.cells (G.map (Value.int .i64)).toArray 3 (0,0))
 b3:w.heap[g3]?=some (.cells C.toArray 59 (0,0))
 l1:W.length=n
 l2:G.length=n
 l3:C.length=n
 ne:(p≠g1∧p≠g2∧p≠g3)∧(g1≠g2∧g1≠g3)∧g2≠g3
theorem HB.fr {w w':World} {p g1 g2 g3 n:Nat} {W G:List Int} {C:List Value} (h:HB w p g1 g2 g3 n W G C) {S:List Nat} (f:Fr S w w') (h0:p∉S) (h1:g1∉S) (h2:g2∉S) (h3:g3∉S):HB w' p g1 g2 g3 n W G C:=
 ⟨f.at h.b h0,f.at h.b1 h1,f.at h.b2 h2,f.at h.b3 h3,h.l1,h.l2,h.l3,h.ne⟩
def svV (o:Option Nat):Value:=match o with|none=>.slice none 0 0|some g=>Q86 g 8
def svC (n:Nat) (s:Nat→Option Nat):List Value:=(List.range n).map fun k=>svV (s k)
def Q2T (w:World) (ok:Nat→Prop) (p n:Nat) (h:XG):Prop:=∃(g1 g2 g3:Nat) (s:Nat→Option Nat),HB w p g1 g2 g3 n h.who h.gen (svC n s)∧h.str.length=n∧(ok p∧ok g1∧ok g2∧ok g3)∧
 (∀k,k<n→s k=none→h.who.getD k 0=0)∧(∀k g,k<n→s k=some g→(w.heap[g]?=some (.cells ((h.str.getD k []).map Value.bool).toArray 4 (0,0))∧(h.str.getD k []).length=8)∧ok g∧(g≠p∧g≠g1∧g≠g2∧g≠g3))∧
 (∀j k g,j<n→k<n→j≠k→s j=some g→s k≠some g)
theorem Q2T.fr {w w':World} {ok:Nat→Prop} {p n:Nat} {h:XG} (H:Q2T w ok p n h) {S:List Nat} (f:Fr S w w') (hS:∀x∈S,¬ok x):Q2T w' ok p n h:=by
 obtain ⟨g1,g2,g3,s,B,l,⟨b0,b1,b2,b3⟩,hn,hs,hd⟩:=H
 have X:∀x,ok x→x∉S:=fun x hx hm=>hS x hm hx
 exact ⟨g1,g2,g3,s,B.fr f (X _ b0) (X _ b1) (X _ b2) (X _ b3),l,⟨b0,b1,b2,b3⟩,hn,fun k g hk e=>by obtain ⟨⟨a,d⟩,c,u⟩:=hs k g hk e;exact ⟨⟨f.at a (X _ c),d⟩,c,u⟩,hd⟩
def objI (n:Nat):Obj:=.cells ((List.replicate n (0:Int)).map (Value.int .i64)).toArray 3 (0,0)
theorem made1 (z:Value) (hz:z.cells=#[z]) (n:Nat):madeCells z.cells (n*1)=(List.replicate n z).toArray:=by
 refine Array.ext (by simp [madeCells]) fun i h1 h2=> ?_
 simp [madeCells,hz,Nat.mod_one]
theorem mkI (n:Nat) (hn:n≤1000) (wx:World):(Instr.makeSlice 44 (.int .i64 n) (.int .i64 n)).run Tryz.prog wx=.ok (.slice (some ⟨wx.heap.size,0,none⟩) n n) (wx.alloc (objI n)):=by
 obtain ⟨i0,hi0,hz0,hz1,hz2⟩:=info_parts VD
 have h:=run_make (P:=Tryz.prog) wx 44 3 i0 _ Tryz.underlying44 hi0 hz0 .i64 .i64 (n:Int) (n:Int) (by omega) (by omega) (by rw [hz2];omega) (by omega)
 rw [hz1,Int.toNat_natCast,made1 _ (by simp [Value.cells])] at h
 unfold objI
 rw [List.map_replicate]
 exact h
theorem Q3d:∀(l:List EvV) (k j:Nat) (x:EvV),l[k]?=some x→j<18→(l.flatMap EvV.cells)[k*18+j]?=x.cells[j]?
 |[],k,j,x,h,_=>by simp at h
 |a::t,0,j,x,h,hj=>by
  simp only [List.getElem?_cons_zero,Option.some.injEq] at h
  subst h
  rw [List.flatMap_cons,Nat.zero_mul,Nat.zero_add,List.getElem?_append_left (by rw [Zk];exact hj)]
 |a::t,k+1,j,x,h,hj=>by
  rw [List.getElem?_cons_succ] at h
  rw [List.flatMap_cons,List.getElem?_append_right (by rw [Zk];omega),Zk,show (k+1)*18+j - 18=k*18+j by omega]
  exact Q3d t k j x h hj
end
section
theorem DX (m:Qb) (who:Nat) (t:Qd):(Xy m who t).evs=m.evs:=by
 unfold Xy
 simp only
 repeat' split
 all_goals rfl
theorem UH (m:Qb) (who:Nat) (r:QM):(QY m who r).evs=m.evs:=by
 unfold QY
 simp only
 repeat' split
 all_goals rfl
theorem Q1H (m:Qb) (who:Nat):(Jb m who).evs=m.evs:=by
 unfold Jb
 simp only
 split
 · rfl
 · exact DX _ _ _
 · rfl
 · rfl
 · exact UH _ _ _
 · split<;>rfl
 · rfl
theorem Q1g (m:Qb) (who:Nat):(Xx m who).evs=m.evs:=by
 unfold Xx
 simp only
 repeat' split
 all_goals rfl
theorem WQ (m:Qb) (who:Nat):(X9 m who).evs=m.evs:=by
 unfold X9
 simp only
 repeat' split
 all_goals rfl
theorem GN (m:Qb) (who:Nat):(JV m who).evs=m.evs:=by
 unfold JV
 simp only
 rfl
theorem Q1b (m:Qb) (who:Nat):(Xw m who).evs=m.evs:=by
 unfold Xw
 simp only
 rfl
theorem Q0y (m:Qb) (who:Nat):(XW m who).evs=m.evs:=by
 unfold XW
 simp only
 split
 · exact WQ _ _
 · exact GN _ _
theorem Q0b (m:Qb) (who:Nat):(Xl m who).evs=m.evs∨∃e:EvV,(Xl m who).evs=m.evs++[e]∧e.who=who:=by
 unfold Xl
 simp only
 split
 · split
   · exact .inl rfl
   · exact .inr ⟨_,rfl,rfl⟩
 · exact .inl rfl
theorem Q3Z (m:Qb) (who:Nat):(QJ m who).evs=m.evs∨∃e:EvV,(QJ m who).evs=m.evs++[e]∧e.who=who:=by
 unfold QJ
 simp only
 split
 · exact .inl rfl
 split
 · exact .inl (Q1H _ _)
 split
 · exact .inl (Q1g _ _)
 split
 · exact .inl (Q1b _ _)
 split
 · exact Q0b _ _
 split
 · exact .inl (Q0y _ _)
 split
 · exact .inl (WQ _ _)
 split
 · exact .inl (GN _ _)
 · exact .inl rfl
def Q1w (m:Qb):Prop:=∀x∈m.evs,0≤x.who∧x.who<m.ws.length
theorem Q1w.new (c:Q0):Q1w (QH c):=fun x hx=>by simp [QH] at hx
theorem Q1w.do_ {m:Qb} (h:Q1w m) (x:Qy) (hl:(doV m x).1.ws.length=m.ws.length):Q1w (doV m x).1:=by
 have add:∀{m':Qb} {e:EvV},m'.evs=m.evs++[e]→0≤e.who→e.who<m.ws.length→∀y∈m'.evs,0≤y.who∧y.who<m.ws.length:=fun he h0 h1 y hy=>by
  rw [he] at hy
  rcases List.mem_append.1 hy with a|a
  · exact h y a
  · rw [List.mem_singleton.1 a];exact ⟨h0,h1⟩
 intro y hy
 rw [hl]
 unfold doV at hy
 simp only at hy
 split at hy
 · unfold Yr at hy
   split at hy
   · rename_i hc
     have hh:=hc.1
     unfold Qb.has at hh
     rw [Bool.and_eq_true,decide_eq_true_eq,decide_eq_true_eq] at hh
     exact add (e:={ev0 with who:=x.who,at_:=m.entries,ask:=x.ask}) rfl hh.1 hh.2 y hy
   · exact h y hy
 split at hy
 · unfold KP at hy
   split at hy
   · rename_i hh
     unfold Qb.has at hh
     rw [Bool.and_eq_true,decide_eq_true_eq,decide_eq_true_eq] at hh
     obtain ⟨h0,h1⟩:=hh
     simp only at h1 hy
     split at hy
     · exact h y hy
     · rcases Q3Z {m with at_:=m.entries,entries:=m.entries+1} x.who.toNat with e|⟨e,e1,e2⟩
       · rw [e] at hy;exact h y hy
       · exact add e1 (by omega) (by omega) y hy
   · exact h y hy
 split at hy
 · exact h y hy
 split at hy
 · split at hy
   · exact h y hy
   · exact h y hy
 split at hy
 · unfold Yv at hy
   split at hy
   · exact h y hy
   · split at hy
     · exact h y hy
     · exact h y hy
 · exact h y hy
def Jj (w:Int):Qy:=⟨1,w,VY,0,false⟩
def Jy (W who:Nat):Nat→Qb→Nat→Int→Int→Qb×Bool×Int×Int
 |0,m,k,n,r=>(m,false,n,r)
 |f+1,m,k,n,r=>
  if k<W then
   let w:=(who+k) % W
   let d:=doV m (Jj w)
   if d.2 then (if (d.1.wk w).st=0∨(d.1.wk w).st=6 then (d.1,true, -1,r+1) else (d.1,true,n,r)) else Jy W who f d.1 (k+1) n r
  else (m,false,n,r)
def Za (order:List Int) (i:Nat):Nat:=if order.length=0 then 0 else (order.getD (i % order.length) 0).toNat
def Z0 (W:Nat) (limit:Int) (order:List Int):Nat→Qb→Nat→Int→Int→Qb×Bool
 |0,m,i,n,r=>(m,false)
 |f+1,m,i,n,r=>
  if n≤limit∧r≤3*(W:Int) then
   let d:=Jy W (Za order i) W m 0 n r
   if d.2.1 then Z0 W limit order f d.1 (i+1) (d.2.2.1+1) d.2.2.2 else (d.1,true)
  else (m,false)
def QV:Q0:=⟨2,1,0,1,9⟩
def VW:Int:=60000
def Q7h:Bool:=
 let a:=doV (QH QV) ⟨0,0,VY,0,false⟩
 let one:=Z0 2 VW [] 1000 a.1 0 0 0
 let b:=doV one.1 ⟨0,1,{VY with wait:=true,dl:=9},0,false⟩
 let two:=Z0 2 VW [] 1000 b.1 0 0 0
 let d:=doV two.1 ⟨0,0,{VY with op:=2,gen:=1},0,false⟩
 let three:=Z0 2 VW [] 1000 d.1 0 0 0
 a.2&&b.2&&d.2&&one.2&&two.2&&three.2&&decide ((two.1.wk 1).st=6)&&decide ((three.1.wk 1).st=0)&&decide (three.1.evs.length=6)&&decide ((three.1.evs.getD 5 ev0).e=0)&&decide (three.1.entries≤1000)
theorem Q1p:Q7h=true:=by decide+kernel
theorem Q01 (m:Qb) (who:Nat) (t:Qd):(Xy m who t).entries=m.entries:=by
 unfold Xy
 simp only
 repeat' split
 all_goals rfl
theorem DW (m:Qb) (who:Nat) (r:QM):(QY m who r).entries=m.entries:=by
 unfold QY
 simp only
 repeat' split
 all_goals rfl
theorem Q3J (m:Qb) (who:Nat):(Jb m who).entries=m.entries:=by
 unfold Jb
 simp only
 split
 · rfl
 · exact Q01 _ _ _
 · rfl
 · rfl
 · exact DW _ _ _
 · split<;>rfl
 · rfl
theorem Q2L (m:Qb) (who:Nat):(Xx m who).entries=m.entries:=by
 unfold Xx
 simp only
 repeat' split
 all_goals rfl
theorem Db (m:Qb) (who:Nat):(X9 m who).entries=m.entries:=by
 unfold X9
 simp only
 repeat' split
 all_goals rfl
theorem Ug (m:Qb) (who:Nat):(JV m who).entries=m.entries:=by
 unfold JV
 simp only
 rfl
theorem Q2I (m:Qb) (who:Nat):(Xw m who).entries=m.entries:=by
 unfold Xw
 simp only
 rfl
theorem Q29 (m:Qb) (who:Nat):(XW m who).entries=m.entries:=by
 unfold XW
 simp only
 split
 · exact Db _ _
 · exact Ug _ _
theorem Q1L (m:Qb) (who:Nat):(Xl m who).entries=m.entries:=by
 unfold Xl
 simp only
 repeat' split
 all_goals rfl
theorem Q5U (m:Qb) (who:Nat):(QJ m who).entries=m.entries:=by
 unfold QJ
 simp only
 split
 · rfl
 split
 · exact Q3J _ _
 split
 · exact Q2L _ _
 split
 · exact Q2I _ _
 split
 · exact Q1L _ _
 split
 · exact Q29 _ _
 split
 · exact Db _ _
 split
 · exact Ug _ _
 · rfl
theorem ZN (m:Qb) (x:Qy):(doV m x).1.entries=m.entries+1:=by
 unfold doV
 simp only
 split
 · unfold Yr;split<;>rfl
 split
 · unfold KP
   split
   · simp only;split
     · rfl
     · exact Q5U _ _
   · rfl
 split
 · rfl
 split
 · split<;>rfl
 split
 · unfold Yv
   split
   · rfl
   · split<;>rfl
 · rfl
theorem U4 (W who:Nat):∀(f:Nat) (m:Qb) (k:Nat) (n r:Int),m.entries≤(Jy W who f m k n r).1.entries
 |0,m,k,n,r=>Int.le_refl _
 |f+1,m,k,n,r=>by
  unfold Jy
  have h:=ZN m (Jj (((who+k) % W:Nat):Int))
  split
  · simp only
    split
    · split
      · show m.entries≤(doV m _).1.entries;omega
      · show m.entries≤(doV m _).1.entries;omega
    · have:=U4 W who f (doV m (Jj (((who+k) % W:Nat):Int))).1 (k+1) n r
      omega
  · exact Int.le_refl _
theorem KE (W:Nat) (lim:Int) (order:List Int):∀(f:Nat) (m:Qb) (i:Nat) (n r:Int),m.entries≤(Z0 W lim order f m i n r).1.entries
 |0,m,i,n,r=>Int.le_refl _
 |f+1,m,i,n,r=>by
  unfold Z0
  have h:=U4 W (Za order i) W m 0 n r
  split
  · simp only
    split
    · have:=KE W lim order f (Jy W (Za order i) W m 0 n r).1 (i+1) ((Jy W (Za order i) W m 0 n r).2.2.1+1) (Jy W (Za order i) W m 0 n r).2.2.2
      omega
    · exact h
  · exact Int.le_refl _
end
end Go.Proofs.YtgjklfmnmljilaaGreatDoor

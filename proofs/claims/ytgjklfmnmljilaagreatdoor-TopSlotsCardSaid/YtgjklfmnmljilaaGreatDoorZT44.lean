/- A part of the proof: TrJ to TsC. -/
import Derived.Test.YtgjklfmnmljilaaGreatDoorZT03
import Derived.Test.YtgjklfmnmljilaaGreatDoorZT42
import Derived.Test.YtgjklfmnmljilaaGreatDoorZT43
namespace Go.Proofs.YtgjklfmnmljilaaGreatDoor
set_option linter.unusedVariables false
set_option linter.unusedSimpArgs false
set_option linter.unusedSectionVars false
set_option linter.unnecessarySimpa false
set_option maxRecDepth 100000
set_option maxHeartbeats 8000000
section
open Go.RowKit Go.Shelf Go.Lib
theorem XR (x:EvV):x.cells.length=18:=rfl
theorem Q3J:∀l:List EvV,(l.flatMap EvV.cells).length=l.length*18
 |[]=>rfl
 |x::t=>by rw [List.flatMap_cons,List.length_append,Q3J t,XR,List.length_cons];omega
theorem Q9s (l:List EvV):∀u∈l.flatMap EvV.cells,u.oneCell'=true:=by
 intro u hu
 obtain ⟨x, -,h⟩:=List.mem_flatMap.1 hu
 unfold EvV.cells at h
 simp only [List.mem_cons,List.not_mem_nil,or_false] at h
 rcases h with h|h|h|h|h|h|h|h|h|h|h|h|h|h|h|h|h|h<;>rw [h]<;>rfl
theorem DJ {w:World} {base:Nat} {e:TypeId} {k:Nat} {v:Value} {n:Nat} {C:List Value} (h:w.ownsRow base e k v n C) (hC:C.length=n*k):QX e k w v n C∧∀b,v.ownBlock=some b→base≤b:=by
 refine ⟨⟨hC, ?_⟩,fun b hb=>(h.lt b hb).1⟩
 rcases h.2 with ⟨h',h0⟩|⟨g,cap,cur,h',_,hg,hl,hm,hs,htake⟩
 · exact .inl ⟨h',h0⟩
 · refine .inr ⟨g,0,cap,cur,h',hg,hl,hm,by omega,fun j u hj=> ?_⟩
   have hjl:j<n*k:=by rw [←hC];exact (List.getElem?_eq_some_iff.1 hj).1
   rw [Nat.zero_add,←Array.getElem?_toList,←hj,←htake,List.getElem?_take,if_pos hjl]
def Q42 (w:World) (evs:List EvV) (e:Ending) (w':World):Prop:=∃v',e=.returned v'∧Xn w' v' evs∧(∀b,v'.ownBlock=some b→w.heap.size≤b)∧Fr [] w w'
theorem Q1x (w:World) (ve:Value) (evs:List EvV) (hE:Xn w ve evs) (hn:evs.length≤100000):Calls Tryz.prog 36 #[ve] w (Q42 w evs):=by
 obtain ⟨i0,hi,hz0,hz1,hz2⟩:=info_parts Q3K
 obtain ⟨n,hL⟩:∃n,evs.length=n:=⟨_,rfl⟩
 obtain ⟨C,hC⟩:∃C,evs.flatMap EvV.cells=C:=⟨_,rfl⟩
 have hlen:=Q3J evs
 have hone:=Q9s evs
 have hE':=hE
 unfold Xn at hE'
 rw [hC] at hlen hone hE'
 rw [hL] at hlen hE' hn
 rcases hE'.2 with ⟨rfl,h0⟩|⟨q,off,cap,cur,rfl,hg,h1,h2,h3,h4⟩
 · have HX:=hid hE
   have hnil0:=fun (wx:World)=>Lib.run_eql_slice_nil (P:=Tryz.prog) wx 63 50 none 0 0 0 0 Tryz.underlying63
   clear hE hE'
   go_in
   go_wp2
   go_ret
   exact ⟨_,rfl,HX.out,fun b hb=>(by cases hb),Fr.refl _ _⟩
 · have hnil:=fun (wx:World)=>Lib.run_eql_slice_nil (P:=Tryz.prog) wx 63 50 (some ⟨q,off,none⟩) n cap 0 0 Tryz.underlying63
   have hown:=World.ownsRow_lit (w:=w) (base:=w.heap.size) (e:=50) (size:=18) #[] 0 (Nat.le_refl _) (by unfold maxLen;omega) rfl
   have hnews:∀j u,C[j]?=some u→(w.alloc (.cells #[] 50)).cell? ((⟨q,off,none⟩:Addr).add j)=some u:=by
    intro j u hu
    rw [Addr.add_lit,←cell_of hg (h4 j u hu)]
    exact World.cell?_of_block (w:=w) (Below.heap_alloc _ _ _ (Q6 hg))
   have Hn':=hid hnews;clear hnews
   have HL:=hid hlen;clear hlen
   have HO:=hid hone;clear hone
   have HCC:=hid hC
   have HEL:=hid hL
   clear hE hE' hL hC h4 hg h3 h1 h2
   go_in
   go_wp2_with (first|(at_builtin;refine wpList_append_own _ rfl _ _ 63 rfl w.heap.size 50 i0 _ 18 136 Tryz.underlying63 hi hz0 hz1 hz2 rfl (by decide) _ _ _ rfl hown ⟨q,off,none⟩ n cap C rfl ?c0 Hn'.out HO.out ?c3 ?c4 ?c5 ?c6))
   case c0=>exact HL.out
   case c3=>unfold maxLen;omega
   case c4=>omega
   case c6=>
    intro v' w1 hown1 hgrow hnl
    have hfr:Fr [] w w1:=((Fr.refl [] w).alloc (.cells #[] 50)).grown hgrow (fun k hk=>by simp [Value.ownBlock] at hk;right;omega)
    have hlen:=HL.out
    have hC:=HCC.out
    have hL:=HEL.out
    obtain ⟨r1,r2⟩:=DJ hown1 hlen
    have HR:=hid r1;have HR2:=hid r2;have HFR:=hid hfr
    clear hnl hgrow hown1 r1 r2 hlen hC hL hfr
    obtain ⟨z,hz⟩:∃z,v'=z:=⟨_,rfl⟩
    go_wp2
    go_ret
    refine ⟨_,rfl, ?_,HR2.out,HFR.out⟩
    unfold Xn
    rw [HEL.out,HCC.out]
    have:=HR.out
    simpa using this
theorem Q1m (w:World) (pM pW pm pc pw n:Nat) (ve:Value) (c:Q0) (ent mat:Int) (hMB:QB w pM pW pm pc pw n ve c ent mat) (evs:List EvV) (hE:Xn w ve evs) (hn:evs.length≤100000):
 Calls Tryz.prog 19 #[.pointer (some ⟨pM,0,none⟩)] w (Q42 w evs):=by
 have HC:=hid (Q1x w ve evs hE hn)
 have q:=cl 8 hMB
 clear hMB hE
 go_in
 go_wp2_with fail
 refine HC.out.mono ?_
 rintro e w1 ⟨v',rfl,a1,a2,a3⟩
 have H1:=hid a1;have H2:=hid a2;have H3:=hid a3
 clear a1 a2 a3
 go_wp2
 go_ret
 exact ⟨_,rfl,H1.out,H2.out,H3.out⟩
variable {w w':World} {b:Bs} {c:Q0} {who:Nat} {S:List Nat} {F:List Nat} {m:Qb} {N N' n:Int}
theorem MAt.fr (A:MAt w F b m N) (f:Fr S w w') (hF:∀x∈F,x∉S) (h0:0∉S) (h2:2∉S):MAt w' F b m N:=by
 obtain ⟨ve,vr,v,L,A⟩:=A
 have hs:=f.size
 have B:∀x∈b.l,x∉S:=fun x hx=>hF x (A.bl x hx).2.2
 refine ⟨ve,vr,v,L,A.mb.fr f (B _ (by simp [Bs.l])),A.wr.fr f (B _ (by simp [Bs.l])),A.me.fr f (B _ (by simp [Bs.l])) (B _ (by simp [Bs.l])),A.ck.fr f (B _ (by simp [Bs.l])),A.wl.ov f (B _ (by simp [Bs.l])) (B _ (by simp [Bs.l])) fun x hx=>hF x (A.e2 x hx).1.2.2,QX.fr A.ev f fun x hx=>hF x (A.e1 x hx).1.2.2,
  A.fl.fr f h0,A.db.fr f h2,A.nd,fun x hx=> ?_,fun x hx=> ?_,fun x hx=> ?_,fun k hk=>(A.th k hk).fr f fun x hx=>hF x (A.l1 k hk x hx).1.2.2,A.ln,fun k hk x hx=> ?_,A.l2⟩
 · have:=A.bl x hx;exact ⟨this.1,by omega,this.2.2⟩
 · have:=A.e1 x hx;exact ⟨⟨this.1.1,by omega,this.1.2.2⟩,this.2⟩
 · have:=A.e2 x hx;exact ⟨⟨this.1.1,by omega,this.1.2.2⟩,this.2⟩
 · have:=A.l1 k hk x hx;exact ⟨⟨this.1.1,by omega,this.1.2.2⟩,this.2⟩
theorem MAt.do_ (A:MAt w F b m N) (I:MInv n m) (hN:N≤100000000) (hn:n≤1000000000) (h0:0≤m.entries) (h1:m.entries≤1000000000) (x:QF):
 Calls Tryz.prog 11 #[pt b.pM,x.val] w (Q1V w F b (doV m x) (N+2)):=by
 obtain ⟨ve,vr,v,L,A⟩:=A
 exact r_do A I hN hn h0 h1 x
theorem MAt.state (A:MAt w F b m N) (hw:who<m.ws.length):Calls Tryz.prog 10 #[pt b.pM,.int .i64 who] w fun e w'=>e=.returned (.int .i64 (m.wk who).st)∧Fr [] w w':=by
 obtain ⟨ve,vr,v,L,A⟩:=A
 exact Q2Z w _ _ _ _ _ _ who _ _ _ _ _ _ _ A.mb (A.row who) hw A.ne.1
theorem MAt.words (A:MAt w F b m N) (I:MInv n m):Calls Tryz.prog 14 #[pt b.pM] w fun e w'=>∃g cp,e=.returned (.slice (some ⟨g,0,none⟩) m.M.length cp)∧w'.ownsRow w.heap.size 3 1 (.slice (some ⟨g,0,none⟩) m.M.length cp) m.M.length (m.M.map (Value.int .i64))∧Fr [] w w':=by
 obtain ⟨ve,vr,v,L,A⟩:=A
 have len:=I.mem.len;have wo:=I.mem.cf.1;have sl:=I.mem.cf.2.1
 exact Q2Y w _ _ _ _ _ _ _ _ _ _ _ _ _ A.mb A.me (by unfold Q0.cells at len;omega)
theorem MAt.events (A:MAt w F b m N) (I:MInv n m):Calls Tryz.prog 19 #[pt b.pM] w (Q42 w m.evs):=by
 obtain ⟨ve,vr,v,L,A⟩:=A
 have h1:=I.ev;have h2:=Yg m.ws
 exact Q1m w _ _ _ _ _ _ _ _ _ _ A.mb _ A.ev (by omega)
def Q3X (w:World) (c:Q0) (e:Ending) (w':World):Prop:=∃b F,e=.returned (.tuple #[pt b.pM,.int .i64 0])∧MAt w' F b (QH c) 0∧(∀x∈F,w.heap.size≤x)∧Fr [] w w'
theorem r_new (w:World) (c:Q0) (hc:c.fits) (h3:3≤w.heap.size) (hfl:Qf w 0 Qc) (hdb:Vo w):Calls Tryz.prog 17 #[c.val] w (Q3X w c):=by
 refine (Q77 w c hc).mono ?_
 rintro e w' ⟨pM,pW,pm,pc,pw,pr,qm,rfl,⟨z1,z2,z3,z4,z5,z6,z7⟩,nd,mb,wr,me,ck,wl,f⟩
 have hsz:(QH c).ws.length=c.wo.toNat:=by simp [QH]
 have W:∀k,(QH c).wk k=Jd:=KZ c
 have l1:=Q6 mb;have l2:=wr.lt;have l3:=me.plt;have l4:=me.qlt;have l5:=Q6 ck;have l6:=Q6 wl.b;have l7:=Q6 wl.r.1
 refine ⟨⟨pM,pW,pm,qm,pc,pw,pr⟩,[pM,pW,pm,qm,pc,pw,pr],rfl,⟨.slice none 0 0,.slice none 0 0,fun _=>Q8T,fun _=>[], ?_⟩,fun x hx=> ?_,f⟩
 · refine ⟨by rw [hsz];exact mb,by rw [hsz];simp only [W];exact wr,me,ck,wl,QX.nil _ _ _,hfl.fr f (by simp),hdb.fr f (by simp),nd,fun x hx=> ?_,fun x hx=>(by cases hx),fun x hx=>(by cases hx),fun k hk=>by rw [W];exact Er (.inl rfl),fun k hk=>by simp,fun k hk x hx=>(by cases hx),fun j k _ _ _ x hx=>(by cases hx)⟩
   simp only [Bs.l,List.mem_cons,List.not_mem_nil,or_false] at hx
   rcases hx with rfl|rfl|rfl|rfl|rfl|rfl|rfl<;>refine ⟨by omega,by assumption,by simp⟩
 · simp only [List.mem_cons,List.not_mem_nil,or_false] at hx
   rcases hx with rfl|rfl|rfl|rfl|rfl|rfl|rfl<;>assumption
end
section
open Go.RowKit Go.Shelf Go.Lib
attribute [local go_sem] Oper.semAt_some
def XL.val (a:XL):Value:=.agg #[.int .i64 a.op,.int .i64 a.dl,.bool a.wait,.bool a.force,.int .i64 a.slot,.int .i64 a.gen,.int .i64 a.stream]
def XO (b n:Nat):Value:=.slice (some ⟨b,0,none⟩) n n
structure HB (w:World) (p g1 g2 g3 n:Nat) (W G:List Int) (C:List Value):Prop where
 b:w.heap[p]?=some (.cells #[XO g1 n,XO g2 n,XO g3 n] 73 (0,0))
 b1:w.heap[g1]?=some (.cells (W.map (Value.int .i64)).toArray 3 (0,0))
 b2:w.heap[g2]?=some (.cells (G.map (Value.int .i64)).toArray 3 (0,0))
 b3:w.heap[g3]?=some (.cells C.toArray 59 (0,0))
 l1:W.length=n
 l2:G.length=n
 l3:C.length=n
 ne:(p≠g1∧p≠g2∧p≠g3)∧(g1≠g2∧g1≠g3)∧g2≠g3
theorem HB.fr {w w':World} {p g1 g2 g3 n:Nat} {W G:List Int} {C:List Value} (h:HB w p g1 g2 g3 n W G C) {S:List Nat} (f:Fr S w w') (h0:p∉S) (h1:g1∉S) (h2:g2∉S) (h3:g3∉S):HB w' p g1 g2 g3 n W G C:=
 ⟨f.at h.b h0,f.at h.b1 h1,f.at h.b2 h2,f.at h.b3 h3,h.l1,h.l2,h.l3,h.ne⟩
theorem Xy {w:World} {g:Nat} {L:List Int} (h:w.heap[g]?=some (.cells (L.map (Value.int .i64)).toArray 3 (0,0))) {i:Nat} (hi:i<L.length):w.cell? ⟨g,i,none⟩=some (.int .i64 (L.getD i 0)):=by
 refine cell_of h ?_
 rw [List.getElem?_toArray,List.getElem?_map,List.getD_eq_getElem?_getD,List.getElem?_eq_getElem hi];rfl
theorem YK {w:World} {g:Nat} {L:List Value} {e:TypeId} (h:w.heap[g]?=some (.cells L.toArray e (0,0))) {i:Nat} {v:Value} (hi:L[i]?=some v):w.cell? ⟨g,i,none⟩=some v:=
 cell_of h (by rw [List.getElem?_toArray];exact hi)
theorem Q9j (w:World) (p g1 g2 g3 n:Nat) (W G:List Int) (C:List Value) (H:HB w p g1 g2 g3 n W G C) (who:Int) (a:XL) (ha:a.slot<0):
 Calls Tryz.prog 51 #[pt p,.int .i64 who,a.val] w fun e w'=>e=.returned (.bool false)∧Fr [] w w':=by
 obtain ⟨aop,adl,awt,afc,asl,agn,ast⟩:=a
 unfold XL.val pt
 dsimp only at*
 have d0:decide (asl<0)=true:=decide_eq_true ha
 have HNE:=hid (And.intro H.ne (And.intro (Q6 H.b) (And.intro (Q6 H.b1) (Q6 H.b2))))
 have HP:=hid H.b
 have H1:=hid H.b1
 have H2:=hid H.b2
 have HL1:=hid H.l1;have HL2:=hid H.l2
 unfold XO at HP
 clear H
 have HF:=hid (Fr.refl [] w)
 go_in
 go_wp2_with fail
 have xHP:=Q6 HP.out
 have xH1:=Q6 H1.out
 have xH2:=Q6 H2.out
 have hb:=heap_alloc_new w (.cells #[.int .i64 aop,.int .i64 adl,.bool awt,.bool afc,.int .i64 asl,.int .i64 agn,.int .i64 ast] 37 (0,0))
 have fb:=(Fr.refl [] w).alloc (.cells #[.int .i64 aop,.int .i64 adl,.bool awt,.bool afc,.int .i64 asl,.int .i64 agn,.int .i64 ast] 37 (0,0))
 have hbs:=HF.out.size
 have hbw:w.heap.size≤w.heap.size:=Nat.le_refl _
 replace HP:=hid (fb.ar HP.out)
 replace H1:=hid (fb.ar H1.out)
 replace H2:=hid (fb.ar H2.out)
 replace HF:=hid (HF.out.tm fb)
 clear fb
 obtain ⟨pa,hbe⟩:∃x,w.heap.size=x:=⟨_,rfl⟩
 have hbl:=Nat.le_of_eq hbe
 clear hbs
 have hbs:=Nat.le_of_eq hbe
 rw [hbe] at hb hbw xHP xH1 xH2 ⊢
 generalize w.alloc (.cells #[.int .i64 aop,.int .i64 adl,.bool awt,.bool afc,.int .i64 asl,.int .i64 agn,.int .i64 ast] 37 (0,0))=w1 at hb HP H1 H2 HF ⊢
 clear hbe hbw
 have HA:=hid hb
 clear hb
 replace HNE:=hid (And.intro HNE.out xHP)
 clear xHP
 replace HNE:=hid (And.intro HNE.out xH1)
 clear xH1
 replace HNE:=hid (And.intro HNE.out xH2)
 clear xH2
 replace HNE:=hid (And.intro HNE.out hbl)
 clear hbl
 replace HNE:=hid (And.intro HNE.out hbs)
 clear hbs
 have qHA4:=cl 4 HA.out
 refine wp_region_held_drew (S:=fun w'=>w'.cell? ⟨pa,4,none⟩=some (.int .i64 asl)) (by kernel_rfl) qHA4 (fun hHeld=> ?_)
 clear qHA4
 have fd:=(Fr.refl [] w1).drew
 replace HP:=hid (fd.ar HP.out)
 replace H1:=hid (fd.ar H1.out)
 replace H2:=hid (fd.ar H2.out)
 replace HA:=hid (fd.ar HA.out)
 replace HF:=hid (HF.out.tm fd)
 clear fd
 refine tk 0 ?_
 refine tk 1 ?_
 refine tk 2 ?_
 refine tk 3 ?_
 refine tu 4 ?_
 refine tu 5 ?_
 refine tu 6 ?_
 refine tu 7 ?_
 refine tu 8 ?_
 refine tu 9 ?_
 refine tu 10 ?_
 refine tu 11 ?_
 refine tk 12 ?_
 refine wpAnyH_done (by kernel_rfl) ?_ _
 clear hHeld
 go_wp2
 go_ret
 exact ⟨rfl,HF.out⟩
theorem Q7p (w:World) (p g1 g2 g3 n:Nat) (W G:List Int) (C:List Value) (H:HB w p g1 g2 g3 n W G C) (who:Int) (a:XL) (h0:0≤a.slot) (h1:(n:Int)≤a.slot):
 Calls Tryz.prog 51 #[pt p,.int .i64 who,a.val] w fun e w'=>e=.returned (.bool false)∧Fr [] w w':=by
 obtain ⟨aop,adl,awt,afc,asl,agn,ast⟩:=a
 unfold XL.val pt
 dsimp only at*
 have d0:decide (asl<0)=false:=decide_eq_false (by omega)
 have HNE:=hid (And.intro H.ne (And.intro (Q6 H.b) (And.intro (Q6 H.b1) (Q6 H.b2))))
 have HP:=hid H.b
 have H1:=hid H.b1
 have H2:=hid H.b2
 have HL1:=hid H.l1;have HL2:=hid H.l2
 unfold XO at HP
 clear H
 have HF:=hid (Fr.refl [] w)
 go_in
 go_wp2_with fail
 have xHP:=Q6 HP.out
 have xH1:=Q6 H1.out
 have xH2:=Q6 H2.out
 have hb:=heap_alloc_new w (.cells #[.int .i64 aop,.int .i64 adl,.bool awt,.bool afc,.int .i64 asl,.int .i64 agn,.int .i64 ast] 37 (0,0))
 have fb:=(Fr.refl [] w).alloc (.cells #[.int .i64 aop,.int .i64 adl,.bool awt,.bool afc,.int .i64 asl,.int .i64 agn,.int .i64 ast] 37 (0,0))
 have hbs:=HF.out.size
 have hbw:w.heap.size≤w.heap.size:=Nat.le_refl _
 replace HP:=hid (fb.ar HP.out)
 replace H1:=hid (fb.ar H1.out)
 replace H2:=hid (fb.ar H2.out)
 replace HF:=hid (HF.out.tm fb)
 clear fb
 obtain ⟨pa,hbe⟩:∃x,w.heap.size=x:=⟨_,rfl⟩
 have hbl:=Nat.le_of_eq hbe
 clear hbs
 have hbs:=Nat.le_of_eq hbe
 rw [hbe] at hb hbw xHP xH1 xH2 ⊢
 generalize w.alloc (.cells #[.int .i64 aop,.int .i64 adl,.bool awt,.bool afc,.int .i64 asl,.int .i64 agn,.int .i64 ast] 37 (0,0))=w1 at hb HP H1 H2 HF ⊢
 clear hbe hbw
 have HA:=hid hb
 clear hb
 replace HNE:=hid (And.intro HNE.out xHP)
 clear xHP
 replace HNE:=hid (And.intro HNE.out xH1)
 clear xH1
 replace HNE:=hid (And.intro HNE.out xH2)
 clear xH2
 replace HNE:=hid (And.intro HNE.out hbl)
 clear hbl
 replace HNE:=hid (And.intro HNE.out hbs)
 clear hbs
 have qHA4:=cl 4 HA.out
 have qHP0:=cl 0 HP.out
 refine wp_region_held_drew (S:=fun w'=>w'.cell? ⟨pa,4,none⟩=some (.int .i64 asl)∧w'.cell? ⟨p,0,none⟩=some (.slice (some ⟨g1,0,none⟩) n n)) (by kernel_rfl) ⟨qHA4,qHP0⟩ (fun hHeld=> ?_)
 clear qHA4 qHP0
 have fd:=(Fr.refl [] w1).drew
 replace HP:=hid (fd.ar HP.out)
 replace H1:=hid (fd.ar H1.out)
 replace H2:=hid (fd.ar H2.out)
 replace HA:=hid (fd.ar HA.out)
 replace HF:=hid (HF.out.tm fd)
 clear fd
 refine tk 0 ?_
 refine tk 1 ?_
 refine tk 2 ?_
 refine tk 3 ?_
 refine tk 4 ?_
 refine tk 5 ?_
 refine tk 6 ?_
 refine tk 7 ?_
 refine tk 8 ?_
 refine tk 9 ?_
 refine tk 10 ?_
 refine tk 11 ?_
 refine tk 12 ?_
 refine wpAnyH_done (by kernel_rfl) ?_ _
 clear hHeld
 go_wp2
 go_ret
 exact ⟨rfl,HF.out⟩
theorem Q9i (w:World) (p g1 g2 g3 n:Nat) (W G:List Int) (C:List Value) (H:HB w p g1 g2 g3 n W G C) (who:Int) (a:XL) (i:Nat) (h0:a.slot=i) (h1:i<n) (hb:IntKind.i64.wrap (who+1)=who+1) (ha:W.getD i 0≠who+1):
 Calls Tryz.prog 51 #[pt p,.int .i64 who,a.val] w fun e w'=>e=.returned (.bool false)∧Fr [] w w':=by
 obtain ⟨aop,adl,awt,afc,asl,agn,ast⟩:=a
 unfold XL.val pt
 dsimp only at*
 subst h0
 obtain ⟨v1,hv1⟩:∃v,W.getD i 0=v:=⟨_,rfl⟩
 obtain ⟨v2,hv2⟩:∃v,G.getD i 0=v:=⟨_,rfl⟩
 have HV1:=hid hv1;have HV2:=hid hv2
 rw [hv1] at ha
 clear hv1 hv2
 have d0:decide ((i:Int)<0)=false:=decide_eq_false (by omega)
 have d1:decide (n≤i)=false:=decide_eq_false (by omega)
 have d2:(v1==who+1)=false:=by simp [ha]
 clear ha
 have HNE:=hid (And.intro H.ne (And.intro (Q6 H.b) (And.intro (Q6 H.b1) (Q6 H.b2))))
 have HP:=hid H.b
 have H1:=hid H.b1
 have H2:=hid H.b2
 have HL1:=hid H.l1;have HL2:=hid H.l2
 unfold XO at HP
 clear H
 have HF:=hid (Fr.refl [] w)
 go_in
 go_wp2_with fail
 have xHP:=Q6 HP.out
 have xH1:=Q6 H1.out
 have xH2:=Q6 H2.out
 have hb:=heap_alloc_new w (.cells #[.int .i64 aop,.int .i64 adl,.bool awt,.bool afc,.int .i64 (i:Int),.int .i64 agn,.int .i64 ast] 37 (0,0))
 have fb:=(Fr.refl [] w).alloc (.cells #[.int .i64 aop,.int .i64 adl,.bool awt,.bool afc,.int .i64 (i:Int),.int .i64 agn,.int .i64 ast] 37 (0,0))
 have hbs:=HF.out.size
 have hbw:w.heap.size≤w.heap.size:=Nat.le_refl _
 replace HP:=hid (fb.ar HP.out)
 replace H1:=hid (fb.ar H1.out)
 replace H2:=hid (fb.ar H2.out)
 replace HF:=hid (HF.out.tm fb)
 clear fb
 obtain ⟨pa,hbe⟩:∃x,w.heap.size=x:=⟨_,rfl⟩
 have hbl:=Nat.le_of_eq hbe
 clear hbs
 have hbs:=Nat.le_of_eq hbe
 rw [hbe] at hb hbw xHP xH1 xH2 ⊢
 generalize w.alloc (.cells #[.int .i64 aop,.int .i64 adl,.bool awt,.bool afc,.int .i64 (i:Int),.int .i64 agn,.int .i64 ast] 37 (0,0))=w1 at hb HP H1 H2 HF ⊢
 clear hbe hbw
 have HA:=hid hb
 clear hb
 replace HNE:=hid (And.intro HNE.out xHP)
 clear xHP
 replace HNE:=hid (And.intro HNE.out xH1)
 clear xH1
 replace HNE:=hid (And.intro HNE.out xH2)
 clear xH2
 replace HNE:=hid (And.intro HNE.out hbl)
 clear hbl
 replace HNE:=hid (And.intro HNE.out hbs)
 clear hbs
 have qHA4:=cl 4 HA.out
 have qHP0:=cl 0 HP.out
 refine wp_region_held_drew (S:=fun w'=>w'.cell? ⟨pa,4,none⟩=some (.int .i64 (i:Int))∧w'.cell? ⟨p,0,none⟩=some (.slice (some ⟨g1,0,none⟩) n n)) (by kernel_rfl) ⟨qHA4,qHP0⟩ (fun hHeld=> ?_)
 clear qHA4 qHP0
 have fd:=(Fr.refl [] w1).drew
 replace HP:=hid (fd.ar HP.out)
 replace H1:=hid (fd.ar H1.out)
 replace H2:=hid (fd.ar H2.out)
 replace HA:=hid (fd.ar HA.out)
 replace HF:=hid (HF.out.tm fd)
 clear fd
 refine tk 0 ?_
 refine tk 1 ?_
 refine tk 2 ?_
 refine tk 3 ?_
 refine tk 4 ?_
 refine tk 5 ?_
 refine tk 6 ?_
 refine tk 7 ?_
 refine tk 8 ?_
 refine tk 9 ?_
 refine tk 10 ?_
 refine tk 11 ?_
 refine tk 12 ?_
 refine wpAnyH_done (by kernel_rfl) ?_ _
 clear hHeld
 go_wp2_with fail
 have qHA4:=cl 4 HA.out
 have qHA5:=cl 5 HA.out
 have qHP0:=cl 0 HP.out
 have qHP1:=cl 1 HP.out
 have c1:=Xy H1.out (i:=i) (by rw [HL1.out];exact h1)
 rw [HV1.out] at c1
 have c2:=Xy H2.out (i:=i) (by rw [HL2.out];exact h1)
 rw [HV2.out] at c2
 refine wp_region_held_drew (S:=fun w'=>w'.cell? ⟨pa,4,none⟩=some (.int .i64 (i:Int))∧w'.cell? ⟨pa,5,none⟩=some (.int .i64 agn)∧w'.cell? ⟨p,0,none⟩=some (.slice (some ⟨g1,0,none⟩) n n)∧w'.cell? ⟨p,1,none⟩=some (.slice (some ⟨g2,0,none⟩) n n)∧w'.cell? ⟨g1,i,none⟩=some (.int .i64 v1)∧w'.cell? ⟨g2,i,none⟩=some (.int .i64 v2)) (by kernel_rfl) ⟨qHA4,qHA5,qHP0,qHP1,c1,c2⟩ (fun hHeld=> ?_)
 clear c1 c2
 clear qHA4 qHA5 qHP0 qHP1
 have fd:=(Fr.refl [] w1.drew).drew
 replace HP:=hid (fd.ar HP.out)
 replace H1:=hid (fd.ar H1.out)
 replace H2:=hid (fd.ar H2.out)
 replace HA:=hid (fd.ar HA.out)
 replace HF:=hid (HF.out.tm fd)
 clear fd
 refine tk 0 ?_
 refine tk 1 ?_
 refine tk 2 ?_
 refine tk 3 ?_
 refine tk 4 ?_
 refine tk 5 ?_
 refine tk 6 ?_
 refine tk 7 ?_
 refine tk 8 ?_
 refine tk 9 ?_
 refine tk 10 ?_
 refine tk 11 ?_
 refine tu 12 ?_
 refine tu 13 ?_
 refine tu 14 ?_
 refine tu 15 ?_
 refine tu 16 ?_
 refine tu 17 ?_
 refine tu 18 ?_
 refine tu 19 ?_
 refine tu 20 ?_
 refine tu 21 ?_
 refine tu 22 ?_
 refine tk 23 ?_
 refine tk 24 ?_
 refine wpAnyH_done (by kernel_rfl) ?_ _
 clear hHeld
 go_wp2
 go_ret
 exact ⟨rfl,HF.out⟩
theorem Q9h (w:World) (p g1 g2 g3 n:Nat) (W G:List Int) (C:List Value) (H:HB w p g1 g2 g3 n W G C) (who:Int) (a:XL) (i:Nat) (h0:a.slot=i) (h1:i<n) (hb:IntKind.i64.wrap (who+1)=who+1) (ha:W.getD i 0=who+1) (ha2:G.getD i 0≠a.gen):
 Calls Tryz.prog 51 #[pt p,.int .i64 who,a.val] w fun e w'=>e=.returned (.bool false)∧Fr [] w w':=by
 obtain ⟨aop,adl,awt,afc,asl,agn,ast⟩:=a
 unfold XL.val pt
 dsimp only at*
 subst h0
 obtain ⟨v1,hv1⟩:∃v,W.getD i 0=v:=⟨_,rfl⟩
 obtain ⟨v2,hv2⟩:∃v,G.getD i 0=v:=⟨_,rfl⟩
 have HV1:=hid hv1;have HV2:=hid hv2
 rw [hv1] at ha;rw [hv2] at ha2
 clear hv1 hv2
 have d0:decide ((i:Int)<0)=false:=decide_eq_false (by omega)
 have d1:decide (n≤i)=false:=decide_eq_false (by omega)
 have d2:(v1==who+1)=true:=by simp [ha]
 have d3:(v2==agn)=false:=by simp [ha2]
 clear ha ha2
 have HNE:=hid (And.intro H.ne (And.intro (Q6 H.b) (And.intro (Q6 H.b1) (Q6 H.b2))))
 have HP:=hid H.b
 have H1:=hid H.b1
 have H2:=hid H.b2
 have HL1:=hid H.l1;have HL2:=hid H.l2
 unfold XO at HP
 clear H
 have HF:=hid (Fr.refl [] w)
 go_in
 go_wp2_with fail
 have xHP:=Q6 HP.out
 have xH1:=Q6 H1.out
 have xH2:=Q6 H2.out
 have hb:=heap_alloc_new w (.cells #[.int .i64 aop,.int .i64 adl,.bool awt,.bool afc,.int .i64 (i:Int),.int .i64 agn,.int .i64 ast] 37 (0,0))
 have fb:=(Fr.refl [] w).alloc (.cells #[.int .i64 aop,.int .i64 adl,.bool awt,.bool afc,.int .i64 (i:Int),.int .i64 agn,.int .i64 ast] 37 (0,0))
 have hbs:=HF.out.size
 have hbw:w.heap.size≤w.heap.size:=Nat.le_refl _
 replace HP:=hid (fb.ar HP.out)
 replace H1:=hid (fb.ar H1.out)
 replace H2:=hid (fb.ar H2.out)
 replace HF:=hid (HF.out.tm fb)
 clear fb
 obtain ⟨pa,hbe⟩:∃x,w.heap.size=x:=⟨_,rfl⟩
 have hbl:=Nat.le_of_eq hbe
 clear hbs
 have hbs:=Nat.le_of_eq hbe
 rw [hbe] at hb hbw xHP xH1 xH2 ⊢
 generalize w.alloc (.cells #[.int .i64 aop,.int .i64 adl,.bool awt,.bool afc,.int .i64 (i:Int),.int .i64 agn,.int .i64 ast] 37 (0,0))=w1 at hb HP H1 H2 HF ⊢
 clear hbe hbw
 have HA:=hid hb
 clear hb
 replace HNE:=hid (And.intro HNE.out xHP)
 clear xHP
 replace HNE:=hid (And.intro HNE.out xH1)
 clear xH1
 replace HNE:=hid (And.intro HNE.out xH2)
 clear xH2
 replace HNE:=hid (And.intro HNE.out hbl)
 clear hbl
 replace HNE:=hid (And.intro HNE.out hbs)
 clear hbs
 have qHA4:=cl 4 HA.out
 have qHP0:=cl 0 HP.out
 refine wp_region_held_drew (S:=fun w'=>w'.cell? ⟨pa,4,none⟩=some (.int .i64 (i:Int))∧w'.cell? ⟨p,0,none⟩=some (.slice (some ⟨g1,0,none⟩) n n)) (by kernel_rfl) ⟨qHA4,qHP0⟩ (fun hHeld=> ?_)
 clear qHA4 qHP0
 have fd:=(Fr.refl [] w1).drew
 replace HP:=hid (fd.ar HP.out)
 replace H1:=hid (fd.ar H1.out)
 replace H2:=hid (fd.ar H2.out)
 replace HA:=hid (fd.ar HA.out)
 replace HF:=hid (HF.out.tm fd)
 clear fd
 refine tk 0 ?_
 refine tk 1 ?_
 refine tk 2 ?_
 refine tk 3 ?_
 refine tk 4 ?_
 refine tk 5 ?_
 refine tk 6 ?_
 refine tk 7 ?_
 refine tk 8 ?_
 refine tk 9 ?_
 refine tk 10 ?_
 refine tk 11 ?_
 refine tk 12 ?_
 refine wpAnyH_done (by kernel_rfl) ?_ _
 clear hHeld
 go_wp2_with fail
 have qHA4:=cl 4 HA.out
 have qHA5:=cl 5 HA.out
 have qHP0:=cl 0 HP.out
 have qHP1:=cl 1 HP.out
 have c1:=Xy H1.out (i:=i) (by rw [HL1.out];exact h1)
 rw [HV1.out] at c1
 have c2:=Xy H2.out (i:=i) (by rw [HL2.out];exact h1)
 rw [HV2.out] at c2
 refine wp_region_held_drew (S:=fun w'=>w'.cell? ⟨pa,4,none⟩=some (.int .i64 (i:Int))∧w'.cell? ⟨pa,5,none⟩=some (.int .i64 agn)∧w'.cell? ⟨p,0,none⟩=some (.slice (some ⟨g1,0,none⟩) n n)∧w'.cell? ⟨p,1,none⟩=some (.slice (some ⟨g2,0,none⟩) n n)∧w'.cell? ⟨g1,i,none⟩=some (.int .i64 v1)∧w'.cell? ⟨g2,i,none⟩=some (.int .i64 v2)) (by kernel_rfl) ⟨qHA4,qHA5,qHP0,qHP1,c1,c2⟩ (fun hHeld=> ?_)
 clear c1 c2
 clear qHA4 qHA5 qHP0 qHP1
 have fd:=(Fr.refl [] w1.drew).drew
 replace HP:=hid (fd.ar HP.out)
 replace H1:=hid (fd.ar H1.out)
 replace H2:=hid (fd.ar H2.out)
 replace HA:=hid (fd.ar HA.out)
 replace HF:=hid (HF.out.tm fd)
 clear fd
 refine tk 0 ?_
 refine tk 1 ?_
 refine tk 2 ?_
 refine tk 3 ?_
 refine tk 4 ?_
 refine tk 5 ?_
 refine tk 6 ?_
 refine tk 7 ?_
 refine tk 8 ?_
 refine tk 9 ?_
 refine tk 10 ?_
 refine tk 11 ?_
 refine tk 12 ?_
 refine tk 13 ?_
 refine tk 14 ?_
 refine tk 15 ?_
 refine tk 16 ?_
 refine tk 17 ?_
 refine tk 18 ?_
 refine tk 19 ?_
 refine tk 20 ?_
 refine tk 21 ?_
 refine tk 22 ?_
 refine tk 23 ?_
 refine tk 24 ?_
 refine wpAnyH_done (by kernel_rfl) ?_ _
 clear hHeld
 go_wp2
 go_ret
 exact ⟨rfl,HF.out⟩
theorem Q9g (w:World) (p g1 g2 g3 n:Nat) (W G:List Int) (C:List Value) (H:HB w p g1 g2 g3 n W G C) (who:Int) (a:XL) (i:Nat) (h0:a.slot=i) (h1:i<n) (hb:IntKind.i64.wrap (who+1)=who+1) (ha:W.getD i 0=who+1) (ha2:G.getD i 0=a.gen):
 Calls Tryz.prog 51 #[pt p,.int .i64 who,a.val] w fun e w'=>e=.returned (.bool true)∧Fr [] w w':=by
 obtain ⟨aop,adl,awt,afc,asl,agn,ast⟩:=a
 unfold XL.val pt
 dsimp only at*
 subst h0
 obtain ⟨v1,hv1⟩:∃v,W.getD i 0=v:=⟨_,rfl⟩
 obtain ⟨v2,hv2⟩:∃v,G.getD i 0=v:=⟨_,rfl⟩
 have HV1:=hid hv1;have HV2:=hid hv2
 rw [hv1] at ha;rw [hv2] at ha2
 clear hv1 hv2
 have d0:decide ((i:Int)<0)=false:=decide_eq_false (by omega)
 have d1:decide (n≤i)=false:=decide_eq_false (by omega)
 have d2:(v1==who+1)=true:=by simp [ha]
 have d3:(v2==agn)=true:=by simp [ha2]
 clear ha ha2
 have HNE:=hid (And.intro H.ne (And.intro (Q6 H.b) (And.intro (Q6 H.b1) (Q6 H.b2))))
 have HP:=hid H.b
 have H1:=hid H.b1
 have H2:=hid H.b2
 have HL1:=hid H.l1;have HL2:=hid H.l2
 unfold XO at HP
 clear H
 have HF:=hid (Fr.refl [] w)
 go_in
 go_wp2_with fail
 have xHP:=Q6 HP.out
 have xH1:=Q6 H1.out
 have xH2:=Q6 H2.out
 have hb:=heap_alloc_new w (.cells #[.int .i64 aop,.int .i64 adl,.bool awt,.bool afc,.int .i64 (i:Int),.int .i64 agn,.int .i64 ast] 37 (0,0))
 have fb:=(Fr.refl [] w).alloc (.cells #[.int .i64 aop,.int .i64 adl,.bool awt,.bool afc,.int .i64 (i:Int),.int .i64 agn,.int .i64 ast] 37 (0,0))
 have hbs:=HF.out.size
 have hbw:w.heap.size≤w.heap.size:=Nat.le_refl _
 replace HP:=hid (fb.ar HP.out)
 replace H1:=hid (fb.ar H1.out)
 replace H2:=hid (fb.ar H2.out)
 replace HF:=hid (HF.out.tm fb)
 clear fb
 obtain ⟨pa,hbe⟩:∃x,w.heap.size=x:=⟨_,rfl⟩
 have hbl:=Nat.le_of_eq hbe
 clear hbs
 have hbs:=Nat.le_of_eq hbe
 rw [hbe] at hb hbw xHP xH1 xH2 ⊢
 generalize w.alloc (.cells #[.int .i64 aop,.int .i64 adl,.bool awt,.bool afc,.int .i64 (i:Int),.int .i64 agn,.int .i64 ast] 37 (0,0))=w1 at hb HP H1 H2 HF ⊢
 clear hbe hbw
 have HA:=hid hb
 clear hb
 replace HNE:=hid (And.intro HNE.out xHP)
 clear xHP
 replace HNE:=hid (And.intro HNE.out xH1)
 clear xH1
 replace HNE:=hid (And.intro HNE.out xH2)
 clear xH2
 replace HNE:=hid (And.intro HNE.out hbl)
 clear hbl
 replace HNE:=hid (And.intro HNE.out hbs)
 clear hbs
 have qHA4:=cl 4 HA.out
 have qHP0:=cl 0 HP.out
 refine wp_region_held_drew (S:=fun w'=>w'.cell? ⟨pa,4,none⟩=some (.int .i64 (i:Int))∧w'.cell? ⟨p,0,none⟩=some (.slice (some ⟨g1,0,none⟩) n n)) (by kernel_rfl) ⟨qHA4,qHP0⟩ (fun hHeld=> ?_)
 clear qHA4 qHP0
 have fd:=(Fr.refl [] w1).drew
 replace HP:=hid (fd.ar HP.out)
 replace H1:=hid (fd.ar H1.out)
 replace H2:=hid (fd.ar H2.out)
 replace HA:=hid (fd.ar HA.out)
 replace HF:=hid (HF.out.tm fd)
 clear fd
 refine tk 0 ?_
 refine tk 1 ?_
 refine tk 2 ?_
 refine tk 3 ?_
 refine tk 4 ?_
 refine tk 5 ?_
 refine tk 6 ?_
 refine tk 7 ?_
 refine tk 8 ?_
 refine tk 9 ?_
 refine tk 10 ?_
 refine tk 11 ?_
 refine tk 12 ?_
 refine wpAnyH_done (by kernel_rfl) ?_ _
 clear hHeld
 go_wp2_with fail
 have qHA4:=cl 4 HA.out
 have qHA5:=cl 5 HA.out
 have qHP0:=cl 0 HP.out
 have qHP1:=cl 1 HP.out
 have c1:=Xy H1.out (i:=i) (by rw [HL1.out];exact h1)
 rw [HV1.out] at c1
 have c2:=Xy H2.out (i:=i) (by rw [HL2.out];exact h1)
 rw [HV2.out] at c2
 refine wp_region_held_drew (S:=fun w'=>w'.cell? ⟨pa,4,none⟩=some (.int .i64 (i:Int))∧w'.cell? ⟨pa,5,none⟩=some (.int .i64 agn)∧w'.cell? ⟨p,0,none⟩=some (.slice (some ⟨g1,0,none⟩) n n)∧w'.cell? ⟨p,1,none⟩=some (.slice (some ⟨g2,0,none⟩) n n)∧w'.cell? ⟨g1,i,none⟩=some (.int .i64 v1)∧w'.cell? ⟨g2,i,none⟩=some (.int .i64 v2)) (by kernel_rfl) ⟨qHA4,qHA5,qHP0,qHP1,c1,c2⟩ (fun hHeld=> ?_)
 clear c1 c2
 clear qHA4 qHA5 qHP0 qHP1
 have fd:=(Fr.refl [] w1.drew).drew
 replace HP:=hid (fd.ar HP.out)
 replace H1:=hid (fd.ar H1.out)
 replace H2:=hid (fd.ar H2.out)
 replace HA:=hid (fd.ar HA.out)
 replace HF:=hid (HF.out.tm fd)
 clear fd
 refine tk 0 ?_
 refine tk 1 ?_
 refine tk 2 ?_
 refine tk 3 ?_
 refine tk 4 ?_
 refine tk 5 ?_
 refine tk 6 ?_
 refine tk 7 ?_
 refine tk 8 ?_
 refine tk 9 ?_
 refine tk 10 ?_
 refine tk 11 ?_
 refine tk 12 ?_
 refine tk 13 ?_
 refine tk 14 ?_
 refine tk 15 ?_
 refine tk 16 ?_
 refine tk 17 ?_
 refine tk 18 ?_
 refine tk 19 ?_
 refine tk 20 ?_
 refine tk 21 ?_
 refine tk 22 ?_
 refine tk 23 ?_
 refine tk 24 ?_
 refine wpAnyH_done (by kernel_rfl) ?_ _
 clear hHeld
 go_wp2
 go_ret
 exact ⟨rfl,HF.out⟩
end
end Go.Proofs.YtgjklfmnmljilaaGreatDoor

/- A part of the proof: TpFc to TpKa. -/
import Derived.Test.YtgjklfmnmljilaaGreatDoorZT03
import Derived.Test.YtgjklfmnmljilaaGreatDoorZT11
import Derived.Test.YtgjklfmnmljilaaGreatDoorZT14
import Derived.Test.YtgjklfmnmljilaaGreatDoorZT15
namespace Go.Proofs.YtgjklfmnmljilaaGreatDoor
set_option linter.unusedVariables false
set_option linter.unusedSimpArgs false
set_option linter.unusedSectionVars false
set_option linter.unnecessarySimpa false
set_option maxRecDepth 100000
set_option maxHeartbeats 8000000
section
open Go.RowKit Go.Shelf Go.Lib
attribute [local go_sem] Oper.semAt_some
def KC (w:World) (own:Int) (b1 b3 b4 b5:Nat):Prop:=w.cell? ⟨b1,0,none⟩=some (.int .i64 own)∧w.cell? ⟨b3,0,none⟩=some Vs∧w.cell? ⟨b4,0,none⟩=some (YI b3)∧w.cell? ⟨b5,0,none⟩=some VO
abbrev FQ (r:Bool) (w:World) (e:Ending) (w':World):Prop:=e=.returned (.bool r)∧Fr [] w w'
theorem ZE {w:World} {b1 b3 b4 b5 bm:Nat} (key:Int) (hw:(Lit.int .i64 key).wf=true) (hm:w.heap[bm]?=some (.map (Q7W b1 b3 b4 b5) 7)) {i:Nat} {v:Value} (hf:Instr.findNow (.int .i64) (.int .i64 key) (Q7W b1 b3 b4 b5).toList 0=some (some (i,v))):
 (Instr.lookup 168 (.map (some bm)) (.int .i64 key) true).run Tryz.prog w=.ok (.tuple #[v,.bool true]) w:=
 Ui Tryz.underlying168 Tryz.underlying3 w bm _ 7 key hw hm i v hf rfl
theorem Kw {P:Prop} (h:P:=by
 generalize JZ s _ own=res at HC ⊢
 obtain ⟨st,so,str,br,mkd,us,gen,ep,ver⟩:=s
 unfold Q8.val at HC ⊢
 dsimp only at HC ⊢
 go_in
 go_wp2_with fail
 generalize hb:(World.heap w).size=b,hw:World.alloc w _=w1
 have B:=(Bag.nil [] w).al hw hb
 refine (Q7V _ own).mono ?_
 rintro e w2 ⟨b1,b3,b4,b5,bm,rfl,hm,g1,g3,g4,g5,f2⟩
 replace B:=B.tm f2
 have hlk:=HL.out b1 b3 b4 b5 w2 bm hm
 have HCC:=hid (HC.out b1 b3 b4 b5 w2 ⟨g1,g3,g4,g5⟩)
 try simp only [YI,VO,Vs] at hlk
 clear hm g1 g3 g4 g5 f2 HC HL hw hb
 have r:=B.q 0
 go_wp2_with fail
 refine HCC.out.mono ?_
 rintro e w3 ⟨rfl,f3⟩
 go_wp2
 go_ret
 exact ⟨by simp,(B.tm f3).fr⟩):P:=h
theorem Q1w (w:World) (s:Q8) (kind own:Int) (h0:0≤kind) (h1:kind≤6):Calls Tryz.prog 78 #[s.val,.int .i64 kind,.int .i64 own] w fun e w'=>e=.returned (.bool (JZ s kind own))∧Fr [] w w':=by
 have hk:kind=0∨kind=1∨kind=2∨kind=3∨kind=4∨kind=5∨kind=6:=by omega
 clear h0 h1
 rcases hk with rfl|rfl|rfl|rfl|rfl|rfl|rfl
 · have HC:=hid fun b1 b3 b4 b5 w' (g:KC w' own b1 b3 b4 b5)=>(Q7z w' s own b1 b3 b4 g.1 g.2.1 g.2.2.1).mono (R':=FQ (JZ s 0 own) w') fun _ _ h=>h
   have HL:=hid fun b1 b3 b4 b5 w' bm hm=>ZE (b1:=b1) (b3:=b3) (b4:=b4) (b5:=b5) (w:=w') (bm:=bm) 0 (by decide) hm rfl
   exact Kw
 · have HC:=hid fun b1 b3 b4 b5 w' (g:KC w' own b1 b3 b4 b5)=>(Kv w' s b3 g.2.1).mono (R':=FQ (JZ s 1 own) w') fun _ _ h=>h
   have HL:=hid fun b1 b3 b4 b5 w' bm hm=>ZE (b1:=b1) (b3:=b3) (b4:=b4) (b5:=b5) (w:=w') (bm:=bm) 1 (by decide) hm rfl
   exact Kw
 · have HC:=hid fun b1 b3 b4 b5 w' (g:KC w' own b1 b3 b4 b5)=>(UD w' s).mono (R':=FQ (JZ s 2 own) w') fun _ _ h=>h
   have HL:=hid fun b1 b3 b4 b5 w' bm hm=>ZE (b1:=b1) (b3:=b3) (b4:=b4) (b5:=b5) (w:=w') (bm:=bm) 2 (by decide) hm rfl
   exact Kw
 · have HC:=hid fun b1 b3 b4 b5 w' (g:KC w' own b1 b3 b4 b5)=>(Q5t w' s b3 b4 b5 g.2.1 g.2.2.1 g.2.2.2).mono (R':=FQ (JZ s 3 own) w') fun _ _ h=>h
   have HL:=hid fun b1 b3 b4 b5 w' bm hm=>ZE (b1:=b1) (b3:=b3) (b4:=b4) (b5:=b5) (w:=w') (bm:=bm) 3 (by decide) hm rfl
   exact Kw
 · have HC:=hid fun b1 b3 b4 b5 w' (g:KC w' own b1 b3 b4 b5)=>(Q3b w' s own b1 b3 g.1 g.2.1).mono (R':=FQ (JZ s 4 own) w') fun _ _ h=>h
   have HL:=hid fun b1 b3 b4 b5 w' bm hm=>ZE (b1:=b1) (b3:=b3) (b4:=b4) (b5:=b5) (w:=w') (bm:=bm) 4 (by decide) hm rfl
   exact Kw
 · have HC:=hid fun b1 b3 b4 b5 w' (g:KC w' own b1 b3 b4 b5)=>(Q7A w' s).mono (R':=FQ (JZ s 5 own) w') fun _ _ h=>h
   have HL:=hid fun b1 b3 b4 b5 w' bm hm=>ZE (b1:=b1) (b3:=b3) (b4:=b4) (b5:=b5) (w:=w') (bm:=bm) 5 (by decide) hm rfl
   exact Kw
 · have HC:=hid fun b1 b3 b4 b5 w' (g:KC w' own b1 b3 b4 b5)=>(Gm w' s).mono (R':=FQ (JZ s 6 own) w') fun _ _ h=>h
   have HL:=hid fun b1 b3 b4 b5 w' bm hm=>ZE (b1:=b1) (b3:=b3) (b4:=b4) (b5:=b5) (w:=w') (bm:=bm) 6 (by decide) hm rfl
   exact Kw
def QN (w:World) (p:Nat) (c:Q0) (f:Qi):Prop:=
 w.heap[p]?=some (.cells #[.int .i64 c.wo,.int .i64 c.sl,.int .i64 c.st,.int .i64 c.wa,.int .i64 c.us,.int .i64 f.kind,.int .i64 f.own,.int .i64 f.at_,.int .i64 f.word,.bool f.found] 224 (0,0))
theorem QN.fr {w w':World} {p:Nat} {c:Q0} {f:Qi} (h:QN w p c f) {S:List Nat} (g:Fr S w w') (hp:p∉S):QN w' p c f:=g.at h hp
def JX (c:Q0) (M:List Int):Prop:=∀i:Int,0≤i→i<c.sl→∃s:Q8,s.right∧Q7 M (c.slot i)=s.enc
structure Qi.ok (c:Q0) (f:Qi):Prop where
 k0:0≤f.kind
 k1:f.kind≤6
 a0:0≤f.at_
 a1:f.at_≤16
def Q41 (w:World) (p pm qm:Nat) (c:Q0) (n:Int) (x:Qi×Bool) (M:List Int) (e:Ending) (w':World):Prop:=
 e=.returned (.bool x.2)∧QN w' p c x.1∧Ql w' pm qm M (n+1)∧Fr [p,pm,qm] w w'
def Q0g (w:World) (c:Q0) (f:Qi) (e:Ending) (w':World):Prop:=∃p,e=.returned (.pointer (some ⟨p,0,none⟩))∧w.heap.size≤p∧QN w' p c f∧Fr [] w w'
theorem UA (w:World) (c:Q0) (kind own:Int):Calls Tryz.prog 154 #[c.val,.int .i64 kind,.int .i64 own,.int .i64 0] w (Q0g w c (QE kind own 0)):=by
 obtain ⟨wo,sl,st,wa,us⟩:=c
 unfold Q0.val
 dsimp only
 have hb:=heap_alloc_new (w.alloc (.cells #[.int .i64 wo,.int .i64 sl,.int .i64 st,.int .i64 wa,.int .i64 us] 30)) (.cells #[.int .i64 wo,.int .i64 sl,.int .i64 st,.int .i64 wa,.int .i64 us,.int .i64 kind,.int .i64 own,.int .i64 0,.int .i64 0,.bool false] 224)
 rw [World.size_alloc] at hb
 have HX:=hid (show Q0g w ⟨wo,sl,st,wa,us⟩ (QE kind own 0) (.returned (.pointer (some ⟨w.heap.size+1,0,none⟩))) _ from ⟨_,rfl,by omega,hb,((Fr.refl [] w).alloc _).alloc _⟩)
 clear hb
 go_in
 go_wp2
 go_ret
 exact HX.out
theorem UE (w:World) (p:Nat) (c:Q0) (f:Qi) (h:QN w p c f):Calls Tryz.prog 213 #[.pointer (some ⟨p,0,none⟩)] w fun e w'=>e=.returned (.bool (decide (c.sl≤f.at_)))∧Fr [] w w':=by
 unfold QN at h
 have q1:=cell_of (i:=1) h rfl;have q7:=cell_of (i:=7) h rfl
 clear h
 generalize c.sl=a at*
 generalize f.at_=b at*
 go_in
 go_wp2_with fail
 go_region
 all_goals go_wp2
 all_goals go_ret
 all_goals exact ⟨by simp,(Fr.refl [] w).drew⟩
theorem JV (w:World) (p:Nat) (c:Q0) (f:Qi) (h:QN w p c f):Calls Tryz.prog 157 #[.pointer (some ⟨p,0,none⟩)] w fun e w'=>e=.returned (if f.found then .tuple #[.int .i64 f.at_,.int .i64 f.word,.bool true] else .tuple #[.int .i64 0,.int .i64 0,.bool false])∧Fr [] w w':=by
 unfold QN at h
 have q7:=cell_of (i:=7) h rfl;have q8:=cell_of (i:=8) h rfl;have q9:=cell_of (i:=9) h rfl
 clear h
 generalize f.at_=a at*
 generalize f.word=b at*
 obtain ⟨fd,hfd⟩:∃x,f.found=x:=⟨_,rfl⟩
 rw [hfd] at q9 ⊢
 clear hfd
 cases fd
 · rw [if_neg (by simp)]
   go_in
   go_wp2
   go_ret3
   exact ⟨rfl,Fr.refl [] w⟩
 · rw [if_pos rfl]
   go_in
   go_wp2_with fail
   go_region
   all_goals go_wp2
   all_goals go_ret3
   all_goals exact ⟨rfl,(Fr.refl [] w).drew⟩
theorem Ky (w:World) (p:Nat) (c:Q0) (f:Qi) (h:QN w p c f):Calls Tryz.prog 237 #[.pointer (some ⟨p,0,none⟩)] w fun e w'=>e=.returned (.tuple #[])∧QN w' p c f.again∧Fr [p] w w':=by
 unfold QN at h
 have q9:=cell_of (i:=9) h rfl;have u9:=Q9 (i:=9) h
 have hb:=heap_setCell_same (i:=9) h (.bool false)
 simp only [List.setIfInBounds_toArray,List.set_cons_zero,List.set_cons_succ] at hb
 have HB:=hid (show QN _ p c f.again from hb)
 have HF:=hid ((Fr.refl [p] w).sc p 9 (.bool false))
 clear hb h
 go_in
 go_wp2
 go_end0
 exact ⟨rfl,HB.out,HF.out⟩
theorem Hu (w:World) (p:Nat) (c:Q0) (f:Qi) (h:QN w p c f) (ha0:0≤f.at_) (ha1:f.at_≤1000):Calls Tryz.prog 216 #[.pointer (some ⟨p,0,none⟩)] w fun e w'=>e=.returned (.tuple #[])∧QN w' p c f.go∧Fr [p] w w':=by
 unfold Qi.go
 have H:=hid h
 unfold QN at h
 have q7:=cell_of (i:=7) h rfl;have q9:=cell_of (i:=9) h rfl;have u9:=Q9 (i:=9) h;have u7:=Q9 (i:=7) h
 cases hfd:f.found
 · rw [hfd] at q9
   rw [if_neg (by simp)]
   clear h hfd
   go_in
   go_wp2
   go_end0
   exact ⟨rfl,H.out,Fr.refl _ _⟩
 · rw [hfd] at q9
   rw [if_pos rfl]
   have hb:=heap_setCell_same (i:=7) (heap_setCell_same (i:=9) h (.bool false)) (.int .i64 (f.at_+1))
   simp only [List.setIfInBounds_toArray,List.set_cons_zero,List.set_cons_succ] at hb
   have HB:=hid (show QN _ p c {f with found:=false,at_:=f.at_+1} from hb)
   have HF:=hid (((Fr.refl [p] w).sc p 9 (.bool false)).setCell (p:=⟨p,7,none⟩) (.inl (by simp)) (.int .i64 (f.at_+1)))
   clear hb h hfd
   generalize f.at_=at' at*
   go_in
   go_wp2
   go_end0
   exact ⟨rfl,HB.out,HF.out⟩
end
section
open Go.RowKit Go.Lib
abbrev tM (pm qm:Nat) (M:List Int) (n:Int):Th:=⟨true,[pm,qm],fun w=>Ql w pm qm M n,fun f h k=>k.fr f (h _ (by simp)) (h _ (by simp))⟩
theorem Bag.M {S0:List Nat} {w0 w w':World} {L L':List Th} {pm qm:Nat} {M:List Int} {n:Int} (B:Bag S0 w0 L w) {S:List Nat} (h:Ql w' pm qm M n) (f:Fr S w w') (ho:(gt L 1).own=true:=by exact rfl) (hp:[pm,qm]=(gt L 1).fp:=by exact rfl)
 (hS:S=(gt L 1).fp:=by exact rfl) (hi:1<L.length:=by exact Nat.lt_of_sub_ne_zero (by intro h;cases h)) (hL:L.set 1 (tM pm qm M n)=L':=by (try simp only [List.set_cons_zero,List.set_cons_succ]);exact rfl):Bag S0 w0 L' w':=
 B.up 1 (T':=tM pm qm M n) h f ho hp hS hi hL
end
section
open Go.RowKit Go.Shelf Go.Lib
attribute [local go_sem] Oper.semAt_some
theorem YW (w:World) (p pm qm:Nat) (c:Q0) (f:Qi) (M:List Int) (n:Int) (h:QN w p c f) (hM:Ql w pm qm M n) (hn:n≤1000000000) (hp:p≠pm∧p≠qm) (hc:c.fits) (hok:f.ok c) (hS:JX c M) (hG:Qf w 0 Qc) (h0:0<p∧0<pm∧0<qm):Calls Tryz.prog 156 #[.pointer (some ⟨p,0,none⟩),.pointer (some ⟨pm,0,none⟩)] w (Q41 w p pm qm c n (Qx c f M) M):=by
 by_cases hfd:f.found=true
 · rw [show Qx c f M=(f,true) by unfold Qx;rw [hfd];rfl]
   have q:=(Bag.one h).q 0
   rw [hfd] at q
   go_in
   go_wp2
   go_ret
   exact ⟨rfl,h,hM.mono (by omega),Fr.refl _ _⟩
 replace hfd:f.found=false:=by simpa using hfd
 by_cases ha:c.sl≤f.at_
 · rw [show Qx c f M=(f,true) by unfold Qx Qi.all;rw [hfd,decide_eq_true ha];rfl]
   have HA:=hid (UE w p c f h)
   rw [decide_eq_true ha] at HA
   have q:=(Bag.one h).q 0
   rw [hfd] at q
   go_in
   go_wp2_with fail
   refine HA.out.mono ?_
   rintro e w1 ⟨rfl,g⟩
   go_wp2
   go_ret
   exact ⟨rfl,h.fr g (by simp),(hM.fr g (by simp) (by simp)).mono (by omega),g.mono (by simp)⟩
 obtain ⟨s,hs,hld⟩:=hS f.at_ hok.a0 (by omega)
 have hft:Jy (Q7 M (c.slot f.at_)) f.kind f.own=JZ s f.kind f.own:=by unfold Jy;rw [hld,QO hs]
 have e:Qx c f M=if JZ s f.kind f.own=true then ({f with word:=s.enc,found:=true},true) else ({f with at_:=f.at_+1},decide (c.sl≤f.at_+1)):=by
  unfold Qx Qi.all
  rw [hfd,decide_eq_false (by omega)]
  dsimp only
  rw [hft,hld]
  rfl
 rw [e]
 have HSL:=hid fun w'=>J2 w' c f.at_ hc
 rw [show Q5 c f.at_=c.slot f.at_ by unfold Q5;rw [if_pos ⟨hok.a0,by omega⟩]] at HSL
 have HLD:=hid fun w' h=>Za w' pm qm M n (c.slot f.at_) h hn
 rw [hld] at HLD
 have HD:=hid fun w' h=>Je w' s hs h
 have HF:=hid fun w'=>Q1w w' s f.kind f.own hok.k0 hok.k1
 have B:Bag [p,pm,qm] w [tR p _ _,tM pm qm M n,tF] w:=Bag.of (by simp only [List.forall_mem_cons];exact ⟨h,hM,hG,by simp⟩) (by have:=hM.ne;simp;omega) (by have:=Q6 h;have:=hM.plt;have:=hM.qlt;simp;omega) (by simp)
 have ha0:=hok.a0;have ha1:f.at_≤16:=hok.a1
 clear hok hS hs hld hft e h hM hG hp h0 hc
 generalize JZ s f.kind f.own=ft at HF ⊢
 generalize s.enc=en at HLD HD ⊢
 generalize c.slot f.at_=cell at HSL HLD
 obtain ⟨kind,own,at_,word,found⟩:=f
 obtain ⟨wo,sl,st,wa,us⟩:=c
 obtain ⟨sst,sso,sstr,sbr,smkd,sus,sgen,sep,sver⟩:=s
 unfold Q0.val at HSL
 unfold Q8.val at HD HF
 dsimp only at*
 subst hfd
 obtain ⟨X,hX⟩:∃X,(if ft=true then ((⟨kind,own,at_,en,true⟩:Qi),true) else (⟨kind,own,at_+1,word,false⟩,decide (sl≤at_+1)))=X:=⟨_,rfl⟩
 rw [hX]
 have HXE:=hid hX
 clear hX
 have q:=B.q 0
 go_in
 go_wp2_with fail
 refine (UE _ p ⟨wo,sl,st,wa,us⟩ ⟨kind,own,at_,word,false⟩ (B.g 0)).mono ?_
 rintro e w1 ⟨rfl,f1⟩
 dsimp only
 rw [decide_eq_false (by omega)]
 replace B:=B.tm f1
 clear q
 have q:=B.q 0
 go_wp2_with fail
 clear q
 refine rgx [0,2] B fun _ B=> ?_
 iterate 9 refine tb ?_
 refine tc 9 fun K hK=> ?_
 go_simp
 refine (HSL.out _).mono ?_
 rintro e w3 ⟨rfl,f3⟩
 replace B:=B.tm f3
 go_wp2_with fail
 refine bk hK ?_
 clear hK K
 try go_frame
 refine tc 10 fun K hK=> ?_
 go_simp
 refine (HLD.out _ (B.g 1)).mono ?_
 rintro e w4 ⟨rfl,h4,f4⟩
 replace B:=B.M h4 f4
 go_wp2_with fail
 refine bk hK ?_
 clear hK K
 try go_frame
 refine tb ?_
 refine wpAnyH_done (by decide+kernel) ?_ _
 go_wp2_with fail
 refine (HD.out _ (B.g 2)).mono ?_
 rintro e w5 ⟨rfl,f5⟩
 replace B:=B.tm f5
 go_wp2_with fail
 generalize hb:(World.heap _).size=b6,hw:World.alloc _ _=w6
 replace B:=B.al hw hb
 refine rg B fun _ B=> ?_
 repeat refine tb ?_
 refine tc 11 fun K hK=> ?_
 go_simp
 refine (HF.out _).mono ?_
 rintro e w7 ⟨rfl,f7⟩
 replace B:=B.tm f7
 go_wp2_with fail
 refine bk hK ?_
 clear hK K
 try go_frame
 refine tb ?_
 refine wpAnyH_done (by decide+kernel) ?_ _
 have q:=B.q 0;have u:=B.u 0
 cases ft
 · go_wp2_with fail
   generalize hw:World.setCell _ _ _=w8
   replace B:=(B.s 0).e hw
   refine (UE _ p ⟨wo,sl,st,wa,us⟩ ⟨kind,own,at_+1,word,false⟩ (B.g 0)).mono ?_
   rintro e w9 ⟨rfl,f9⟩
   replace B:=B.tm f9
   go_wp2
   go_ret
   rw [←HXE.out]
   exact ⟨rfl,B.g 0,B.g 1,B.fr⟩
 · go_wp2_with fail
   generalize hw:World.setCell _ _ _=w8
   replace B:=((B.s 0).s 0).e hw
   go_wp2
   go_ret
   rw [←HXE.out]
   exact ⟨rfl,B.g 0,B.g 1,B.fr⟩
end
section
open Go.RowKit Go.Shelf Go.Lib
attribute [local go_sem] Oper.semAt_some
def Xr (o:Option Nat):Value:=.pointer (o.map fun q=>⟨q,0,none⟩)
def Xg (w:World) (p:Nat) (pl pr:Option Nat) (c:Q0) (t:Qe):Prop:=
 w.heap[p]?=some (.cells #[.int .i64 c.wo,.int .i64 c.sl,.int .i64 c.st,.int .i64 c.wa,.int .i64 c.us,.int .i64 t.w,.int .i64 t.st,Xr pl,.int .i64 t.i,.int .i64 t.word,.int .i64 t.gen,.bool t.passes,Xr pr,.int .i64 t.e] 176 (0,0))
theorem Xg.fr {w w':World} {p:Nat} {pl pr:Option Nat} {c:Q0} {t:Qe} (h:Xg w p pl pr c t) {S:List Nat} (f:Fr S w w') (hp:p∉S):Xg w' p pl pr c t:=f.at h hp
def Zu (w:World) (pl:Option Nat) (c:Q0) (l:Option Qi):Prop:=match pl,l with
 |some q,some f=>QN w q c f
 |none,none=>True
 |_,_=>False
def Yc (w:World) (pr:Option Nat) (r:Option J4):Prop:=match pr,r with
 |some q,some f=>JF w q f
 |none,none=>True
 |_,_=>False
theorem Zu.fr {w w':World} {pl:Option Nat} {c:Q0} {l:Option Qi} (h:Zu w pl c l) {S:List Nat} (f:Fr S w w') (hs:∀b,pl=some b→b∉S):Zu w' pl c l:=by
 cases pl<;>cases l<;>first|exact h|exact QN.fr h f (hs _ rfl)
theorem Yc.fr {w w':World} {pr:Option Nat} {r:Option J4} (h:Yc w pr r) {S:List Nat} (f:Fr S w w') (hs:∀b,pr=some b→b∉S):Yc w' pr r:=by
 cases pr<;>cases r<;>first|exact h|exact JF.fr h f (hs _ rfl)
theorem Zu.get {w:World} {pl:Option Nat} {c:Q0} {f:Qi} (h:Zu w pl c (some f)):∃q,pl=some q∧QN w q c f:=by
 cases pl with
 |none=>exact h.elim
 |some q=>exact ⟨q,rfl,h⟩
theorem Yc.get {w:World} {pr:Option Nat} {f:J4} (h:Yc w pr (some f)):∃q,pr=some q∧JF w q f:=by
 cases pr with
 |none=>exact h.elim
 |some q=>exact ⟨q,rfl,h⟩
theorem Zu.lt {w:World} {pl:Option Nat} {c:Q0} {l:Option Qi} (h:Zu w pl c l) (b:Nat) (hb:pl=some b):b<w.heap.size:=by
 subst hb
 cases l with
 |none=>exact h.elim
 |some f=>exact Q6 h
theorem Yc.lt {w:World} {pr:Option Nat} {l:Option J4} (h:Yc w pr l) (b:Nat) (hb:pr=some b):b<w.heap.size:=by
 subst hb
 cases l with
 |none=>exact h.elim
 |some f=>exact Q6 h
structure Gy (w:World) (p pm qm:Nat) (pl pr:Option Nat):Prop where
 pp:p≠pm∧p≠qm∧0<p∧0<pm∧0<qm∧p<w.heap.size∧pm<w.heap.size∧qm<w.heap.size
 fl:∀b,pl=some b→b≠p∧b≠pm∧b≠qm∧0<b∧b<w.heap.size
 fr:∀b,pr=some b→b≠p∧b≠pm∧b≠qm∧0<b∧b<w.heap.size
 lr:∀b,pl=some b→pr≠some b
structure Zr (w:World) (p pm qm:Nat) (pl pr:Option Nat) (c:Q0) (t:Qe):Prop where
 blk:Xg w p pl pr c t
 lk:Zu w pl c t.look
 rt:Yc w pr t.ret
 ft:Gy w p pm qm pl pr
def Zt (w:World) (p pm qm:Nat) (pl pr:Option Nat) (c:Q0) (n:Int) (x:Qe×List Int) (e:Ending) (w':World):Prop:=
 e=.returned (.tuple #[])∧∃pl' pr',Zr w' p pm qm pl' pr' c x.1∧Ql w' pm qm x.2 (n+1)∧Fr (p::pm::qm::(pl.toList++pr.toList)) w w'∧
  (∀b,pl'=some b→pl=some b∨w.heap.size≤b)∧(∀b,pr'=some b→pr=some b∨w.heap.size≤b)
theorem VZ {w w':World} {p pm qm:Nat} {pl pr pl' pr':Option Nat} (h:Gy w p pm qm pl pr) (hs:w.heap.size≤w'.heap.size) (hl:∀b,pl'=some b→pl=some b∨w.heap.size≤b) (hr:∀b,pr'=some b→pr=some b∨w.heap.size≤b)
 (l':∀b,pl'=some b→b<w'.heap.size) (r':∀b,pr'=some b→b<w'.heap.size) (hlr:∀b,pl'=some b→pr'≠some b):Gy w' p pm qm pl' pr':=by
 obtain ⟨h1,h2,h3,h4,h5,h6,h7,h8⟩:=h.pp
 refine ⟨⟨h1,h2,h3,h4,h5,by omega,by omega,by omega⟩,fun b hb=> ?_,fun b hb=> ?_,hlr⟩
 · have:=l' b hb
   rcases hl b hb with h'|h'
   · obtain ⟨a1,a2,a3,a4,a5⟩:=h.fl b h';exact ⟨a1,a2,a3,a4,this⟩
   · exact ⟨by omega,by omega,by omega,by omega,this⟩
 · have:=r' b hb
   rcases hr b hb with h'|h'
   · obtain ⟨a1,a2,a3,a4,a5⟩:=h.fr b h';exact ⟨a1,a2,a3,a4,this⟩
   · exact ⟨by omega,by omega,by omega,by omega,this⟩
abbrev tRt (pr:Option Nat) (r:Option J4):Th:=⟨true,pr.toList,fun w=>Yc w pr r,fun f h k=>k.fr f (fun b hb=>h b (by simp [hb]))⟩
abbrev tLk (pl:Option Nat) (c:Q0) (l:Option Qi):Th:=⟨true,pl.toList,fun w=>Zu w pl c l,fun f h k=>k.fr f (fun b hb=>h b (by simp [hb]))⟩
abbrev tK (p:Nat) (pl pr:Option Nat) (wo sl sst wa us tw ts ti tword tgen:Int) (tp:Bool) (te:Int):Th:=
 tR p #[.int .i64 wo,.int .i64 sl,.int .i64 sst,.int .i64 wa,.int .i64 us,.int .i64 tw,.int .i64 ts,Xr pl,.int .i64 ti,.int .i64 tword,.int .i64 tgen,.bool tp,Xr pr,.int .i64 te] 176
section
variable {S0:List Nat} {w0 w:World} {A C:Th} {L:List Th} {p pm qm ql:Nat} {pl pr:Option Nat} {wo sl sst wa us tw ts ti tword tgen te:Int} {tp:Bool} {M:List Int} {n:Int}
theorem Ki (B:Bag S0 w0 (tK p pl pr wo sl sst wa us tw ts ti tword tgen tp te::L) w) (e:Int):
 Calls Tryz.prog 252 #[.pointer (some ⟨p,0,none⟩),.int .i64 e] w fun en w'=>en=.returned (.tuple #[])∧Bag S0 w0 (tK p pl pr wo sl sst wa us tw 15 ti tword tgen tp e::L) w':=by
 have q:=B.q 0;have u:=B.u 0
 go_in
 go_wp2_with fail
 clear q u
 generalize hw:World.setCell _ _ _=w2
 replace B:=((B.s 0).s 0).e hw
 go_end0
 exact ⟨rfl,B⟩
theorem Ga {c:Q0} {f:Option Qi} (B:Bag S0 w0 (tK p pl pr wo sl sst wa us tw ts ti tword tgen tp te::A::tLk pl c f::L) w) (st kind own:Int):
 Calls Tryz.prog 253 #[.pointer (some ⟨p,0,none⟩),.int .i64 st,.int .i64 kind,.int .i64 own] w fun en w'=>en=.returned (.tuple #[])∧
  ∃q,Bag S0 w0 (tK p (some q) pr wo sl sst wa us tw st ti tword tgen tp te::A::tLk (some q) ⟨wo,sl,sst,wa,us⟩ (some (QE kind own 0))::L) w':=by
 have HN:=hid fun w'=>UA w' ⟨wo,sl,sst,wa,us⟩ kind own
 dsimp only [Q0.val] at HN
 have q:=B.q 0
 go_in
 go_wp2_with fail
 refine (HN.out _).mono ?_
 rintro e w1 ⟨b,rfl,hb,hl,f⟩
 replace B:=B.rp 2 (T':=tLk (some b) ⟨wo,sl,sst,wa,us⟩ (some (QE kind own 0))) hl f (fun x hx=>by simp at hx;subst hx;exact ⟨hb,Q6 hl⟩)
 clear q
 have q:=B.q 0;have u:=B.u 0
 go_wp2_with fail
 clear q u
 generalize hw:World.setCell _ _ _=w2
 replace B:=((B.s 0).s 0).e hw
 go_end0
 exact ⟨rfl,b,B⟩
theorem Q3v {f:Qi} (B:Bag S0 w0 (tK p (some ql) pr wo sl sst wa us tw ts ti tword tgen tp te::tM pm qm M n::tLk (some ql) ⟨wo,sl,sst,wa,us⟩ (some f)::A::tF::L) w) (hn:n≤1000000000) (hc:Q0.fits ⟨wo,sl,sst,wa,us⟩) (hok:f.ok ⟨wo,sl,sst,wa,us⟩) (hS:JX ⟨wo,sl,sst,wa,us⟩ M)
 {f':Qi} {a b:Bool} (hx:(Qx ⟨wo,sl,sst,wa,us⟩ f M).1=f') (ha:f'.found=a) (hb:((Qx ⟨wo,sl,sst,wa,us⟩ f M).2&& !a)=b):
 Calls Tryz.prog 254 #[.pointer (some ⟨p,0,none⟩),.pointer (some ⟨pm,0,none⟩)] w fun en w'=>en=.returned (.tuple #[.bool a,.bool b])∧
  Bag S0 w0 (tK p (some ql) pr wo sl sst wa us tw ts ti tword tgen tp te::tM pm qm M (n+1)::tLk (some ql) ⟨wo,sl,sst,wa,us⟩ (some f')::A::tF::L) w':=by
 have h1:=B.nd 2 1 (by decide) ql (by simp [gt])
 have h2:=B.nd 4 2 (by decide) 0 (by simp [gt])
 have h3:=B.nd 4 1 (by decide) 0 (by simp [gt])
 simp [gt] at h1 h2 h3
 have HST:=hid (YW w ql pm qm ⟨wo,sl,sst,wa,us⟩ f M n (B.g 2) (B.g 1) hn h1 hc hok hS (B.g 4) ⟨Nat.pos_of_ne_zero (fun e=>h2 e.symm),Nat.pos_of_ne_zero (fun e=>h3.1 e.symm),Nat.pos_of_ne_zero (fun e=>h3.2 e.symm)⟩)
 have HFD:=hid fun w' h=>JV w' ql ⟨wo,sl,sst,wa,us⟩ f' h
 rw [ha] at HFD
 generalize Qx _ f M=x at HST hx hb
 obtain ⟨x1,x2⟩:=x
 dsimp only at hx hb
 subst hx
 clear hS hok hc h1 h2 h3
 have HX:=hid hb
 clear hb
 have q:=B.q 0
 simp only [Xr] at q
 go_in
 go_wp2_with fail
 refine HST.out.mono ?_
 rintro e w1 ⟨rfl,hl,hm,f⟩
 replace B:=B.up2 2 1 (T:=tLk (some ql) ⟨wo,sl,sst,wa,us⟩ (some x1)) (T':=tM pm qm M (n+1)) hl hm f
 clear q hl hm
 have q:=B.q 0
 simp only [Xr] at q
 cases a
 all_goals
  go_wp2_with fail
  refine (HFD.out _ (B.g 2)).mono ?_
  rintro e w2 ⟨rfl,f⟩
  replace B:=B.tm f
  have hx:=HX.out
  cases x2
 all_goals
  subst hx
  go_wp2
  go_ret2
  exact ⟨rfl,B⟩
end
end
end Go.Proofs.YtgjklfmnmljilaaGreatDoor

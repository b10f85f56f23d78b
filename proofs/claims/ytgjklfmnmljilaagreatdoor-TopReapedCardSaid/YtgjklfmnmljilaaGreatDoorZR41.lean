/- A part of the proof. -/
import Derived.Test.YtgjklfmnmljilaaGreatDoorZR40
import Derived.Deep.Slices
import Derived.Deep.Fields
import Derived.ChangeSame
import Derived.ProofKit
import Derived.OpenShut
namespace Go.Proofs.YtgjklfmnmljilaaGreatDoor
set_option linter.unusedVariables false
set_option linter.unusedSimpArgs false
set_option linter.unusedSectionVars false
set_option linter.unnecessarySimpa false
set_option maxRecDepth 100000
set_option maxHeartbeats 8000000
section
open Go.RowKit Go.Shelf Go.Lib
attribute [local go_sem] Oper.semAt_some
section
variable {w w' w0:World} {b:Bs} {c:Q0} {S0 F:List Nat} {m:Qa} {n bb:Int} {L:List Th}
theorem Bag.Q8R (B:Bag S0 w0 (YI F b m::L) w) (hfl:Qe w0 0 Qc) (hdb:Yj w0) (z:0∉S0∧2∉S0):MAt w F b m (2*m.entries):=by
 obtain ⟨w1,S,g,hS,A⟩:=B.g 0
 exact A.fr2 g hS (hfl.fr B.fr z.1) (hdb.fr B.fr z.2)
theorem Bag.Q8L (B:Bag S0 w0 (YI F b m::L) w) {R:Qa} {F':List Nat} (A:MAt w' F' b R (2*R.entries)) (g:Fr F w w') (hF':∀x∈F',x∈F∨w.heap.size≤x):Bag S0 w0 (YI (lies w' F') b R::L) w':=
 B.up' 0 (T':=YI (lies w' F') b R) ⟨w',[],Fr.refl _ _,Lc,A.cut⟩ g (fun x hx=>⟨rfl,hx⟩) (fun x hx=>⟨EI x hx,(hF' x (WH x hx)).imp (fun h=>⟨fun _=>rfl,h⟩) id⟩) Lc
theorem Bag.mdo2 (B:Bag S0 w0 (YI F b m::L) w) (hfl:Qe w0 0 Qc) (hdb:Yj w0) (z:0∉S0∧2∉S0) (g:GI c m) (hE:m.entries≤40000000) (x:QD):
 Calls Tryz.prog 11 #[pt b.pM,x.val] w fun e w'=>e=.returned (.bool (doV m x).2)∧∃F',Bag S0 w0 (YI F' b (doV m x).1::L) w':=by
 refine ((B.Q8R hfl hdb z).do_ g.i Lb (by have:=g.e;omega) g.e Lb x).mono ?_
 rintro e w' ⟨e1,F',A',f,hF'⟩
 have e2:=Z7 m x
 exact ⟨e1,_,B.Q8L (by rw [e2,show 2*(m.entries+1)=2*m.entries+2 by omega];exact A') f hF'⟩
theorem Bag.Q3n (B:Bag S0 w0 (YI F b m::L) w) (hfl:Qe w0 0 Qc) (hdb:Yj w0) (z:0∉S0∧2∉S0) (I:MInv n m):
 Calls Tryz.prog 19 #[pt b.pM] w fun e w'=>∃a cap,e=.returned (.slice a m.evs.length cap)∧Bag S0 w0 ((YI F b m::L)++[tEv true (.slice a m.evs.length cap) m.evs.length (m.evs.flatMap EvV.cells)]) w':=by
 refine ((B.Q8R hfl hdb z).events I).mono ?_
 rintro e w' ⟨ve,rfl,E,hve,f⟩
 have h3:=J3.lt E
 obtain ⟨a,cap,rfl⟩:=J3.form E
 exact ⟨a,cap,rfl,B.nw (T':=tEv true (.slice a m.evs.length cap) m.evs.length (m.evs.flatMap EvV.cells)) E f (fun x hx=>by rw [Option.mem_toList] at hx;exact ⟨hve x hx,h3 x hx⟩) rfl rfl⟩
theorem Bag.Q0T (B:Bag S0 w0 (YI F b m::L) w) (hfl:Qe w0 0 Qc) (hdb:Yj w0) (z:0∉S0∧2∉S0) {cv:Q0} (hs:cv.small) (g:GI cv m) (he:m.entries≤27000000) {Inv:Qa→Prop} (hI:InvA cv 40000000 Inv) (h0:Inv m)
 (gp:Option Addr) (cap:Nat) (O:List Int) (hU:YL w0 gp O) (hL:O.length≤1000) (hO:∀a,gp=some a→O≠[]→a.block∉S0):
 Calls Tryz.prog 9 #[pt b.pM,cv.val,.slice gp O.length cap] w fun e w'=>e=.returned (.bool true)∧∃F' R,Bag S0 w0 (YI F' b R::L) w'∧Inv R∧GI cv R∧YM R∧R.entries≤m.entries+12000000:=by
 obtain ⟨f,R,e1,e2,e3,e4⟩:=settles hs.1 hs.2.1 O g Lb
 refine (Gv w F b m (B.Q8R hfl hdb z) (B.lt 0) cv hs.fits gp cap O (hU.frS B.fr hO) hL (fun a ha hn hm=> ?_) 40000000 Inv hI h0 f (R,true) e1 rfl (by show R.entries≤_;omega)).mono ?_
 · rcases B.ow 0 rfl _ hm with x|x
   · exact hO a ha hn x
   · have:=hU.lt a ha hn;omega
 · rintro e w' ⟨rfl,F',A,i,fr,hF'⟩
   exact ⟨rfl,_,R,B.Q8L A fr hF',i,e2,e3,e4⟩
theorem PH.invA {cv:Q0} {who:Nat} {Mb:List Int} {E0:List EvV} (hw:(who:Int)<cv.wo):InvA cv 40000000 fun m=>GI cv m∧NI bb m∧PH cv Mb who E0 m:=
 ⟨fun m g=>⟨g.1.i,g.1.e,g.1.c⟩,fun m w ⟨g,N,P⟩ he h0 h1=>by
   have a:=(ZE g (w:=w.toNat) Lb Lb).1
   have b:=P.pick (j:=w.toNat) g N Lb hw Lb
   rw [Int.toNat_of_nonneg h0] at a b
   exact ⟨a,b.2,b.1⟩,Int.le_refl _⟩
end
theorem Hr (w:World) (F:List Nat) (b:Bs) (m:Qa) (A:MAt w F b m (2*m.entries)) (hF:∀x∈F,x<w.heap.size) (hfl:Qe w 0 Qc) (hdb:Yj w) (z:0∉F∧2∉F) (cv:Q0) (hs:cv.small) (bb:Int) (g:GI cv m) (N:NI bb m) (hbb:bb≤1990) (hr:YM m) (he:m.entries≤26000000)
 (who:Nat) (hw:(who:Int)<cv.wo) (h0:(m.wk who).st=0) (gp:Option Addr) (cap:Nat) (O:List Int) (hU:YL w gp O) (hL:O.length≤1000) (hO:∀a,gp=some a→O≠[]→a.block∉F):
 Calls Tryz.prog 15 #[pt b.pM,cv.val,.int .i64 who,.agg #[.int .i64 5,.int .i64 0,.bool false,.bool false,.int .i64 0,.int .i64 0,.int .i64 0],.slice gp O.length cap] w fun e w'=>∃(x:EvV) (R:Qa) (F':List Nat),
  e=.returned (.tuple #[x.val,.bool true])∧MAt w' F' b R (2*R.entries)∧Fr F w w'∧(∀y∈F',y∈F∨w.heap.size≤y)∧x.e=0∧UF cv m.M R.M who m.evs R.evs x.slot∧GI cv R∧NI (bb+2) R∧YM R∧R.entries≤m.entries+12000001∧(R.wk who).st=0:=by
 obtain ⟨P1,P2⟩:=PH.begin g N hr hbb hw h0
 obtain ⟨g1, -⟩:=g.do_ Lb (YD who)
 have N1:=N.do_ g Lb (YD who)
 rw [if_pos (show (YD (who:Int)).kind=0 from rfl)] at N1
 have en1:=Z7 m (YD who)
 have wo8:=hs.1.2
 have hev:m.evs.length≤2007:=by have:=g.i.ev;have:=Z8 m.ws;omega
 have B:=(Bag.nil F w).add (YI F b m) ⟨w,[],Fr.refl _ _,Lc,A⟩ hF (fun i x _ h=>by simp [gt,Th.nil] at h) (fun _ x hx=>.inl hx)
 have HFL:=hid hfl;have HDB:=hid hdb;have HZ:=hid z;have HSM:=hid hs;have HG:=hid g;have HU:=hid hU;have HO:=hid hO;have HG1:=hid g1
 have HINV:=hid (show GI cv (doV m (YD who)).1∧NI (bb+2) (doV m (YD who)).1∧PH cv m.M who m.evs (doV m (YD who)).1 from ⟨g1,N1,P2⟩)
 have HE:=hid he;have HP1:=hid P1;have HEN:=hid en1;have HW:=hid hw
 have HR:=hid hr
 clear hfl hdb z hs g N hr he hU hO g1 N1 P1 P2 en1 hF A hw h0
 obtain ⟨olen,holen⟩:∃olen,O.length=olen:=⟨_,rfl⟩
 have HON:=hid holen
 rw [holen] at hL ⊢
 obtain ⟨n0,hn0⟩:∃n0,m.evs.length=n0:=⟨_,rfl⟩
 have HN0:=hid hn0
 rw [hn0] at hev
 clear holen hn0
 obtain ⟨wo,sl,st,wa,us⟩:=cv
 obtain ⟨cv,hcv⟩:∃cv,(⟨wo,sl,st,wa,us⟩:Q0)=cv:=⟨_,rfl⟩
 rw [hcv] at HSM HG HG1 HINV HW ⊢
 have HCV:=hid hcv
 rw [←hcv]
 unfold Q0.val pt
 dsimp only
 rw [hcv]
 clear hcv
 go_in
 go_wp2_with fail
 generalize hb:(World.heap w).size=q,hw:World.alloc w _=w1
 generalize hw2:World.alloc w1 _=w2
 generalize hw3:World.alloc w2 _=w3
 replace B:=B.al3 hw hb hw2 hw3
 clear hb hw hw2 hw3
 refine (B.Q3n HFL.out HDB.out HZ.out HG.out.i).mono ?_
 rintro e w4 ⟨ea,ec,rfl,B2⟩
 replace B:=B2.tk 4
 clear B2
 rw [HN0.out]
 have k:=B.q 2
 have HDO:=hid (B.mdo2 HFL.out HDB.out HZ.out HG.out (by have:=HE.out;omega) (YD who))
 rw [HP1.out] at HDO
 obtain ⟨m1,hm1⟩:∃m1,(doV m (YD who)).1=m1:=⟨_,rfl⟩
 rw [hm1] at HDO HG1 HINV HEN
 unfold QD.val pt YD Yy at HDO
 dsimp only at HDO
 clear hm1 HP1
 go_wp2_with fail
 refine HDO.out.mono ?_
 rintro e w5 ⟨rfl,F1,B2⟩
 replace B:=B2
 clear B2 k HDO
 have k:=B.q 1
 have HST:=hid (B.Q0T HFL.out HDB.out HZ.out HSM.out HG1.out (by have:=HE.out;have:=HEN.out;omega) (PH.invA HW.out) HINV.out gp cap O HU.out (by rw [HON.out];exact hL) HO.out)
 rw [HON.out,←HCV.out] at HST
 unfold Q0.val pt at HST
 dsimp only at HST
 rw [HCV.out] at HST
 go_wp2_with fail
 refine HST.out.mono ?_
 rintro e w6 ⟨rfl,F2,R,B2,⟨-,N2,P2⟩,g2,r2,e2⟩
 replace B:=B2
 have HRES:=hid (show (R.wk who).st=0∧∃many,UF cv m.M R.M who m.evs R.evs many from P2.rest g2.c r2 HW.out)
 have HG2:=hid g2;have HN2:=hid N2;have HR2:=hid r2;have HE2:=hid (show R.entries≤m.entries+12000001 by have:=HEN.out;omega)
 clear B2 k HST N2 P2 g2 r2 e2
 go_wp2_with fail
 refine (B.Q3n HFL.out HDB.out HZ.out HG2.out.i).mono ?_
 rintro e w7 ⟨ea,ec,rfl,B2⟩
 replace B:=B2
 obtain ⟨hst0,many,hmany⟩:=HRES.out
 have HS0:=hid hst0
 have HMANY:=hid hmany
 obtain ⟨X,hX,⟨x0,hx0,hx1⟩,hX2⟩:=hmany.ev
 obtain ⟨len,hlen⟩:∃len,R.evs.length=len:=⟨_,rfl⟩
 have hll:n0≤len∧len≤2007:=by
  have a:=HG2.out.i.ev;have b:=Z8 R.ws
  rw [hX,List.length_append,HN0.out] at hlen
  rw [hX,List.length_append,HN0.out] at a
  omega
 have HLN:=hid hlen
 rw [hlen] at B ⊢
 have HB:=hid B
 -- the event is there
 have HX:=hid (show (∃(j:Nat) (x:EvV),n0≤j∧R.evs[j]?=some x∧x.ended=true∧x.who=who)∧∀(j:Nat) (x:EvV),n0≤j→R.evs[j]?=some x→x.ended=true→x.who=who→x.e=0∧x.slot=many from by
  refine ⟨?_,fun j x hj hx h1 h2=> ?_⟩
  · obtain ⟨j,hj⟩:=List.mem_iff_getElem?.1 hx0
    exact ⟨n0+j,x0,Lb,by rw [hX,List.getElem?_append_right (by rw [HN0.out];omega),HN0.out,show n0+j - n0=j by omega];exact hj,hx1⟩
  · rw [hX,List.getElem?_append_right (by rw [HN0.out];omega)] at hx
    exact hX2 x (List.mem_of_getElem? hx) h1 h2)
 clear B2 HB HRES hmany hst0 hX hx0 hx1 hX2 hlen
 have HB:=hid B
 clear B
 go_wp2_with fail
 go_loopw [16] (fun s16 wr=>∃i:Nat,n0≤i∧i≤len∧s16=.int .i64 i∧(∀(j:Nat) (x:EvV),n0≤j→j<i→R.evs[j]?=some x→¬(x.ended=true∧x.who=who))∧
  Bag F w [YI F2 b R,tR q #[.int .i64 wo,.int .i64 sl,.int .i64 st,.int .i64 wa,.int .i64 us] 30,tR (q+1) #[.int .i64 5,.int .i64 0,.bool false,.bool false,.int .i64 0,.int .i64 0,.int .i64 0] 37,tR (q+1+1) ev0.cells.toArray 50,tEv true (.slice ea len ec) len (R.evs.flatMap EvV.cells)] wr) (fun s16 _=>((len:Int) - intOf s16).toNat)
 case atStart=>exact ⟨n0,Nat.le_refl _,hll.1,rfl,fun j x h1 h2=>Lb,HB.out⟩
 case round=>
  obtain ⟨i,hi0,hi,rfl,hno,B⟩:=hrel
  have HNO:=hid hno
  clear HB hno
  by_cases hlt:i<len
  · have hlt2:(i:Int)<(len:Int):=Lb
    have hi00:(0:Int)≤(i:Int):=Lb
    obtain ⟨x,hx⟩:∃x,R.evs[i]?=some x:=⟨_,List.getElem?_eq_getElem (by rw [HLN.out];exact hlt)⟩
    have hE:Xn wr (.slice ea R.evs.length ec) R.evs:=by unfold Xn;rw [HLN.out];exact B.g 4
    have hE':=hE
    unfold Xn at hE'
    rw [HLN.out] at hE'
    rcases hE'.2 with ⟨_,h0⟩|⟨ga,off,cap',cur,hval,hg, -⟩
    · omega
    simp only [Value.slice.injEq,true_and] at hval
    obtain ⟨rfl, -⟩:=hval
    have hld:=run_ev hE hx
    have c0:=Yb hE hx (j:=0) (u:=.bool x.ended) rfl
    have c1:=Yb hE hx (j:=1) (u:=.int .i64 x.who) rfl
    rw [Nat.add_zero] at c0
    have HXX:=hid hx
    clear hE hE' hg hx
    by_cases hen:x.ended=true∧x.who=who
    · obtain ⟨h1,h2⟩:=hen
      obtain ⟨h3,h4⟩:=HX.out.2 i x hi0 HXX.out h1 h2
      rw [h1] at c0;rw [h2] at c1
      obtain ⟨w9,hst,hb9,f9⟩:=Yd (P:=Tryz.prog) (B.g 3) x.cells 50 rfl rfl (by simp [EvV.cells,Value.oneCell'])
      have HXE:=hid (And.intro h3 h4)
      have HL:=hid hld
      clear h1 h2 h3 h4
      go_wp2_with (first|(refine ZM rfl _ _ rfl _ _ rfl hld ?_)|(refine X8 rfl _ _ _ rfl _ _ rfl rfl hst ?_)|fail)
      replace B:=B.up 3 (T':=tR _ _ _) hb9 f9
      have x3:=B.q 3
      obtain ⟨h3,h4⟩:=HXE.out
      refine bodyPost_ret (v:=.tuple #[x.val,.bool true]) ?_ rfl ⟨x,R,F2,rfl,B.Q8R HFL.out HDB.out HZ.out,B.fr,B.ow 0 rfl,h3,by rw [h4];exact HMANY.out,HG2.out,HN2.out,HR2.out,HE2.out,HS0.out⟩
      simp [results,Tryz.f15,go_sem,x3,EvV.val,EvV.cells]
    · have HB2:=hid B
      have HN2':=hid (show ∀(j:Nat) (y:EvV),n0≤j→j<i+1→R.evs[j]?=some y→¬(y.ended=true∧y.who=who) from fun j y h1 h2 hy=>by
       by_cases hj:j=i
       · rw [hj,HXX.out] at hy;cases hy;exact hen
       · exact HNO.out j y h1 Lb hy)
      cases hee:x.ended
      · rw [hee] at c0
        clear B hen hee c1
        go_wp2_with fail
        exact ⟨⟨i+1,Lb,Lb,by go_num,HN2'.out,HB2.out⟩,by simp [intOf]<;>omega⟩
      · have hne:x.who≠(who:Int):=fun e=>hen ⟨hee,e⟩
        have hne2:(x.who==(who:Int))=false:=by simp [hne]
        rw [hee] at c0
        clear B hen hee hne
        go_wp2_with fail
        exact ⟨⟨i+1,Lb,Lb,by go_num,HN2'.out,HB2.out⟩,by simp [intOf]<;>omega⟩
  · obtain rfl:i=len:=Lb
    exfalso
    obtain ⟨j,x,hj,hx,h1,h2⟩:=HX.out.1
    exact HNO.out j x hj (by have:=(List.getElem?_eq_some_iff.1 hx).1;rw [HLN.out] at this;exact this) hx ⟨h1,h2⟩
end
section
open Go.RowKit Go.Shelf Go.Lib
attribute [local go_sem] Oper.semAt_some
theorem Q8N {c:Q0} (hc:c.fits) (xs:List QD) (hl:xs.length≤100000):NI (2*(xs.length:Int)) (Vd c xs):=by
 have:=Ue (J:=fun m=>m.entries≤100000000→GI c m∧NI (2*m.entries) m) c (fun _=>⟨GI.new hc,(NI.new hc).mono (by show (0:Int)≤2*0;omega)⟩) (fun m x h he=>by
  have en:=Z7 m x
  obtain ⟨g,N⟩:=h Lb
  exact ⟨(g.do_ Lb x).1,(N.do_ g Lb x).mono (by split<;>omega)⟩) xs
 have:=(this (by rw [K3];omega)).2
 rwa [K3] at this
theorem Q6f (w:World) (h3:3≤w.heap.size) (hfl:Qe w 0 Qc) (hdb:Yj w) (ga gb gc gd ge:Int) (ha:u8s ga) (hb:u8s gb) (hc:u8s gc) (hd:u8s gd) (he:u8s ge) (g:Option Addr) (cap:Nat) (L:List YA) (hT:W9 w g L) (hL:L.length≤200)
 (g2:Option Addr) (cap2:Nat) (O:List Int) (hO:YL w g2 O) (hOL:O.length≤20):
 Calls Tryz.prog 12 #[.agg #[.int .u8 ga,.int .u8 gb,.int .u8 gc,.int .u8 gd,.int .u8 ge],.slice g L.length cap,.slice g2 O.length cap2] w fun e w'=>∃(cv:Q0) (b:Bs) (F:List Nat) (R:Qa),
  e=.returned (.tuple #[pt b.pM,cv.val])∧cv.small∧Bag [] w [YI F b R] w'∧GI cv R∧NI 400 R∧YM R∧R.entries≤12000200:=by
 have HFL:=hid hfl;have HDB:=hid hdb;have HT:=hid hT;have HO:=hid hO;have HL:=hid hL;have HOL:=hid hOL
 have HG:=hid (show u8s ga∧u8s gb∧u8s gc∧u8s gd∧u8s ge from ⟨ha,hb,hc,hd,he⟩)
 obtain ⟨len,hlen⟩:∃len,L.length=len:=⟨_,rfl⟩
 obtain ⟨olen,holen⟩:∃olen,O.length=olen:=⟨_,rfl⟩
 have HLN:=hid hlen;have HON:=hid holen
 rw [hlen,holen]
 clear hfl hdb hT hO hL hOL ha hb hc hd he hlen holen
 go_in
 go_upto_region 1 with fail
 generalize hb:(World.heap w).size=q,hw:World.alloc w _=w1
 generalize hw2:World.alloc w1 _=w2
 have B:=(Bag.nil [] w).al2 hw hb hw2
 clear hb hw hw2
 have k:=B.q 0
 have HM:=hid (Q6K w2 (by have:=B.fr.size;omega) (HFL.out.fr B.fr Lc) (HDB.out.fr B.fr Lc) ga gb gc gd ge HG.out.1 HG.out.2.1 HG.out.2.2.1 HG.out.2.2.2.1 HG.out.2.2.2.2 g cap L (HT.out.fr B.fr) HL.out)
 rw [HLN.out] at HM
 go_wp2_with fail
 refine HM.out.mono ?_
 rintro e w3 ⟨cv,b,F,xs,rfl,hsm,hxs,A,hF,f⟩
 replace B:=(B.nw (T':=YI (lies w3 F) b (Vd cv xs)) ⟨w3,[],Fr.refl _ _,Lc,A.cut⟩ f (fun x hx=>⟨hF x (WH x hx),EI x hx⟩)).sel [2,1]
 have hgi:=Q3m hsm.fits xs (by have:=HL.out;have:=HLN.out;omega)
 have hni:=(Q8N hsm.fits xs (by have:=HL.out;have:=HLN.out;omega)).mono (b':=400) (by have:=HL.out;have:=HLN.out;omega)
 have hen:=K3 cv xs
 have HSM:=hid hsm;have HI:=hid (And.intro hgi hni);have HEN:=hid (show (Vd cv xs).entries≤200 by have:=HL.out;have:=HLN.out;omega)
 clear A hF f hgi hni hen hxs hsm k HM
 obtain ⟨wo,sl,st,wa,us⟩:=cv
 obtain ⟨cv,hcv⟩:∃cv,(⟨wo,sl,st,wa,us⟩:Q0)=cv:=⟨_,rfl⟩
 rw [hcv] at HSM HI HEN B
 have HCV:=hid hcv
 have hval:(⟨wo,sl,st,wa,us⟩:Q0).val=.agg #[.int .i64 wo,.int .i64 sl,.int .i64 st,.int .i64 wa,.int .i64 us]:=rfl
 rw [hval]
 unfold pt
 clear hcv hval
 go_wp2_with fail
 generalize hb:(World.heap _).size=q2,hw:World.alloc _ _=w4
 replace B:=B.al hw hb
 clear hb hw
 have HST:=hid (B.Q0T HFL.out HDB.out Lc HSM.out HI.out.1 (by have:=HEN.out;omega) (Inv:=fun m=>GI cv m∧NI 400 m) ⟨fun m g=>⟨g.1.i,g.1.e,g.1.c⟩,fun m w ⟨g,N⟩ he h0 h1=>by
  have a:=(ZE g (w:=w.toNat) Lb Lb).1
  have b:=N.do_ g Lb (JB w)
  rw [if_neg (by simp [JB])] at b
  rw [Int.toNat_of_nonneg h0] at a
  exact ⟨a,b⟩,Int.le_refl _⟩ HI.out g2 cap2 O HO.out (by have:=HOL.out;omega) Lc)
 rw [HON.out,←HCV.out] at HST
 unfold Q0.val pt at HST
 dsimp only at HST
 rw [HCV.out] at HST
 refine HST.out.mono ?_
 rintro e w5 ⟨rfl,F2,R,B2,⟨-,N2⟩,g2',r2,e2⟩
 replace B:=B2
 have HR:=hid (And.intro g2' (And.intro N2 (And.intro r2 (show R.entries≤12000200 by have:=HEN.out;omega))))
 clear B2 HST N2 g2' r2 e2
 obtain ⟨N,hN⟩:∃N,R.M.length=N:=⟨_,rfl⟩
 have HCE:=hid fun wx=>Ua wx cv HSM.out
 rw [show cv.cells=(N:Int) by have a:=HR.out.1.i.mem.len;rw [HR.out.1.c] at a;omega,←HCV.out] at HCE
 unfold Q0.val at HCE
 dsimp only at HCE
 have HNN:=hid hN
 clear hN
 go_wp2_with fail
 refine rg B fun _ B=> ?_
 iterate 4 refine tb ?_
 refine tj 6 ?_
 refine tc 4 fun K hK=> ?_
 go_simp
 refine (B.Q2p HFL.out HDB.out HR.out.1.i).mono ?_
 rintro e w6 ⟨g1,c1,rfl,B2⟩
 replace B:=B2.nl.sel [0,1,2]
 clear B2
 rw [HNN.out]
 go_wp2_with fail
 refine bk hK ?_
 clear hK K
 try go_frame
 refine tj 5 ?_
 refine tc 7 fun K hK=> ?_
 go_simp
 refine (HCE.out _).mono ?_
 rintro e w7 ⟨rfl,f⟩
 replace B:=B.tm f
 clear f
 go_wp2_with fail
 refine bk hK ?_
 clear hK K
 try go_frame
 refine tb ?_
 refine tb ?_
 refine wpAnyH_done (by decide+kernel) ?_ _
 go_wp2_with fail
 refine rgx [0,2] B fun _ B=> ?_
 refine tb ?_
 refine tl 1 (fun w' v' B=>Um 30 (B.g 1)) ?_
 refine tb ?_
 refine tc 3 fun K hK=> ?_
 obtain ⟨w8,hrun,hp,fs⟩:=Yd (P:=Tryz.prog) (B.g 1) [.int .i64 wo,.int .i64 sl,.int .i64 st,.int .i64 wa,.int .i64 us] 30 rfl rfl (by simp [Value.oneCell'])
 refine Yp _ _ _ rfl _ _ rfl rfl hrun ?_
 replace B:=B.up 1 (T':=tR _ _ _) hp fs
 refine bk hK ?_
 clear hK K
 try go_frame
 refine wpAnyH_done (by decide+kernel) ?_ _
 have k:=B.q 1
 go_wp2
 refine bodyPost_ret (v:=.tuple #[pt b.pM,cv.val]) ?_ rfl ⟨cv,b,F2,R,rfl,HSM.out,B.sel [0],HR.out⟩
 rw [←HCV.out]
 simp [results,Tryz.f12,go_sem,k,pt,Q0.val]
def idN (c:Q0) (M:List Int) (n:Nat):Int:=ZV (fun k=>idB (SL c M k)) n
theorem Q6W (c:Q0) (M:List Int) (n:Nat):0≤idN c M n∧idN c M n≤n:=by
 have:=Wz (f:=fun k=>idB (SL c M k)) (b:=1) n (fun k _=>by unfold idB;split<;>omega)
 unfold idN;omega
theorem Q3d {w:World} {g off cap n:Nat} {c:Q0} {M:List Int} (h:J3 54 9 w (.slice (some ⟨g,off,none⟩) n cap) n (slC c M n)) {k:Nat} (hk:k<n) (j:Nat) (u:Value) (hj:(SL c M k).cells[j]?=some u):w.cell? ⟨g,off+k*9+j,none⟩=some u:=by
 have h9:j<9:=by have:=(List.getElem?_eq_some_iff.1 hj).1;simpa [Q7.cells] using this
 have:=J3.cell h (j:=k*9+j) (u:=u) (by rw [slC_at c M hk h9];exact hj)
 rwa [←Nat.add_assoc] at this
theorem Q0t {w:World} {a:Option Addr} {cap n:Nat} {C:List Value} (h:J3 54 9 w (.slice a n cap) n C) (hn:0<n):∃g off,a=some ⟨g,off,none⟩:=by
 rcases h.2 with ⟨_,h0⟩|⟨g,off,cap',cur,hval, -⟩
 · omega
 · simp only [Value.slice.injEq,true_and] at hval;exact ⟨g,off,hval.1⟩
theorem MInv.slots {n:Int} {m:Qa} {cv:Q0} (I:MInv n m) (hc:m.c=cv):(m.M.length:Int)=cv.cells∧∀i,0≤i→i<cv.sl→(SL cv m.M i).right∧Q6 m.M (cv.slot i)=(SL cv m.M i).enc:=by
 subst hc
 refine ⟨I.mem.len,fun i h0 h1=> ?_⟩
 have e:=I.mem.at i
 rw [show Q5 m.c i=m.c.slot i by unfold Q5;rw [if_pos ⟨h0,h1⟩]] at e
 exact ⟨e.1,e.2.1⟩
theorem WG {w0 w1:World} {F:List Nat} {b:Bs} {m:Qa} {L:List Th} (h3:3≤w0.heap.size) (B:Bag [] w0 (YI F b m::L) w1):(0∉F∧2∉F)∧∀a:Addr,a.block<w0.heap.size→a.block∉F:=by
 have P:∀x∈F,w0.heap.size≤x:=fun x hx=>(B.ow 0 rfl x hx).resolve_left Lc
 exact ⟨⟨fun h=>by have:=P _ h;omega,fun h=>by have:=P _ h;omega⟩,fun a ha h=>by have:=P _ h;omega⟩
theorem Z0n {P:Prop} (h:P:=by
 generalize idN cv R.M i=ni at*
 go_wp2_with fail
 try go_frame
 go_region
 all_goals go_wp2
 all_goals exact ⟨⟨i+1,Lb,by rw [HN1.out],by go_num,B.drew⟩,by simp [intOf]<;>omega⟩):P:=h
theorem WW (w:World) (h3:3≤w.heap.size) (hfl:Qe w 0 Qc) (hdb:Yj w) (ga gb gc gd ge:Int) (ha:u8s ga) (hb:u8s gb) (hc:u8s gc) (hd:u8s gd) (he:u8s ge) (g:Option Addr) (cap:Nat) (L:List YA) (hT:W9 w g L)
 (g2:Option Addr) (cap2:Nat) (O:List Int) (hO:YL w g2 O) (u:Int) (hu:u8s u):
 Calls Tryz.prog 4 #[.agg #[.int .u8 ga,.int .u8 gb,.int .u8 gc,.int .u8 gd,.int .u8 ge],.slice g L.length cap,.slice g2 O.length cap2,.int .u8 u] w fun e w'=>e=.returned (.bool true)∧Fr [] w w':=by
 have HFL:=hid hfl;have HDB:=hid hdb;have HT:=hid hT;have HO:=hid hO
 have HG:=hid (show u8s ga∧u8s gb∧u8s gc∧u8s gd∧u8s ge from ⟨ha,hb,hc,hd,he⟩)
 obtain ⟨len,hlen⟩:∃len,L.length=len:=⟨_,rfl⟩
 obtain ⟨olen,holen⟩:∃olen,O.length=olen:=⟨_,rfl⟩
 have HLN:=hid hlen;have HON:=hid holen
 rw [hlen,holen]
 clear hfl hdb hT hO ha hb hc hd he hlen holen
 go_in
 go_wp2_with fail
 generalize hb:(World.heap _).size=bg,hw:World.alloc _ _=w1
 have B:=(Bag.nil [] w).al hw hb
 clear hw hb
 refine (Q5B w1 (by have:=B.fr.size;omega) (HFL.out.fr B.fr Lc) (HDB.out.fr B.fr Lc) ⟨GI.new KC,fun m x g he=>(g.do_ Lb x).1,fun m g=>⟨g.i,g.e,g.c⟩⟩).mono ?_
 rintro e w2 ⟨rfl,f⟩
 replace B:=B.tm f
 clear f
 go_wp2_with fail
 refine (Q96 w2 g g2 len olen cap cap2).mono ?_
 rintro e w3 ⟨rfl,rfl⟩
 by_cases hs:(len:Int)≤200∧(olen:Int)≤20
 case neg=>
  have hd0:(decide ((len:Int)≤200)&&decide ((olen:Int)≤20))=false:=by
   rw [Bool.and_eq_false_iff,decide_eq_false_iff_not,decide_eq_false_iff_not];omega
  rw [hd0]
  go_wp2
  go_ret
  exact ⟨rfl,B.fr⟩
 rw [decide_eq_true hs.1,decide_eq_true hs.2]
 obtain ⟨hl1,hl2⟩:=hs
 have k:=B.q 0
 have HRE:=hid (Q6f w3 (by have:=B.fr.size;omega) (HFL.out.fr B.fr Lc) (HDB.out.fr B.fr Lc) ga gb gc gd ge HG.out.1 HG.out.2.1 HG.out.2.2.1 HG.out.2.2.2.1 HG.out.2.2.2.2 g cap L (HT.out.fr B.fr) (by rw [HLN.out];omega) g2 cap2 O (HO.out.fr B.fr) (by rw [HON.out];omega))
 rw [HLN.out,HON.out] at HRE
 go_wp2_with fail
 refine HRE.out.mono ?_
 rintro e w4 ⟨cv,b,F,R,rfl,hsm,BR,hgi,hni,har,hen⟩
 replace B:=(B.nw (T':=YI F b R) (BR.g 0) BR.fr (fun x hx=>⟨(BR.ow 0 rfl x hx).resolve_left Lc,BR.lt 0 x hx⟩)).sel [1]
 have HSM:=hid hsm;have HI:=hid (And.intro hgi (And.intro hni (And.intro har hen)))
 clear BR hgi hni har hen hsm k HRE
 obtain ⟨wo,sl,st,wa,us⟩:=cv
 obtain ⟨cv,hcv⟩:∃cv,(⟨wo,sl,st,wa,us⟩:Q0)=cv:=⟨_,rfl⟩
 rw [hcv] at HSM HI
 have HCV:=hid hcv
 have hval:(⟨wo,sl,st,wa,us⟩:Q0).val=.agg #[.int .i64 wo,.int .i64 sl,.int .i64 st,.int .i64 wa,.int .i64 us]:=rfl
 rw [hval]
 unfold pt
 clear hcv hval
 obtain ⟨u0,u1⟩:=hu
 have hwo:1≤wo∧wo≤4:=by have:=HSM.out.1;rw [←HCV.out] at this;exact this
 obtain ⟨o0,o1⟩:=hwo
 obtain ⟨sl,rfl⟩:∃n:Nat,sl=n:=⟨sl.toNat,by have:=HSM.out.2.1;rw [←HCV.out] at this;dsimp only at this;omega⟩
 obtain ⟨who,hwho⟩:∃who:Nat,u % wo=who:=⟨(u % wo).toNat,by have:=Int.emod_nonneg u (show wo≠0 by omega);omega⟩
 have hwlt:(who:Int)<cv.wo:=by rw [←HCV.out,←hwho];exact Int.emod_lt_of_pos u Lb
 have hsl:cv.sl.toNat=sl∧sl≤5:=by have:=HSM.out.2.1;rw [←HCV.out] at this ⊢;dsimp only at this ⊢;omega
 have HW:=hid hwlt;have HSL:=hid hsl.1
 have hs5:=hsl.2
 clear hwlt hsl
 go_wp2_with fail
 rw [hwho]
 clear hwho
 generalize hb:(World.heap _).size=q,hw:World.alloc _ _=w5
 replace B:=B.al hw hb
 clear hw hb
 refine (B.mstate HFL.out HDB.out (who:=who) (by have:=HI.out.1.i.wl;rw [HI.out.1.c] at this;have:=HW.out;omega)).mono ?_
 rintro e w6 ⟨rfl,B2⟩
 replace B:=B2
 clear B2
 by_cases hst:(R.wk who).st=0
 case neg=>
  have hst2:((R.wk who).st != 0)=true:=by simp [hst]
  go_wp2
  go_ret
  exact ⟨rfl,B.fr⟩
 rw [hst]
 have HS:=hid hst
 obtain ⟨hzn,hzs⟩:=HI.out.1.i.slots HI.out.1.c
 have HZ:=hid (And.intro hzn hzs)
 clear hst hzn hzs
 go_wp2_with fail
 refine rg B fun _ B=> ?_
 refine tl 0 (fun w' v' B=>Um 30 (B.g 1)) ?_
 refine tb ?_
 refine tc 2 fun K hK=> ?_
 go_simp
 refine (B.Q2p HFL.out HDB.out HI.out.1.i).mono ?_
 rintro e w7 ⟨g1,c1,rfl,B2⟩
 replace B:=B2.nl.sel [0,1,2]
 clear B2
 go_wp2_with fail
 refine bk hK ?_
 clear hK K
 try go_frame
 refine tc 3 fun K hK=> ?_
 go_simp
 have HSO:=hid (U9 _ cv HSM.out R.M g1 c1 HZ.out.1 (B.g 2).2 HZ.out.2)
 rw [HSL.out,←HCV.out] at HSO
 unfold Q0.val at HSO
 dsimp only at HSO
 rw [HCV.out] at HSO
 refine HSO.out.mono ?_
 rintro e w8 ⟨aw,cw,rfl,hro,how,f⟩
 replace B:=(B.nw (T':=tSl (.slice aw sl cw) sl (slC cv R.M sl)) hro f (fun x hx=>by rw [Option.mem_toList] at hx;exact ⟨how x hx,hro.lt x hx⟩)).sel [0,1,3]
 clear hro how f HSO
 go_wp2_with fail
 refine bk hK ?_
 clear hK K
 try go_frame
 refine tb ?_
 refine wpAnyH_done (by decide+kernel) ?_ _
 have k:=B.q 1
 have HA:=hid (Hr _ F b R (B.mac HFL.out HDB.out) (B.lt 0) (HFL.out.fr B.fr Lc) (HDB.out.fr B.fr Lc) (WG h3 B).1 cv HSM.out 400 HI.out.1 HI.out.2.1 Lb HI.out.2.2.1 (by have:=HI.out.2.2.2;omega) who HW.out HS.out g2 cap2 O (HO.out.fr B.fr) (by rw [HON.out];omega) (fun a ha hn=>(WG h3 B).2 a (HO.out.lt a ha hn)))
 rw [HON.out,←HCV.out] at HA
 unfold Q0.val pt at HA
 dsimp only at HA
 rw [HCV.out] at HA
 go_wp2_with fail
 refine HA.out.mono ?_
 rintro e w9 ⟨x,R1,F1,rfl,A1,fr1,hF1,xe,hre1,hg1,hn1,hr1,he1,hs1⟩
 replace B:=B.Q8L A1 fr1 hF1
 have HX:=hid (And.intro xe hre1);have HI1:=hid (And.intro hg1 (And.intro hn1 (And.intro hr1 (And.intro hs1 (show R1.entries≤24000201 by have:=HI.out.2.2.2;omega)))))
 rw [show x.val=.agg x.cells.toArray from rfl]
 clear A1 fr1 hF1 xe hre1 hg1 hn1 hr1 he1 hs1 HA k
 obtain ⟨w10,hst,hb10,f10⟩:=Yd (P:=Tryz.prog) (heap_alloc_new w9 (.cells #[.bool false,.int .i64 0,.int .i64 0,.int .i64 0,.int .i64 0,.bool false,.bool false,.int .i64 0,.int .i64 0,.int .i64 0,.int .i64 0,.int .i64 0,.int .i64 0,.int .i64 0,.int .i64 0,.int .i64 0,.int .i64 0,.int .i64 0] 50)) x.cells 50 rfl rfl (by simp [EvV.cells,Value.oneCell'])
 have BE:=B.al (w':=w9.alloc (.cells #[.bool false,.int .i64 0,.int .i64 0,.int .i64 0,.int .i64 0,.bool false,.bool false,.int .i64 0,.int .i64 0,.int .i64 0,.int .i64 0,.int .i64 0,.int .i64 0,.int .i64 0,.int .i64 0,.int .i64 0,.int .i64 0,.int .i64 0] 50)) rfl rfl
 have B10:=BE.up 3 (T':=tR _ _ _) hb10 f10
 have k:=B10.q 1
 have HA:=hid (Hr _ _ b R1 (B10.mac HFL.out HDB.out) (B10.lt 0) (HFL.out.fr B10.fr Lc) (HDB.out.fr B10.fr Lc) (WG h3 B10).1 cv HSM.out 402 HI1.out.1 HI1.out.2.1 Lb HI1.out.2.2.1 (by have:=HI1.out.2.2.2.2;omega) who HW.out HI1.out.2.2.2.1 g2 cap2 O (HO.out.fr B10.fr) (by rw [HON.out];omega) (fun a ha hn=>(WG h3 B10).2 a (HO.out.lt a ha hn)))
 rw [HON.out,←HCV.out] at HA
 unfold Q0.val pt at HA
 dsimp only at HA
 rw [HCV.out] at HA
 have HB:=hid B10
 clear B BE B10 hb10 f10
 go_wp2_with (first|(refine X8 rfl _ _ _ rfl _ _ rfl rfl hst ?_)|fail)
 have B:=HB.out
 clear HB hst
 refine HA.out.mono ?_
 rintro e w11 ⟨y,R2,F2,rfl,A2,fr2,hF2,ye,hre2,hg2,hn2,hr2,he2,hs2⟩
 replace B:=B.Q8L A2 fr2 hF2
 have HY:=hid (And.intro ye hre2);have HI2:=hid hg2
 rw [show y.val=.agg y.cells.toArray from rfl]
 clear A2 fr2 hF2 ye hre2 hg2 hn2 hr2 he2 hs2 HA k
 obtain ⟨w12,hst,hb12,f12⟩:=Yd (P:=Tryz.prog) (heap_alloc_new w11 (.cells #[.bool false,.int .i64 0,.int .i64 0,.int .i64 0,.int .i64 0,.bool false,.bool false,.int .i64 0,.int .i64 0,.int .i64 0,.int .i64 0,.int .i64 0,.int .i64 0,.int .i64 0,.int .i64 0,.int .i64 0,.int .i64 0,.int .i64 0] 50)) y.cells 50 rfl rfl (by simp [EvV.cells,Value.oneCell'])
 have BE:=B.al (w':=w11.alloc (.cells #[.bool false,.int .i64 0,.int .i64 0,.int .i64 0,.int .i64 0,.bool false,.bool false,.int .i64 0,.int .i64 0,.int .i64 0,.int .i64 0,.int .i64 0,.int .i64 0,.int .i64 0,.int .i64 0,.int .i64 0,.int .i64 0,.int .i64 0] 50)) rfl rfl
 have HB:=hid (BE.up 4 (T':=tR _ _ _) hb12 f12)
 clear B BE hb12 f12
 go_wp2_with (first|(refine X8 rfl _ _ _ rfl _ _ rfl rfl hst ?_)|fail)
 have B:=HB.out
 clear HB hst
 generalize w9.heap.size=qx at B ⊢
 generalize w11.heap.size=qy at B ⊢
 obtain ⟨hzn,hzs⟩:=HI2.out.i.slots HI2.out.c
 have HZ2:=hid (And.intro hzn hzs)
 clear hzn hzs
 refine rg B fun _ B=> ?_
 refine tl 0 (fun w' v' B=>Um 30 (B.g 1)) ?_
 refine tb ?_
 refine tc 2 fun K hK=> ?_
 go_simp
 refine (B.Q2p HFL.out HDB.out HI2.out.i).mono ?_
 rintro e w13 ⟨g3,c3,rfl,B2⟩
 replace B:=B2.nl
 clear B2
 go_wp2_with fail
 refine bk hK ?_
 clear hK K
 try go_frame
 refine tc 3 fun K hK=> ?_
 go_simp
 have HSO:=hid (U9 _ cv HSM.out R2.M g3 c3 HZ2.out.1 (B.g 5).2 HZ2.out.2)
 rw [HSL.out,←HCV.out] at HSO
 unfold Q0.val at HSO
 dsimp only at HSO
 rw [HCV.out] at HSO
 refine HSO.out.mono ?_
 rintro e w14 ⟨an,cn,rfl,hro,how,f⟩
 replace B:=(B.nw (T':=tSl (.slice an sl cn) sl (slC cv R2.M sl)) hro f (fun x hx=>by rw [Option.mem_toList] at hx;exact ⟨how x hx,hro.lt x hx⟩)).sel [0,1,2,3,4,6]
 clear hro how f HSO
 go_wp2_with fail
 refine bk hK ?_
 clear hK K
 try go_frame
 refine tb ?_
 refine wpAnyH_done (by decide+kernel) ?_ _
 have cx:=B.q 3;have cy:=B.q 4
 have HE:=hid (show (∀w',Fr [] _ w'→w'.cell? ⟨qx,10,none⟩=some (.int .i64 0)∧w'.cell? ⟨qx,11,none⟩=some (.int .i64 x.slot)∧w'.cell? ⟨qy,10,none⟩=some (.int .i64 0)∧w'.cell? ⟨qy,11,none⟩=some (.int .i64 y.slot)) from fun w' f=>⟨f.cell (by rw [cx];simp [EvV.cells,HX.out.1]) Lc,f.cell (by rw [cx];simp [EvV.cells]) Lc,f.cell (by rw [cy];simp [EvV.cells,HY.out.1]) Lc,f.cell (by rw [cy];simp [EvV.cells]) Lc⟩)
 clear cx cy
 obtain ⟨z1,z2,z3,z4⟩:=HE.out _ (Fr.refl [] _)
 have HT2:=hid (Q3W HX.out.2 HY.out.2)
 have hx0:¬x.slot<0:=by have:=HX.out.2.n0;omega
 have hy0:¬y.slot<0:=by have:=HY.out.2.n0;omega
 have HXY:=hid (show 0≤x.slot∧0≤y.slot from ⟨HX.out.2.n0,HY.out.2.n0⟩)
 replace B:=B.sel [2,3,4,5]
 have HB:=hid B
 clear B
 go_wp2_with fail
 clear z1 z2 z3 z4 hx0 hy0
 go_loopw [20,21] (fun s20 s21 wr=>∃i:Nat,i≤sl∧s20=.int .i64 (idN cv R.M i)∧s21=.int .i64 i∧Bag [] w [tSl (.slice aw sl cw) sl (slC cv R.M sl),tR qx x.cells.toArray 50,tR qy y.cells.toArray 50,tSl (.slice an sl cn) sl (slC cv R2.M sl)] wr) (fun _ s21 _=>((sl:Int) - intOf s21).toNat)
 case atStart=>exact ⟨0,Nat.zero_le _,rfl,rfl,HB.out⟩
 case round=>
  obtain ⟨i,hi,rfl,rfl,B⟩:=hrel
  clear HB
  by_cases hlt:i<sl
  · have hlt2:(i:Int)<(sl:Int):=Lb
    have hi0:(0:Int)≤(i:Int):=Lb
    obtain ⟨gw,ow,rfl⟩:=Q0t (B.g 0) Lb
    obtain ⟨gn,on,rfl⟩:=Q0t (B.g 3) Lb
    have W:=Q3d (B.g 0) hlt
    have V:=Q3d (B.g 3) hlt
    have w0:=W 0 _ rfl
    have v0:=V 0 _ rfl
    rw [Nat.add_zero] at w0 v0
    have hno:=HT2.out.1 i
    have hle:=HT2.out.2.1 i
    have hsn:idN cv R.M (i+1)=idN cv R.M i+idB (SL cv R.M i):=rfl
    obtain ⟨n0,n1⟩:=Q6W cv R.M i
    have hno1:((SL cv R2.M i).st==2)=false:=by simp [hno]
    by_cases h2:(SL cv R.M i).st=2
    · have hn1:idN cv R.M (i+1)=idN cv R.M i+1:=by rw [hsn,idB,if_pos h2]
      have hwr:wrap64 (idN cv R.M i+1)=idN cv R.M i+1:=by unfold wrap64;omega
      have HN1:=hid hn1
      rw [h2] at w0
      obtain ⟨zn,hzn⟩:∃zn,(SL cv R2.M i).st=zn:=⟨_,rfl⟩
      rw [hzn] at v0 hno1
      clear W V hno hle hsn h2 hn1 hzn
      exact Z0n
    · have hn1:idN cv R.M (i+1)=idN cv R.M i:=by rw [hsn,idB,if_neg h2];omega
      have HN1:=hid hn1
      by_cases h3:(SL cv R.M i).st=3
      · rw [hle h3] at V
        obtain ⟨z,hz⟩:∃z,SL cv R.M i=z:=⟨_,rfl⟩
        rw [hz] at W V h3
        obtain ⟨zst,zow,zstr,zbr,zmk,zus,zge,zep,zve⟩:=z
        dsimp only at h3
        subst h3
        clear w0 v0 hno1
        have w0:=W 0 _ rfl;have w1:=W 1 _ rfl;have w2:=W 2 _ rfl;have w3:=W 3 _ rfl;have w4:=W 4 _ rfl;have w5:=W 5 _ rfl;have w6:=W 6 _ rfl;have w7:=W 7 _ rfl;have w8:=W 8 _ rfl
        have v0:=V 0 _ rfl;have v1:=V 1 _ rfl;have v2:=V 2 _ rfl;have v3:=V 3 _ rfl;have v4:=V 4 _ rfl;have v5:=V 5 _ rfl;have v6:=V 6 _ rfl;have v7:=V 7 _ rfl;have v8:=V 8 _ rfl
        rw [Nat.add_zero] at w0 v0
        dsimp only at w0 w1 w2 w3 w4 w5 w6 w7 w8 v0 v1 v2 v3 v4 v5 v6 v7 v8
        clear W V hno hle hsn h2 hn1 hz
        exact Z0n
      · have h2b:((SL cv R.M i).st==2)=false:=by simp [h2]
        have h3b:((SL cv R.M i).st==3)=false:=by simp [h3]
        obtain ⟨zn,hzn⟩:∃zn,(SL cv R2.M i).st=zn:=⟨_,rfl⟩
        obtain ⟨zw,hzw⟩:∃zw,(SL cv R.M i).st=zw:=⟨_,rfl⟩
        rw [hzn] at v0 hno1
        rw [hzw] at w0 h2b h3b
        clear W V hno hle hsn h2 h3 hn1 hzn hzw
        exact Z0n
  · obtain rfl:i=sl:=Lb
    have cx:=B.q 1;have cy:=B.q 2
    have z2:wr.cell? ⟨qx,11,none⟩=some (.int .i64 x.slot):=by rw [cx];simp [EvV.cells]
    have z4:wr.cell? ⟨qy,11,none⟩=some (.int .i64 y.slot):=by rw [cy];simp [EvV.cells]
    clear cx cy
    obtain ⟨n0,n1⟩:=Q6W cv R.M i
    have hsum:x.slot+y.slot=idN cv R.M i:=by have:=HT2.out.2.2;unfold idle at this;rw [HSL.out] at this;exact this
    have hwr:wrap64 (x.slot+y.slot)=idN cv R.M i:=by have:=HXY.out;unfold wrap64;omega
    clear hsum
    go_wp2
    go_ret
    exact ⟨rfl,B.fr⟩
end
section
open Go.ChangeShapes Go.WideShapes Go.Deep Go.RowKit
section
variable {H:Type} {enc:TypeId×Value→H} {P:Program} {w:World} {base:Nat} {spare:Nat→Bool} {held:Bool}
theorem KW {t e:TypeId} {fs:Array Field} {fuel:Nat} {cs:List Value} {x:DataW H×List MemPlace} (ht:P.underlying t=some (.slice e)) (he:P.underlying e=some (.struct fs))
 (hone:oneCellFields P fs=true) (hC:P.cellsOf e=fs.size) (h:DataW.trod enc P w base spare held fuel t cs=some x):
 cs=[.slice none 0 0]∨
 ∃(a:Addr) (len cap:Nat),cs=[.slice (some a) len cap]∧len≤cap∧cap≤maxLen∧
  ∀i,i<len→∃n,∀(j:Nat) (f:Field),fs[j]?=some f→∃(v:Value) (y:DataW H×List MemPlace),w.cell? (a.add (i*fs.size+j))=some v∧DataW.trod enc P w base spare held n f.type [v]=some y:=by
 rcases open_slice ht h with h0|⟨a,len,cap,m,n,D,Pl,hcs,hb,hl,hm,hmm,hx,hi⟩
 · exact .inl h0.1
 · refine .inr ⟨a,len,cap,hcs,hl,hm,fun i him=> ?_⟩
   obtain ⟨cs',hc,ht'⟩:=hi i (by split at hmm<;>omega)
   rw [hC] at hc
   obtain ⟨ys,n',hn',hy,hlen,hyl,hf⟩:=DataW.trod_struct he ht'
   obtain ⟨_,hcl,hat⟩:=World.cells?_some hc
   refine ⟨n',fun j f hj=> ?_⟩
   obtain ⟨ho,hk⟩:=hone_of hone j f hj
   have hjl:j<fs.size:=(Array.getElem?_eq_some_iff.1 hj).1
   have hcell:=hat j hjl
   have hv:cs'[j]?=some (cs'[j]'Lb):=List.getElem?_eq_getElem Lb
   have h1:=hf j f hj
   rw [ho,hk] at h1
   have hone':(cs'.drop j).take 1=[cs'[j]'Lb]:=by
    rw [List.drop_eq_getElem_cons Lb]
    rfl
   rw [hone'] at h1
   have hys:ys[j]?=some (ys[j]'Lb):=List.getElem?_eq_getElem Lb
   refine ⟨_,_, ?_,h1.trans hys⟩
   rw [←Go.Deep.add_add,hcell,hv]
theorem KF {w:World} {b off:Nat} {spot:Option Nat} {n:Nat} {v:Value} (h:w.cell? ((⟨b,off,spot⟩:Addr).add n)=some v):w.cell? ⟨b,off+n,none⟩=some v:=by
 have hs:=World.cell?_spot h
 have:(⟨b,off,spot⟩:Addr).add n=⟨b,off+n,none⟩:=by
  unfold Addr.add at hs ⊢
  split
  · rename_i h0
    rw [if_pos h0] at hs
    simp only at hs
    subst hs;subst h0;rfl
  · rfl
 rw [←this];exact h
end
end
end Go.Proofs.YtgjklfmnmljilaaGreatDoor

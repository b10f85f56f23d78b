/- A part of the proof. -/
import Derived.Test.YtgjklfmnmljilaaGreatDoorZR33
namespace Go.Proofs.YtgjklfmnmljilaaGreatDoor
set_option linter.unusedVariables false
set_option linter.unusedSimpArgs false
set_option linter.unusedSectionVars false
set_option linter.unnecessarySimpa false
set_option maxRecDepth 100000
set_option maxHeartbeats 8000000
section
open Go.RowKit Go.Shelf Go.Lib
attribute [local go_sem] Oper.semAt_some
variable (w:World) (pM pW pm pc pw n who:Nat) (ve:Value) (c:Q0) (ent mat:Int) (f:Nat→List Value) (k:Q8) (v:Je)
theorem Q2E (hMB:QG w pM pW pm pc pw n ve c ent mat) (hW:QL w pW n (upd f who (k.cells v))) (hk:who<n) (hne:pM≠pW) (p:Nat) (R:World→Prop) (S:List Nat) (hST:Xe R pM pW ve) (hD:∀b∈S,b≠pM∧b≠pW∧ve.ownBlock≠some b) (hve:∀b,ve.ownBlock=some b→b≠pM∧b≠pW) (HC:∀w',Fr [] w w'→Calls Tryz.prog 76 #[.pointer (some ⟨p,0,none⟩),.pointer (some ⟨pm,0,none⟩)] w' fun e w2=>e=.returned (.bool false)∧R w2∧Fr S w' w2) (hv:v.vt=.pointer (some ⟨p,0,none⟩)):
 Calls Tryz.prog 58 #[.pointer (some ⟨pM,0,none⟩),.int .i64 who] w fun e w'=>e=.returned (.tuple #[])∧QZ w' pM pW pm pc pw n who ve c ent mat f k v∧R w'∧Fr (pM::pW::S) w w':=by
 obtain ⟨vw,vt,vq,vd⟩:=v
 dsimp only at hv
 subst hv
 have HCS:=hid HC
 have B:Bag (pM::pW::S) w [tRo false pM _ _,tW pW n f who _] w:=(Zn hMB hW hne).mono Lc
 dsimp only [Q8.cells] at B
 clear hMB hW hne HC
 have m:=B.q 0
 go_in
 go_wp2_with fail
 clear m
 refine rgf B fun _ fc B=> ?_
 iterate 8 refine tb ?_
 refine tc 8 fun K hK=> ?_
 go_simp
 refine (HCS.out _ fc).mono ?_
 rintro e w1 ⟨rfl,hr,f1⟩
 replace B:=VJ B f1 (by intro x hx;simp [hx]) (fun b hb=>⟨(hD b hb).1,(hD b hb).2.1⟩)
 go_wp2_with fail
 refine bk hK ?_
 clear hK K
 try go_frame
 refine tb ?_
 refine wpAnyH_done (by decide+kernel) ?_ _
 go_wp2
 try simp only [Exit.inBlock,Exit.then]
 refine bodyPost_ret (results_none rfl _ _ _) rfl ?_
 exact ⟨rfl,⟨B.g 0,B.g 1⟩,hr,B.fr⟩
def UJ (b:Bool) (A B:Prop):Prop:=if b=true then A else B
theorem UJ.t {b:Bool} {A B:Prop} (h:b=true) (a:A):UJ b A B:=by unfold UJ;rw [if_pos h];exact a
theorem UJ.ff {b:Bool} {A B:Prop} (h:b=false) (a:B):UJ b A B:=by unfold UJ;rw [if_neg (by rw [h];simp)];exact a
def CFit (w w':World) (pM pW pm pc pw n who:Nat) (ve:Value) (c:Q0) (ent mat:Int) (f:Nat→List Value) (k:Q8) (v:Je):Prop:=∃p2 bt bm bw,(w.heap.size≤p2∧w.heap.size≤bt∧w.heap.size≤bm∧w.heap.size≤bw)∧(p2≠bt∧p2≠bm∧p2≠bw)∧Xh w' p2 none none c (Jc who)∧Y1 w' bt bm bw pM p2 who 134∧
 QZ w' pM pW pm pc pw n who ve c ent mat f {k with work:=.get (Jc who),st:=2} {v with vw:=.func (.func 113) #[] #[.pointer (some ⟨bt,0,none⟩),.pointer (some ⟨bm,0,none⟩),.pointer (some ⟨bw,0,none⟩)]}
def CEnd (w w':World) (pM pW pm pc pw n who:Nat) (ve:Value) (c:Q0) (ent mat:Int) (f:Nat→List Value) (k:Q8) (v:Je):Prop:=∃p2,w.heap.size≤p2∧Jy w' p2 none none c (Qz who)∧QZ w' pM pW pm pc pw n who ve c ent mat f (k.end_ who {ev0 with e:=3}) {v with vd:=.pointer (some ⟨p2,0,none⟩)}
theorem EF (hMB:QG w pM pW pm pc pw n ve c ent mat) (hW:QL w pW n (upd f who (k.cells v))) (hk:who<n) (hne:pM≠pW) (p:Nat) (R:World→Prop) (S:List Nat) (hST:Xe R pM pW ve) (hD:∀b∈S,b≠pM∧b≠pW∧ve.ownBlock≠some b) (hve:∀b,ve.ownBlock=some b→b≠pM∧b≠pW) (HC:∀w',Fr [] w w'→Calls Tryz.prog 76 #[.pointer (some ⟨p,0,none⟩),.pointer (some ⟨pm,0,none⟩)] w' fun e w2=>e=.returned (.bool true)∧R w2∧Fr S w' w2) (hv:v.vt=.pointer (some ⟨p,0,none⟩)) (L:List Int) (hL:∀x∈L,∃s:Q7,s.right∧x=s.enc) (hlen:L.length≤1000) (hG:Qe w 0 Qc) (hS0:0∉S) (hz:0<pM∧0<pW) (HA:∀w',R w'→Calls Tryz.prog 77 #[.pointer (some ⟨p,0,none⟩)] w' (Vo w' L)):
 Calls Tryz.prog 58 #[.pointer (some ⟨pM,0,none⟩),.int .i64 who] w fun e w'=>e=.returned (.tuple #[])∧UJ (L.any (fun x=>JC x 3 who)) (CFit w w' pM pW pm pc pw n who ve c ent mat f k v) (CEnd w w' pM pW pm pc pw n who ve c ent mat f k v)∧R w'∧Fr (pM::pW::S) w w':=by
 unfold CFit CEnd
 have HEN:=hid fun w' h1 h2=>XY w' pM pW pm pc pw n who ve c ent mat f k v h1 h2 hk hne {ev0 with e:=3}
 unfold EvV.val EvV.cells ev0 Yy at HEN
 dsimp only at HEN
 have HNW:=hid fun w'=>Q0q w' c who
 have HGE:=hid fun w' q=>Uh w' pM q who
 unfold Q0.val at HNW
 unfold Q05 at HGE
 have h00:0∉pM::pW::S:=by simp [hS0];omega
 obtain ⟨len,hln⟩:∃n,L.length=n:=⟨_,rfl⟩
 rw [hln] at hlen
 have HLN:=hid hln;have HL:=hid hL;have HAN:=hid HA
 clear hln hL hS0 HA
 obtain ⟨vw,vt,vq,vd⟩:=v
 dsimp only at hv
 subst hv
 have HCS:=hid HC
 have B:Bag (pM::pW::S) w [tRo false pM _ _,tW pW n f who _] w:=(Zn hMB hW hne).mono Lc
 dsimp only [Q8.cells] at B
 clear hMB hW hne HC
 have m:=B.q 0
 go_in
 go_wp2_with fail
 clear m
 refine rgf B fun _ fc B=> ?_
 iterate 8 refine tb ?_
 refine tc 8 fun K hK=> ?_
 go_simp
 refine (HCS.out _ fc).mono ?_
 rintro e w1 ⟨rfl,hr,f1⟩
 replace B:=VJ B f1 (by intro x hx;simp [hx]) (fun b hb=>⟨(hD b hb).1,(hD b hb).2.1⟩)
 go_wp2_with fail
 refine bk hK ?_
 clear hK K
 try go_frame
 refine tb ?_
 refine wpAnyH_done (by decide+kernel) ?_ _
 have q:=B.wq 1 hk
 go_wp2_with fail
 clear q
 refine (HAN.out _ hr).mono ?_
 rintro e w2 ⟨vv,rfl,hov,hnv,f2⟩
 obtain ⟨gw,cw,rfl,hin, -⟩:=hov.ints
 have HIN:=hid hin
 clear hov hin
 replace hr:=hST.go hr f2
 replace B:=B.tm f2
 rw [HLN.out]
 go_wp2_with fail
 go_loopw [31] (fun s31 wr=>∃i:Nat,i≤len∧s31=.int .i64 i∧(∀x∈L.take i,JC x 3 who=false)∧Fr [] w2 wr) (fun s31 _=>len - (intOf s31).toNat)
 case atStart=>exact ⟨0,Nat.zero_le _,rfl,Lc,Fr.refl _ _⟩
 case round=>
  obtain ⟨i,hi,rfl,hno,g⟩:=hrel
  have HNO:=hid hno
  clear hno
  by_cases hlt:i<len
  · obtain ⟨x,hx⟩:∃x,L[i]?=some x:=⟨_,List.getElem?_eq_getElem (by rw [HLN.out];exact hlt)⟩
    obtain ⟨s,hs,rfl⟩:=HL.out x (List.mem_of_getElem? hx)
    obtain ⟨gb,off,rfl,he⟩:=(HIN.out.fr g Lc).2 i _ hx
    have hlt':(i:Int)<len:=Lb
    have hi0:(0:Int)≤(i:Int):=Lb
    have HDE:=hid fun w' h=>Ji w' s hs h
    have HFI:=hid fun w'=>Q1k w' s 3 who Lb Lb
    have hfw:JC s.enc 3 who=Jq s 3 who:=by unfold JC;rw [QF hs]
    have HX:=hid (And.intro hfw (And.intro (V8 hx) (List.mem_of_getElem? hx)))
    clear hs hfw hx
    generalize Jq s 3 who=fb at HX HFI
    generalize s.enc=en at he HDE HX
    obtain ⟨zst,zso,zstr,zbr,zmkd,zus,zgen,zep,zver⟩:=s
    unfold Q7.val at HDE HFI
    dsimp only at HDE HFI
    go_wp2_with fail
    refine (HDE.out _ (hG.fr (B.tm g).fr h00)).mono ?_
    rintro e w4 ⟨rfl,f4⟩
    clear he
    have g:=fun o=>(g.trans f4).alloc o
    go_wp2_with fail
    generalize hw:World.alloc _ _=w5
    replace g:Fr [] w2 w5:=hw▸g _
    refine (HFI.out _).mono ?_
    rintro e w6 ⟨rfl,f5⟩
    replace g:=g.trans f5
    cases fb
    · go_wp2_with fail
      go_roundw
      case rel=>exact ⟨i+1,Lb,by go_num,by
       intro x hx
       rw [HX.out.2.1] at hx
       rcases List.mem_append.1 hx with h|h
       · exact HNO.out x h
       · rw [List.mem_singleton.1 h];exact HX.out.1,g⟩
      case measure=>simp [intOf];omega
    · have hany:L.any (fun x=>JC x 3 who)=true:=List.any_eq_true.2 ⟨_,HX.out.2.2,HX.out.1⟩
      have HAY:=hid hany
      clear hany
      replace B:=B.tm g
      have hr:=hST.go hr g
      have m:=B.q 0
      go_wp2_with fail
      refine (HNW.out _).mono ?_
      rintro e w7 ⟨p2,rfl,hp2,ht,f6⟩
      have hps:=B.fr.size
      replace B:=B.nw (T':=tR p2 _ _) ht f6 (fun x hx=>by simp at hx;subst hx;exact ⟨hp2,Q9 ht⟩)
      replace hr:=hST.go hr f6
      go_wp2_with fail
      refine (HGE.out _ _).mono ?_
      rintro e w8 ⟨bt,bm,bw,rfl,h1,h2,h3,hbx,f7⟩
      have hp3:=B.fr.size;have hl1:=B.lt 1 pW (by simp [gt]);have hl2:=Q9 ht
      replace B:=B.tm f7
      replace hr:=hST.go hr f7
      clear m
      have q:=B.wq 1 hk;have q0:=B.wq0 1 hk;have u:=B.wu 1;have m:=B.q 0
      go_wp2_with fail
      clear q q0 u m
      generalize hw:World.setCell _ _ _=w9
      have fs:Fr [pW] w8 w9:=hw▸((Fr.refl [pW] w8).sc pW _ _).sc pW _ _
      replace B:=((B.ws 1 hk).ws0 1 hk).e hw
      replace hr:=hST.go hr fs
      try simp only [Exit.inBlock,Exit.then]
      refine bodyPost_ret (results_none rfl _ _ _) rfl ?_
      exact ⟨rfl,UJ.t HAY.out ⟨p2,bt,bm,bw,Lb,Lb,B.g 2,hbx.ov fs (by simp;omega) (by simp;omega) (by simp;omega),B.g 0,B.g 1⟩,hr,B.fr⟩
  · obtain rfl:i=len:=Lb
    have hany:L.any (fun x=>JC x 3 who)=false:=by
     rw [List.any_eq_false]
     intro x hx
     have:=HNO.out x (by rw [List.take_of_length_le (by rw [HLN.out];exact Nat.le_refl _)];exact hx)
     simp [this]
    have HAY:=hid hany
    clear hany
    replace B:=B.tm g
    have hr:=hST.go hr g
    go_wp2_with fail
    refine (HEN.out _ (B.g 0) (B.g 1)).mono ?_
    rintro e w4 ⟨rfl,p,hp,ht,hmp,f4⟩
    go_wp2_with fail
    first
     |go_end0
     |(try simp only [Exit.inBlock,Exit.then]
       refine bodyPost_ret (results_none rfl _ _ _) rfl ?_)
    exact ⟨rfl,UJ.ff HAY.out ⟨p,Nat.le_trans B.fr.size hp,ht,hmp⟩,hST.go hr f4,B.fr.then f4 (fun x hx=>.inl (by simp at hx;simp [hx]))⟩
end
section
open Go.RowKit Go.Shelf Go.Lib
structure Bs where
 pM:Nat
 pW:Nat
 pm:Nat
 qm:Nat
 pc:Nat
 pw:Nat
 pr:Nat
def Bs.l (b:Bs):List Nat:=[b.pM,b.pW,b.pm,b.qm,b.pc,b.pw,b.pr]
def Q7o (fn:FuncId) (bt bm bw:Nat):Value:=.func (.func fn) #[] #[.pointer (some ⟨bt,0,none⟩),.pointer (some ⟨bm,0,none⟩),.pointer (some ⟨bw,0,none⟩)]
def box4 (fn:FuncId) (bt bm bw bf:Nat):Value:=.func (.func fn) #[] #[.pointer (some ⟨bt,0,none⟩),.pointer (some ⟨bm,0,none⟩),.pointer (some ⟨bw,0,none⟩),.pointer (some ⟨bf,0,none⟩)]
def pt (p:Nat):Value:=.pointer (some ⟨p,0,none⟩)
def DU (w:World) (b:Bs) (c:Q0) (who:Nat) (vw:Value) (L:List Nat):Yh→Prop
 |.none=>False
 |.get t=>∃bt bm bw p pl pr,vw=Q7o 113 bt bm bw∧Y1 w bt bm bw b.pM p who 134∧Xh w p pl pr c t∧Zv w pl c t.look∧Yf w pr t.ret∧L=bt::bm::bw::p::(pl.toList++pr.toList)
 |.give g=>∃bt bm bw p pr,vw=Q7o 146 bt bm bw∧Y1 w bt bm bw b.pM p who 156∧Xf w p pr c g∧Yf w pr g.ret∧L=bt::bm::bw::p::pr.toList
 |.strm s=>∃bt bm bw p b1 b2 fn,vw=Q7o 149 bt bm bw∧Y1 w bt bm bw b.pM p who 159∧Vn w p b1 b2 fn c s∧Gl w b1 b2 fn c s∧L=[bt,bm,bw,p,b1,b2]
 |.Xl r=>∃bt bm bw q pf pr,vw=Q7o 155 bt bm bw∧Y1 w bt bm bw b.pM q who 200∧Xp w q pf pr r∧QY w pf c r.look∧Yf w pr r.ret∧L=bt::bm::bw::q::pf::pr.toList
 |.close fc d=>∃bt bm bw bf p,vw=box4 163 bt bm bw bf∧Wu w bt bm bw bf b.pM who fc (Xu p)∧(match d,p with|some q,some p=>Jd w p c q|none,none=>True|_,_=>False)∧L=bt::bm::bw::bf::p.toList
 |.stats t=>∃bt bm bw p vR vL,vw=Q7o 166 bt bm bw∧Y1 w bt bm bw b.pM p who 76∧Yz w p c vR vL t.r t.l t.n t.d∧L=bt::bm::bw::p::(vR.ownBlock.toList++vL.ownBlock.toList)
structure Ws (w:World) (b:Bs) (c:Q0) (who:Nat) (k:Q8) (v:Je) (L:List Nat):Prop where
 wk:k.st=2→DU w b c who v.vw L k.work
 tw:k.st=3→∃t p vR vL,k.tw=some t∧v.vt=pt p∧Yz w p c vR vL t.r t.l t.n t.d∧L=p::(vR.ownBlock.toList++vL.ownBlock.toList)
 qu:k.st=4∨k.st=8→∃q p,k.qu=some q∧v.vq=pt p∧Jd w p c q∧L=[p]
 ti:k.st=5→∃t p pl pr,k.ti=some t∧v.vd=pt p∧Jy w p pl pr c t∧Zv w pl c t.look∧Yf w pr t.ret∧L=p::(pl.toList++pr.toList)
 no:k.st=0∨k.st=1∨k.st=6∨k.st=7→L=[]
variable {w w':World} {b:Bs} {c:Q0} {who:Nat} {k:Q8} {v:Je} {L S:List Nat}
theorem DU.fr {j:Yh} {vw:Value} (h:DU w b c who vw L j) (f:Fr S w w') (hs:∀x∈L,x∉S):DU w' b c who vw L j:=by
 cases j with
 |none=>exact h
 |get t=>
  obtain ⟨bt,bm,bw,p,pl,pr,e,B,h1,h2,h3,rfl⟩:=h
  exact ⟨bt,bm,bw,p,pl,pr,e,B.ov f (hs _ Lc) (hs _ Lc) (hs _ Lc),h1.fr f (hs _ Lc),h2.fr f fun x hx=>hs _ (by simp [hx]),h3.fr f fun x hx=>hs _ (by simp [hx]),rfl⟩
 |give g=>
  obtain ⟨bt,bm,bw,p,pr,e,B,h1,h3,rfl⟩:=h
  exact ⟨bt,bm,bw,p,pr,e,B.ov f (hs _ Lc) (hs _ Lc) (hs _ Lc),h1.fr f (hs _ Lc),h3.fr f fun x hx=>hs _ (by simp [hx]),rfl⟩
 |strm s=>
  obtain ⟨bt,bm,bw,p,b1,b2,fn,e,B,h1,h3,rfl⟩:=h
  exact ⟨bt,bm,bw,p,b1,b2,fn,e,B.ov f (hs _ Lc) (hs _ Lc) (hs _ Lc),h1.fr f (hs _ Lc),h3.ov f (hs _ Lc) (hs _ Lc),rfl⟩
 |Xl r=>
  obtain ⟨bt,bm,bw,q,pf,pr,e,B,h1,h2,h3,rfl⟩:=h
  exact ⟨bt,bm,bw,q,pf,pr,e,B.ov f (hs _ Lc) (hs _ Lc) (hs _ Lc),h1.fr f (hs _ Lc),h2.fr f (hs _ Lc),h3.fr f fun x hx=>hs _ (by simp [hx]),rfl⟩
 |close fc d=>
  obtain ⟨bt,bm,bw,bf,p,e,B,h1,rfl⟩:=h
  refine ⟨bt,bm,bw,bf,p,e,B.ov f (hs _ Lc) (hs _ Lc) (hs _ Lc) (hs _ Lc), ?_,rfl⟩
  cases d<;>cases p<;>first|exact h1|exact f.at h1 (hs _ Lc)
 |stats t=>
  obtain ⟨bt,bm,bw,p,vR,vL,e,B,h1,rfl⟩:=h
  exact ⟨bt,bm,bw,p,vR,vL,e,B.ov f (hs _ Lc) (hs _ Lc) (hs _ Lc),h1.fr f (hs _ Lc) (fun x hx=>hs _ (by simp [hx])) fun x hx=>hs _ (by simp [hx]),rfl⟩
theorem Ws.fr (h:Ws w b c who k v L) (f:Fr S w w') (hs:∀x∈L,x∉S):Ws w' b c who k v L where
 wk e:=(h.wk e).fr f hs
 tw e:=by
  obtain ⟨t,p,vR,vL,h1,h2,h3,rfl⟩:=h.tw e
  exact ⟨t,p,vR,vL,h1,h2,h3.fr f (hs _ Lc) (fun x hx=>hs _ (by simp [hx])) fun x hx=>hs _ (by simp [hx]),rfl⟩
 qu e:=by
  obtain ⟨q,p,h1,h2,h3,rfl⟩:=h.qu e
  exact ⟨q,p,h1,h2,f.at h3 (hs _ Lc),rfl⟩
 ti e:=by
  obtain ⟨t,p,pl,pr,h1,h2,h3,h4,h5,rfl⟩:=h.ti e
  exact ⟨t,p,pl,pr,h1,h2,h3.fr f (hs _ Lc),h4.fr f (fun x hx=>hs _ (by simp [hx])),h5.fr f fun x hx=>hs _ (by simp [hx]),rfl⟩
 no:=h.no
structure Qq (w:World) (F:List Nat) (b:Bs) (m:Qa) (N:Int) (ve vr:Value) (v:Nat→Je) (L:Nat→List Nat):Prop where
 mb:QG w b.pM b.pW b.pm b.pc b.pw m.ws.length ve m.c m.entries m.at_
 wr:QL w b.pW m.ws.length (fun k=>(m.wk k).cells (v k))
 me:Qm w b.pm b.qm m.M N
 ck:Y6 w b.pc m.now
 wl:Ze w b.pw b.pr vr m.ahead m.good m.bad
 ev:Xn w ve m.evs
 fl:Qe w 0 Qc
 db:Yj w
 nd:b.l.Nodup
 bl:∀x∈b.l,2<x∧x<w.heap.size∧x∈F
 e1:∀x,ve.ownBlock=some x→(2<x∧x<w.heap.size∧x∈F)∧x∉b.l
 e2:∀x,vr.ownBlock=some x→(2<x∧x<w.heap.size∧x∈F)∧x∉b.l∧ve.ownBlock≠some x
 th:∀k,k<m.ws.length→Ws w b m.c k (m.wk k) (v k) (L k)
 ln:∀k,k<m.ws.length→(L k).Nodup
 l1:∀k,k<m.ws.length→∀x∈L k,(2<x∧x<w.heap.size∧x∈F)∧x∉b.l∧ve.ownBlock≠some x∧vr.ownBlock≠some x
 l2:∀j k,j<m.ws.length→k<m.ws.length→j≠k→∀x∈L j,x∉L k
def MAt (w:World) (F:List Nat) (b:Bs) (m:Qa) (N:Int):Prop:=∃ve vr v L,Qq w F b m N ve vr v L
def Goes (w:World) (F:List Nat) (b:Bs) (m':Qa) (N:Int) (w':World):Prop:=∃F',MAt w' F' b m' N∧Fr F w w'∧∀x∈F',x∈F∨w.heap.size≤x
variable {F:List Nat} {m:Qa} {N N':Int} {ve vr:Value} {vv:Nat→Je} {LL:Nat→List Nat}
def Base (b:Bs) (ve vr:Value) (x:Nat):Prop:=x∈b.l∨ve.ownBlock=some x∨vr.ownBlock=some x
theorem Qq.base (A:Qq w F b m N ve vr vv LL) {x:Nat} (h:Base b ve vr x):2<x∧x<w.heap.size∧x∈F:=by
 rcases h with h|h|h
 · exact A.bl x h
 · exact (A.e1 x h).1
 · exact (A.e2 x h).1
theorem Qq.apart (A:Qq w F b m N ve vr vv LL) {x j:Nat} (hj:j<m.ws.length) (h:Base b ve vr x):x∉LL j:=by
 intro hx
 obtain ⟨-,a,b',c'⟩:=A.l1 j hj x hx
 rcases h with h|h|h
 · exact a h
 · exact b' h
 · exact c' h
theorem Qq.next (A:Qq w F b m N ve vr vv LL) (hw:who<m.ws.length) (f:Fr S w w') (hS:∀x∈S,Base b ve vr x∨x∈LL who∨w.heap.size≤x) {m':Qa} {k':Q8} {v':Je} {L':List Nat} {ve' vr':Value}
 (hc:m'.c=m.c) (hws:m'.ws=m.ws.set who k') (mb:QG w' b.pM b.pW b.pm b.pc b.pw m.ws.length ve' m.c m'.entries m'.at_) (wr:QL w' b.pW m.ws.length (upd (fun k=>(m.wk k).cells (vv k)) who (k'.cells v')))
 (me:Qm w' b.pm b.qm m'.M N') (ck:Y6 w' b.pc m'.now) (wl:Ze w' b.pw b.pr vr' m'.ahead m'.good m'.bad) (ev:Xn w' ve' m'.evs)
 (hve:∀x,ve'.ownBlock=some x→ve.ownBlock=some x∨w.heap.size≤x) (hvr:∀x,vr'.ownBlock=some x→vr.ownBlock=some x)
 (th:Ws w' b m.c who k' v' L') (ln:L'.Nodup) (l1:∀x∈L',(x∈LL who∨w.heap.size≤x)∧x<w'.heap.size∧ve'.ownBlock≠some x):Goes w F b m' N' w':=by
 have hs:=f.size
 have hin:∀x∈S,x∈F∨w.heap.size≤x:=fun x hx=>by
  rcases hS x hx with a|a|a
  · exact .inl (A.base a).2.2
  · exact .inl (A.l1 who hw x a).1.2.2
  · exact .inr a
 have h2:∀x∈S,2<x:=fun x hx=>by
  rcases hS x hx with a|a|a
  · exact (A.base a).1
  · exact (A.l1 who hw x a).1.1
  · have:=(A.bl b.pM (by simp [Bs.l]));omega
 have hl:m'.ws.length=m.ws.length:=by rw [hws,List.length_set]
 have W:∀k,m'.wk k=if k=who then k' else m.wk k:=by
  intro k;unfold Qa.wk;rw [hws,Zp]
  by_cases hk:k=who
  · rw [if_pos ⟨hk,hw⟩,if_pos hk]
  · rw [if_neg (fun e=>hk e.1),if_neg hk]
 have evl:=ev.lt
 refine ⟨F++(ve'.ownBlock.toList++L'),⟨ve',vr',fun k=>if k=who then v' else vv k,fun k=>if k=who then L' else LL k, ?_⟩,f.drop hin,fun x hx=> ?_⟩
 · refine ⟨by rw [hl,hc];exact mb, ?_,me,ck,wl,ev,A.fl.fr f fun h=>by have:=h2 0 h;omega,A.db.fr f fun h=>by have:=h2 2 h;omega,A.nd, ?_, ?_, ?_, ?_, ?_, ?_, ?_⟩
   · rw [hl]
     have e:(fun k=>(m'.wk k).cells (if k=who then v' else vv k))=upd (fun k=>(m.wk k).cells (vv k)) who (k'.cells v'):=by
      funext j;unfold upd;rw [W];split<;>rfl
     rw [e];exact wr
   · intro x hx;have:=A.bl x hx;exact ⟨this.1,Lb,by simp [this.2.2]⟩
   · intro x hx
     have:=evl x hx
     have hm:=(A.bl b.pM (by simp [Bs.l]))
     rcases hve x hx with a|a
     · have:=A.e1 x a;exact ⟨⟨this.1.1,Lb,by simp [this.1.2.2]⟩,this.2⟩
     · refine ⟨⟨Lb,Lb,by simp [hx]⟩,fun h=> ?_⟩
       have:=A.bl x h;omega
   · intro x hx
     have h3:=A.e2 x (hvr x hx)
     refine ⟨⟨h3.1.1,Lb,by simp [h3.1.2.2]⟩,h3.2.1,fun h=> ?_⟩
     rcases hve x h with a|a
     · exact h3.2.2 a
     · omega
   · intro j hj
     rw [hl] at hj
     rw [W,hc]
     by_cases e:j=who
     · rw [if_pos e,if_pos e,if_pos e,e];exact th
     · rw [if_neg e,if_neg e,if_neg e]
       refine (A.th j hj).fr f fun x hx hxs=> ?_
       rcases hS x hxs with a|a|a
       · exact A.apart hj a hx
       · exact A.l2 j who hj hw e x hx a
       · have:=(A.l1 j hj x hx).1;omega
   · intro j hj
     rw [hl] at hj
     by_cases e:j=who
     · rw [if_pos e];exact ln
     · rw [if_neg e];exact A.ln j hj
   · intro j hj x hx
     rw [hl] at hj
     by_cases e:j=who
     · rw [if_pos e] at hx
       obtain ⟨a,d,g⟩:=l1 x hx
       have hm:=(A.bl b.pM (by simp [Bs.l]))
       rcases a with a|a
       · have h3:=A.l1 who hw x a
         exact ⟨⟨h3.1.1,d,by simp [h3.1.2.2]⟩,h3.2.1,g,fun h=>h3.2.2.2 (hvr x h)⟩
       · exact ⟨⟨Lb,d,by simp [hx]⟩,fun h=>by have:=A.bl x h;omega,g,fun h=>by have:=(A.e2 x (hvr x h)).1;omega⟩
     · rw [if_neg e] at hx
       have h3:=A.l1 j hj x hx
       refine ⟨⟨h3.1.1,Lb,by simp [h3.1.2.2]⟩,h3.2.1,fun h=> ?_,fun h=>h3.2.2.2 (hvr x h)⟩
       rcases hve x h with a|a
       · exact h3.2.2.1 a
       · omega
   · intro j i hj hi hne x hx hx2
     rw [hl] at hj hi
     by_cases e:j=who
     · rw [if_pos e] at hx
       rw [if_neg Lb] at hx2
       rcases (l1 x hx).1 with a|a
       · exact A.l2 who i hw hi Lb x a hx2
       · have:=(A.l1 i hi x hx2).1;omega
     · rw [if_neg e] at hx
       by_cases e2:i=who
       · rw [if_pos e2] at hx2
         rcases (l1 x hx2).1 with a|a
         · exact A.l2 j who hj hw e x hx a
         · have:=(A.l1 j hj x hx).1;omega
       · rw [if_neg e2] at hx2
         exact A.l2 j i hj hi hne x hx hx2
 · simp only [List.mem_append,Option.mem_toList,Option.mem_def] at hx
   rcases hx with a|a|a
   · exact .inl a
   · rcases hve x a with d|d
     · exact .inl (A.e1 x d).1.2.2
     · exact .inr d
   · rcases (l1 x a).1 with d|d
     · exact .inl (A.l1 who hw x d).1.2.2
     · exact .inr d
theorem Qq.sep (A:Qq w F b m N ve vr vv LL) (hw:who<m.ws.length) {x:Nat} (h:x=b.pm∨x=b.qm∨x∈LL who):x≠b.pM∧x≠b.pW∧ve.ownBlock≠some x∧x≠b.pw∧x≠b.pr∧vr.ownBlock≠some x∧x≠b.pc∧2<x∧x<w.heap.size:=by
 have nd:=A.nd
 simp only [Bs.l,List.nodup_cons,List.mem_cons,List.not_mem_nil,or_false,not_or,List.nodup_nil,and_true,not_false_eq_true] at nd
 obtain ⟨⟨a1,a2,a3,a4,a5,a6⟩,⟨b2,b3,b4,b5,b6⟩,⟨c3,c4,c5,c6⟩,⟨d4,d5,d6⟩,⟨e5,e6⟩,f6⟩:=nd
 have hin:∀y∈b.l,ve.ownBlock≠some y∧vr.ownBlock≠some y:=fun y hy=>⟨fun e=>(A.e1 y e).2 hy,fun e=>(A.e2 y e).2.1 hy⟩
 rcases h with rfl|rfl|h
 · have h1:=hin b.pm (by simp [Bs.l]);have h2:=A.bl b.pm (by simp [Bs.l])
   exact ⟨Ne.symm a2,Ne.symm b2,h1.1,c5,c6,h1.2,c4,h2.1,h2.2.1⟩
 · have h1:=hin b.qm (by simp [Bs.l]);have h2:=A.bl b.qm (by simp [Bs.l])
   exact ⟨Ne.symm a3,Ne.symm b3,h1.1,d5,d6,h1.2,d4,h2.1,h2.2.1⟩
 · obtain ⟨⟨x1,x2,x3⟩,x4,x5,x6⟩:=A.l1 who hw x h
   simp only [Bs.l,List.mem_cons,List.not_mem_nil,or_false,not_or] at x4
   exact ⟨x4.1,x4.2.1,x5,x4.2.2.2.2.2.1,x4.2.2.2.2.2.2,x6,x4.2.2.2.2.1,x1,x2⟩
theorem Qq.sep2 (A:Qq w F b m N ve vr vv LL) (hw:who<m.ws.length) {x:Nat} (h:x∈LL who):x≠b.pm∧x≠b.qm:=by
 have a4:=(A.l1 who hw x h).2.1
 simp only [Bs.l,List.mem_cons,List.not_mem_nil,or_false,not_or] at a4
 exact ⟨a4.2.2.1,a4.2.2.2.1⟩
theorem Qq.ne (A:Qq w F b m N ve vr vv LL):b.pM≠b.pW∧(b.pm≠b.pM∧b.pm≠b.pW∧b.qm≠b.pM∧b.qm≠b.pW)∧b.pm≠b.qm∧(b.pw≠b.pM∧b.pw≠b.pW∧b.pr≠b.pM∧b.pr≠b.pW)∧(b.pc≠b.pM∧b.pc≠b.pW∧b.pc≠b.pm∧b.pc≠b.qm∧b.pc≠b.pw∧b.pc≠b.pr)∧(b.pw≠b.pm∧b.pw≠b.qm∧b.pr≠b.pm∧b.pr≠b.qm):=by
 have nd:=A.nd
 simp only [Bs.l,List.nodup_cons,List.mem_cons,List.not_mem_nil,or_false,not_or,List.nodup_nil,and_true,not_false_eq_true] at nd
 obtain ⟨⟨a1,a2,a3,a4,a5,a6⟩,⟨b2,b3,b4,b5,b6⟩,⟨c3,c4,c5,c6⟩,⟨d4,d5,d6⟩,⟨e5,e6⟩,f6⟩:=nd
 exact ⟨a1,⟨Ne.symm a2,Ne.symm b2,Ne.symm a3,Ne.symm b3⟩,c3,⟨Ne.symm a5,Ne.symm b5,Ne.symm a6,Ne.symm b6⟩,⟨Ne.symm a4,Ne.symm b4,Ne.symm c4,Ne.symm d4,e5,e6⟩,⟨Ne.symm c5,Ne.symm d5,Ne.symm c6,Ne.symm d6⟩⟩
theorem Qq.hve (A:Qq w F b m N ve vr vv LL):∀x,ve.ownBlock=some x→x≠b.pM∧x≠b.pW:=fun x hx=>by
 have:=(A.e1 x hx).2
 simp only [Bs.l,List.mem_cons,List.not_mem_nil,or_false,not_or] at this
 exact ⟨this.1,this.2.1⟩
theorem Qq.row (A:Qq w F b m N ve vr vv LL) (who:Nat):QL w b.pW m.ws.length (upd (fun k=>(m.wk k).cells (vv k)) who ((m.wk who).cells (vv who))):=by
 rw [Q5S (fun k=>(m.wk k).cells (vv k)) who];exact A.wr
theorem Qq.Xa (A:Qq w F b m N ve vr vv LL) (hw:who<m.ws.length) (f:Fr S w w') (hS:∀x∈S,x=b.pM∨x=b.pW∨x=b.pm∨x=b.qm∨x∈LL who∨w.heap.size≤x) {m':Qa} {k' k0:Q8} {v':Je} {L':List Nat}
 (hc:m'.c=m.c) (hws:m'.ws=m.ws.set who k') (hen:m'.entries=m.entries) (hat:m'.at_=m.at_) (hnow:m'.now=m.now) (hah:m'.ahead=m.ahead) (hg:m'.good=m.good) (hb:m'.bad=m.bad) (hev:m'.evs=m.evs)
 (P:QZ w' b.pM b.pW b.pm b.pc b.pw m.ws.length who ve m.c m.entries m.at_ (fun k=>(m.wk k).cells (vv k)) k0 v') (me:Qm w' b.pm b.qm m'.M N')
 (th:Ws w' b m.c who k' v' L') (ln:L'.Nodup) (l1:∀x∈L',(x∈LL who∨w.heap.size≤x)∧x<w'.heap.size) (hk0:k'.cells v'=k0.cells v':=by rfl):Goes w F b m' N' w':=by
 obtain ⟨n1,⟨n2,n3,n4,n5⟩,n6,⟨n7,n8,n9,n10⟩,⟨n11,n12,n13,n14,n15,n16⟩,⟨n17,n18,n19,n20⟩⟩:=A.ne
 have X:∀x,(x∈b.l∧x≠b.pM∧x≠b.pW∧x≠b.pm∧x≠b.qm)∨ve.ownBlock=some x∨vr.ownBlock=some x→x∉S:=by
  intro x hx hxs
  have hx':Base b ve vr x:=by rcases hx with ⟨a, -⟩|a|a;exact .inl a;exact .inr (.inl a);exact .inr (.inr a)
  rcases hS x hxs with rfl|rfl|rfl|rfl|a|a
  · rcases hx with ⟨-,a, -⟩|a|a
    · exact a rfl
    · exact (A.e1 _ a).2 (by simp [Bs.l])
    · exact (A.e2 _ a).2.1 (by simp [Bs.l])
  · rcases hx with ⟨-, -,a, -⟩|a|a
    · exact a rfl
    · exact (A.e1 _ a).2 (by simp [Bs.l])
    · exact (A.e2 _ a).2.1 (by simp [Bs.l])
  · rcases hx with ⟨-, -, -,a, -⟩|a|a
    · exact a rfl
    · exact (A.e1 _ a).2 (by simp [Bs.l])
    · exact (A.e2 _ a).2.1 (by simp [Bs.l])
  · rcases hx with ⟨-, -, -, -,a⟩|a|a
    · exact a rfl
    · exact (A.e1 _ a).2 (by simp [Bs.l])
    · exact (A.e2 _ a).2.1 (by simp [Bs.l])
  · exact A.apart hw hx' a
  · have:=(A.base hx').2.1;omega
 refine A.next hw f (fun x hx=> ?_) hc hws (by rw [hen,hat];exact P.mb) (by rw [hk0];exact P.wr) me (by rw [hnow];exact A.ck.fr f (X _ (.inl ⟨by simp [Bs.l],n11,n12,n13,n14⟩))) (vr':=vr)
  (by rw [hah,hg,hb];exact A.wl.ov f (X _ (.inl ⟨by simp [Bs.l],n7,n8,n17,n18⟩)) (X _ (.inl ⟨by simp [Bs.l],n9,n10,n19,n20⟩)) fun x hx=>X x (.inr (.inr hx)))
  (by rw [hev];exact J3.fr A.ev f fun x hx=>X x (.inr (.inl hx))) (fun x hx=>.inl hx) (fun x hx=>hx) th ln fun x hx=>⟨(l1 x hx).1,(l1 x hx).2,fun e=> ?_⟩
 · rcases hS x hx with rfl|rfl|rfl|rfl|a|a
   · exact .inl (.inl (by simp [Bs.l]))
   · exact .inl (.inl (by simp [Bs.l]))
   · exact .inl (.inl (by simp [Bs.l]))
   · exact .inl (.inl (by simp [Bs.l]))
   · exact .inr (.inl a)
   · exact .inr (.inr a)
 · rcases (l1 x hx).1 with a|a
   · exact (A.l1 who hw x a).2.2.1 e
   · have:=(A.e1 x e).1;omega
end
section
open Go.RowKit Go.Shelf Go.Lib
variable {w w':World} {b:Bs} {c:Q0} {who:Nat} {k:Q8} {v:Je} {L S:List Nat} {F:List Nat} {m:Qa} {N n:Int} {ve vr:Value} {vv:Nat→Je} {LL:Nat→List Nat}
def YH (w:World) (F:List Nat) (b:Bs) (m':Qa) (N:Int) (e:Ending) (w':World):Prop:=e=.returned (.tuple #[])∧Goes w F b m' N w'
theorem Ed (h:k.st=0∨k.st=1∨k.st=6∨k.st=7):Ws w b c who k v []:=⟨fun e=>Lb,fun e=>Lb,fun e=>Lb,fun e=>Lb,fun _=>rfl⟩
theorem Vv (h:k.st=2) (J:DU w b c who v.vw L k.work):Ws w b c who k v L:=⟨fun _=>J,fun e=>Lb,fun e=>Lb,fun e=>Lb,fun e=>Lb⟩
theorem Wh (h:k.st=5) {t:Qf} {p:Nat} {pl pr:Option Nat} (h1:k.ti=some t) (h2:v.vd=pt p) (h3:Jy w p pl pr c t) (h4:Zv w pl c t.look) (h5:Yf w pr t.ret):Ws w b c who k v (p::(pl.toList++pr.toList)):=
 ⟨fun e=>Lb,fun e=>Lb,fun e=>Lb,fun _=>⟨t,p,pl,pr,h1,h2,h3,h4,h5,rfl⟩,fun e=>Lb⟩
theorem Q7R (h:k.st=4∨k.st=8) {q:QuS} {p:Nat} (h1:k.qu=some q) (h2:v.vq=pt p) (h3:Jd w p c q):Ws w b c who k v [p]:=
 ⟨fun e=>Lb,fun e=>Lb,fun _=>⟨q,p,h1,h2,h3,rfl⟩,fun e=>Lb,fun e=>Lb⟩
theorem wkTw (h:k.st=3) {t:Tw2} {p:Nat} {vR vL:Value} (h1:k.tw=some t) (h2:v.vt=pt p) (h3:Yz w p c vR vL t.r t.l t.n t.d):Ws w b c who k v (p::(vR.ownBlock.toList++vL.ownBlock.toList)):=
 ⟨fun e=>Lb,fun _=>⟨t,p,vR,vL,h1,h2,h3,rfl⟩,fun e=>Lb,fun e=>Lb,fun e=>Lb⟩
theorem Gm.grow {p pm qm:Nat} {pl pr:Option Nat} (h:Gm w p pm qm pl pr) (hs:w.heap.size≤w'.heap.size):Gm w' p pm qm pl pr:=by
 obtain ⟨a1,a2,a3,a4,a5,a6,a7,a8⟩:=h.pp
 exact ⟨⟨a1,a2,a3,a4,a5,Lb,Lb,Lb⟩,fun b hb=>by obtain ⟨b1,b2,b3,b4,b5⟩:=h.fl b hb;exact ⟨b1,b2,b3,b4,Lb⟩,fun b hb=>by obtain ⟨b1,b2,b3,b4,b5⟩:=h.fr b hb;exact ⟨b1,b2,b3,b4,Lb⟩,h.lr⟩
theorem Qq.foot (A:Qq w F b m N ve vr vv LL) (hw:who<m.ws.length) {p:Nat} {pl pr:Option Nat} {l0:List Nat} (hL:LL who=l0++(p::(pl.toList++pr.toList))):Gm w p b.pm b.qm pl pr:=by
 have nd:=A.ln who hw
 rw [hL] at nd
 have nd2:=(List.nodup_append.1 nd).2.1
 rw [List.nodup_cons] at nd2
 have nd3:=List.nodup_append.1 nd2.2
 have I:∀x,x=p∨pl=some x∨pr=some x→x∈LL who:=fun x hx=>by
  rw [hL];rcases hx with rfl|h|h<;>simp_all
 have hp:=A.l1 who hw p (I p (.inl rfl))
 have s2:=A.sep2 hw (I p (.inl rfl))
 have m1:=A.bl b.pm (by simp [Bs.l]);have m2:=A.bl b.qm (by simp [Bs.l])
 refine ⟨⟨s2.1,s2.2,Lb,Lb,Lb,hp.1.2.1,m1.2.1,m2.2.1⟩,fun x hx=> ?_,fun x hx=> ?_,fun x hx hx2=> ?_⟩
 · have h1:=A.l1 who hw x (I x (.inr (.inl hx)));have h2:=A.sep2 hw (I x (.inr (.inl hx)))
   exact ⟨fun e=>nd2.1 (by rw [←e];simp [hx]),h2.1,h2.2,Lb,h1.1.2.1⟩
 · have h1:=A.l1 who hw x (I x (.inr (.inr hx)));have h2:=A.sep2 hw (I x (.inr (.inr hx)))
   exact ⟨fun e=>nd2.1 (by rw [←e];simp [hx]),h2.1,h2.2,Lb,h1.1.2.1⟩
 · exact nd3.2.2 x (by simp [hx]) x (by simp [hx2]) rfl
theorem Qq.away (A:Qq w F b m N ve vr vv LL) (hw:who<m.ws.length) {x:Nat} (h:x∈LL who∨x=b.pm∨x=b.qm∨w.heap.size≤x) {l:List Nat} (hl:∀y∈l,y=b.pM∨y=b.pW∨ve.ownBlock=some y):x∉l:=by
 intro hx
 have h1:=A.bl b.pM (by simp [Bs.l]);have h2:=A.bl b.pW (by simp [Bs.l])
 rcases h with h|h|h|h
 · have s:=A.sep hw (.inr (.inr h))
   rcases hl x hx with e|e|e
   · exact s.1 e
   · exact s.2.1 e
   · exact s.2.2.1 e
 · have s:=A.sep hw (x:=x) (.inl h)
   rcases hl x hx with e|e|e
   · exact s.1 e
   · exact s.2.1 e
   · exact s.2.2.1 e
 · have s:=A.sep hw (x:=x) (.inr (.inl h))
   rcases hl x hx with e|e|e
   · exact s.1 e
   · exact s.2.1 e
   · exact s.2.2.1 e
 · rcases hl x hx with e|e|e
   · omega
   · omega
   · have:=(A.e1 x e).1;omega
theorem Qq.hD (A:Qq w F b m N ve vr vv LL) (hw:who<m.ws.length) (hs:∀x∈S,x=b.pm∨x=b.qm∨x∈LL who):∀x∈S,x≠b.pM∧x≠b.pW∧ve.ownBlock≠some x:=fun x hx=>by
 have s:=A.sep hw (hs x hx)
 exact ⟨s.1,s.2.1,s.2.2.1⟩
theorem Qq.box (A:Qq w F b m N ve vr vv LL) (hw:who<m.ws.length) {bt bm bw:Nat} {r:List Nat} (hL:LL who=bt::bm::bw::r):
 ((bt≠b.pM∧bt≠b.pW)∧(bm≠b.pM∧bm≠b.pW)∧(bw≠b.pM∧bw≠b.pW))∧∀x,x=b.pm∨x=b.qm∨x∈r→x≠bt∧x≠bm∧x≠bw:=by
 have I:∀x∈[bt,bm,bw],x∈LL who:=fun x hx=>by rw [hL];simp at hx ⊢;rcases hx with h|h|h<;>simp [h]
 have s1:=A.sep hw (.inr (.inr (I bt Lc)));have s2:=A.sep hw (.inr (.inr (I bm Lc)));have s3:=A.sep hw (.inr (.inr (I bw Lc)))
 have t1:=A.sep2 hw (I bt Lc);have t2:=A.sep2 hw (I bm Lc);have t3:=A.sep2 hw (I bw Lc)
 refine ⟨⟨⟨s1.1,s1.2.1⟩,⟨s2.1,s2.2.1⟩,⟨s3.1,s3.2.1⟩⟩,fun x hx=> ?_⟩
 have nd:=A.ln who hw
 rw [hL] at nd
 simp only [List.nodup_cons,List.mem_cons,not_or] at nd
 rcases hx with rfl|rfl|hx
 · exact ⟨Ne.symm t1.1,Ne.symm t2.1,Ne.symm t3.1⟩
 · exact ⟨Ne.symm t1.2,Ne.symm t2.2,Ne.symm t3.2⟩
 · exact ⟨fun e=>nd.1.2.2 (by rw [←e];exact hx),fun e=>nd.2.1.2 (by rw [←e];exact hx),fun e=>nd.2.2.1 (by rw [←e];exact hx)⟩
theorem Qq.Q3z (A:Qq w F b m N ve vr vv LL) (hw:who<m.ws.length) {bt bm bw p:Nat} {r S0:List Nat} {ty:TypeId} {i:Int} (hL:LL who=bt::bm::bw::r) (B:Y1 w bt bm bw b.pM p i ty) (f:Fr (b.pM::b.pW::S0) w w') (hs:∀x∈S0,x=b.pm∨x=b.qm∨x∈r∨x=b.pw∨x=b.pr∨vr.ownBlock=some x):Y1 w' bt bm bw b.pM p i ty:=by
 obtain ⟨⟨h1,h2,h3⟩,h4⟩:=A.box hw hL
 have I:∀x∈[bt,bm,bw],x∈LL who:=fun x hx=>by rw [hL];simp at hx ⊢;rcases hx with h|h|h<;>simp [h]
 have s1:=A.sep hw (.inr (.inr (I bt Lc)));have s2:=A.sep hw (.inr (.inr (I bm Lc)));have s3:=A.sep hw (.inr (.inr (I bw Lc)))
 have X:∀x,x∈S0→x≠bt∧x≠bm∧x≠bw:=fun x hx=>by
  rcases hs x hx with h|h|h|h|h|h
  · exact h4 x (.inl h)
  · exact h4 x (.inr (.inl h))
  · exact h4 x (.inr (.inr h))
  · exact ⟨fun e=>s1.2.2.2.1 (by rw [←e,h]),fun e=>s2.2.2.2.1 (by rw [←e,h]),fun e=>s3.2.2.2.1 (by rw [←e,h])⟩
  · exact ⟨fun e=>s1.2.2.2.2.1 (by rw [←e,h]),fun e=>s2.2.2.2.2.1 (by rw [←e,h]),fun e=>s3.2.2.2.2.1 (by rw [←e,h])⟩
  · exact ⟨fun e=>s1.2.2.2.2.2.1 (by rw [←e,h]),fun e=>s2.2.2.2.2.2.1 (by rw [←e,h]),fun e=>s3.2.2.2.2.2.1 (by rw [←e,h])⟩
 refine B.ov f (fun h=> ?_) (fun h=> ?_) (fun h=> ?_)<;>simp only [List.mem_cons] at h<;>rcases h with h|h|h
 · exact h1.1 h
 · exact h1.2 h
 · exact (X _ h).1 rfl
 · exact h2.1 h
 · exact h2.2 h
 · exact (X _ h).2.1 rfl
 · exact h3.1 h
 · exact h3.2 h
 · exact (X _ h).2.2 rfl
theorem nd2 {l:List Nat} {pl pr pl' pr':Option Nat} {z:Nat} (h:(l++(pl.toList++pr.toList)).Nodup) (hz:∀x∈l,x<z) (h1:∀x,pl'=some x→pl=some x∨z≤x) (h2:∀x,pr'=some x→pr=some x∨z≤x) (h3:∀x,pl'=some x→pr'≠some x):(l++(pl'.toList++pr'.toList)).Nodup:=by
 obtain ⟨a, -,d⟩:=List.nodup_append.1 h
 refine List.nodup_append.2 ⟨a, ?_,fun x hx y hy e=> ?_⟩
 · cases pl' with
   |none=>cases pr'<;>simp
   |some x=>
    cases pr' with
    |none=>simp
    |some y=>have:=h3 x rfl;simp;intro e;exact this (by rw [e])
 · subst e
   have hx2:=hz x hx
   simp only [List.mem_append,Option.mem_toList,Option.mem_def] at hy
   rcases hy with e|e
   · rcases h1 x e with g|g
     · exact d x hx x (by simp [g]) rfl
     · omega
   · rcases h2 x e with g|g
     · exact d x hx x (by simp [g]) rfl
     · omega
theorem Qq.now (A:Qq w F b m N ve vr vv LL) (hw:who<m.ws.length) {l:List Nat} {pl pr pl' pr':Option Nat} (hL:LL who=l++(pl.toList++pr.toList)) (hsz:w.heap.size≤w'.heap.size) (h1:∀x,pl'=some x→pl=some x∨w.heap.size≤x) (h2:∀x,pr'=some x→pr=some x∨w.heap.size≤x) (h3:∀x,pl'=some x→pr'≠some x)
 (l1:∀x,pl'=some x→x<w'.heap.size) (l2:∀x,pr'=some x→x<w'.heap.size):(l++(pl'.toList++pr'.toList)).Nodup∧∀x∈l++(pl'.toList++pr'.toList),(x∈LL who∨w.heap.size≤x)∧x<w'.heap.size:=by
 have nd:=A.ln who hw
 rw [hL] at nd
 have hz:∀x∈l,x<w.heap.size:=fun x hx=>(A.l1 who hw x (by rw [hL];simp [hx])).1.2.1
 refine ⟨nd2 nd hz h1 h2 h3,fun x hx=> ?_⟩
 simp only [List.mem_append,Option.mem_toList,Option.mem_def] at hx
 rcases hx with h|h|h
 · exact ⟨.inl (by rw [hL];simp [h]),by have:=hz x h;omega⟩
 · exact ⟨(h1 x h).imp (fun e=>by rw [hL];simp [e]) id,l1 x h⟩
 · exact ⟨(h2 x h).imp (fun e=>by rw [hL];simp [e]) id,l2 x h⟩
theorem Z5 (I:MInv n m):X5 m.c m.M:=fun i a d=>by obtain ⟨s,h1,h2⟩:=I.mem.sl i a d;exact ⟨s,h1,by unfold Q5 at h2;rwa [if_pos ⟨a,d⟩] at h2⟩
theorem JR (A:Qq w F b m N ve vr vv LL) (hw:who<m.ws.length) {S0:List Nat} (hs:∀x∈S0,x=b.pm∨x=b.qm∨x∈LL who):∀x∈b.pM::b.pW::S0,x=b.pM∨x=b.pW∨x=b.pm∨x=b.qm∨x∈LL who∨w.heap.size≤x:=fun x hx=>by
 simp only [List.mem_cons] at hx
 rcases hx with h|h|h
 · exact .inl h
 · exact .inr (.inl h)
 · rcases hs x h with h|h|h
   · exact .inr (.inr (.inl h))
   · exact .inr (.inr (.inr (.inl h)))
   · exact .inr (.inr (.inr (.inr (.inl h))))
theorem XU.fr' {p pm qm:Nat} {pr:Option Nat} {g:QC} (h:XU w p pm qm pr c g) (f:Fr S w w') (hp:p∉S) (hr:∀x,pr=some x→x∉S):XU w' p pm qm pr c g:=⟨h.blk.fr f hp,h.rt.fr f hr,h.ft.grow f.size⟩
theorem Z0m {P:Prop} (h:P:=by
 exact ⟨rfl,A.Xa hw f (JR A hw hSin) rfl rfl rfl rfl rfl rfl rfl rfl rfl P a2 (Wh (pl:=none) (pr:=none) rfl rfl rfl ht trivial trivial) Lc (by simp;exact ⟨.inr hp2,Q9 ht⟩)⟩):P:=h
theorem Z0t {P:Prop} (h:P:=by
 rw [hL];simp only [List.mem_cons] at hx ⊢;rcases hx with h|h|h|h<;>simp [h]):P:=h
theorem r_give (A:Qq w F b m N ve vr vv LL) (I:MInv n m) (hw:who<m.ws.length) (hwo:(who:Int)<m.c.wo) (hN:N≤1000000000) (hs:(m.wk who).st=2) {g:QC} (hk:(m.wk who).work=.give g):
 Calls Tryz.prog 57 #[.pointer (some ⟨b.pM,0,none⟩),.int .i64 who] w (YH w F b (QM m who) (N+1)):=by
 have T:=(A.th who hw).wk hs
 rw [hk] at T
 obtain ⟨bt,bm,bw,p,pr,hvw,B,h1,h3,hL⟩:=T
 have lv:=(I.wk who hwo).wk hs
 rw [hk] at lv
 obtain ⟨ho,lv,hi,hg⟩:=lv
 have hGt:XU w p b.pm b.qm pr m.c g:=⟨h1,h3,A.foot hw (l0:=[bt,bm,bw]) (pl:=none) (by rw [hL];rfl)⟩
 have hok:g.ok m.c:=⟨lv.s0,by have:=lv.s1;omega,by rw [lv.tw];omega,by rw [lv.tw];have:=I.mem.cf.1;omega,fun e=>by obtain ⟨-,s,a,d, -⟩:=lv.wd e;exact ⟨s,a,d⟩,
  fun e=>by obtain ⟨-,r,a,⟨⟨s,d1,d2, -⟩,d3,d4, -, -⟩⟩:=lv.rt e;exact ⟨r,a,⟨⟨s,d1,d2⟩,fun _=>d4,fun x=>absurd x d3⟩⟩⟩
 have hlive:g.st≠4:=by have:=lv.s1;omega
 have hSin:∀x∈p::b.pm::b.qm::pr.toList,x=b.pm∨x=b.qm∨x∈LL who:=fun x hx=>by
  exact Z0t
 have hHC:∀w1,Fr [] w w1→Calls Tryz.prog 147 #[.pointer (some ⟨p,0,none⟩),.pointer (some ⟨b.pm,0,none⟩)] w1 (Q07 w1 p b.pm b.qm pr m.c N (Qv m.c g m.M)):=fun w1 f=>
  Q58 w1 p b.pm b.qm pr m.c g m.M N (hGt.fr' f Lc Lc) (A.me.fr f Lc Lc) hN hok hlive (Z5 I) I.mem.cf (A.fl.fr f Lc)
 obtain ⟨hB,hDB0⟩:=A.box hw hL
 have hDB:∀x∈p::b.pm::b.qm::pr.toList,x≠bt∧x≠bm∧x≠bw:=fun x hx=>hDB0 x (by simp only [List.mem_cons] at hx ⊢;rcases hx with h|h|h|h<;>simp [h])
 have eM:QM m who={m with M:=(Qv m.c g m.M).2}.setW who (if (Qv m.c g m.M).1.st=4 then {(m.wk who) with work:=.give (Qv m.c g m.M).1}.end_ who {ev0 with e:=(Qv m.c g m.M).1.e} else {(m.wk who) with work:=.give (Qv m.c g m.M).1}):=by
  unfold QM;simp only [hk]
 rw [eM]
 clear eM
 obtain ⟨g',M',hx⟩:∃g' M',Qv m.c g m.M=(g',M'):=⟨_,_,rfl⟩
 rw [hx] at hHC ⊢
 simp only
 let R:World→Prop:=fun w2=>∃pr',XU w2 p b.pm b.qm pr' m.c g'∧Qm w2 b.pm b.qm M' (N+1)∧∀x,pr'=some x→pr=some x∨w.heap.size≤x
 have hpin:p∈LL who:=by rw [hL];simp
 have hprin:∀x,pr=some x→x∈LL who:=fun x hx=>by rw [hL];simp [hx]
 have hST:Xe R b.pM b.pW ve:=fun l w1 w2 f hl ⟨pr',a1,a2,a3⟩=>
  ⟨pr',a1.fr' f (A.away hw (.inl hpin) hl) (fun x hx=>A.away hw (by rcases a3 x hx with h|h;exact .inl (hprin x h);exact .inr (.inr (.inr h))) hl),a2.fr f (A.away hw (.inr (.inl rfl)) hl) (A.away hw (.inr (.inr (.inl rfl))) hl),a3⟩
 have hHC':∀w1,Fr [] w w1→Calls Tryz.prog 147 #[.pointer (some ⟨p,0,none⟩),.pointer (some ⟨b.pm,0,none⟩)] w1 fun e w2=>e=.returned (.bool (decide (g'.st=4)))∧R w2∧Fr (p::b.pm::b.qm::pr.toList) w1 w2:=fun w1 f=>by
  refine (hHC w1 f).mono ?_
  rintro e w2 ⟨e1,pr',a1,a2,a3,a4⟩
  exact ⟨e1,⟨pr',a1,a2,fun x hx=>(a4 x hx).imp id fun h=>Nat.le_trans f.size h⟩,a3⟩
 by_cases h4:g'.st=4
 · rw [decide_eq_true h4] at hHC'
   rw [if_pos h4]
   refine Xo w _ _ _ _ _ _ who _ _ _ _ _ _ _ A.mb (A.row who) hw A.ne.1 146 bt bm bw hvw (fun args wx=>Qu Tryz.func146 (by kernel_rfl) rfl args wx) (fun w2=>Goes w F b _ (N+1) w2) ?_
   refine (Q4S w _ _ _ _ _ _ who _ _ _ _ _ _ _ A.mb (A.row who) hw A.ne.1 p R _ hST (A.hD hw hSin) A.hve bt bm bw B hB hDB hHC' g'.e 0 (fun w2 ⟨pr',a1,_⟩=>Q1g w2 p pr' m.c g' a1.blk h4)).mono ?_
   rintro e w2 ⟨rfl,p2,hp2,ht,P,⟨pr',a1,a2,a3⟩,f⟩
   exact Z0m
 · rw [decide_eq_false h4] at hHC'
   rw [if_neg h4]
   refine Xo w _ _ _ _ _ _ who _ _ _ _ _ _ _ A.mb (A.row who) hw A.ne.1 146 bt bm bw hvw (fun args wx=>Qu Tryz.func146 (by kernel_rfl) rfl args wx) (fun w2=>Goes w F b _ (N+1) w2) ?_
   refine (Q6H w _ _ _ _ _ _ who _ _ _ _ _ _ _ A.mb (A.row who) hw A.ne.1 p R _ hST (A.hD hw hSin) A.hve bt bm bw B hB hDB hHC').mono ?_
   rintro e w2 ⟨rfl,P,⟨pr',a1,a2,a3⟩,f⟩
   have hr0:∀x∈p::b.pm::b.qm::pr.toList,x=b.pm∨x=b.qm∨x∈p::pr.toList∨x=b.pw∨x=b.pr∨vr.ownBlock=some x:=fun x hx=>by
    simp only [List.mem_cons] at hx ⊢;rcases hx with h|h|h|h<;>simp [h]
   have hBf:=A.Q3z hw hL B f hr0
   obtain ⟨z1,z2⟩:=A.now hw (l:=[bt,bm,bw,p]) (pl:=none) (pr:=pr) (pl':=none) (pr':=pr') (by rw [hL];rfl) f.size Lc a3 Lc Lc a1.rt.lt
   exact ⟨rfl,A.Xa hw f (JR A hw hSin) rfl rfl rfl rfl rfl rfl rfl rfl rfl P a2 (Vv hs ⟨bt,bm,bw,p,pr',hvw,hBf,a1.blk,a1.rt,rfl⟩) z1 z2⟩
end
end Go.Proofs.YtgjklfmnmljilaaGreatDoor

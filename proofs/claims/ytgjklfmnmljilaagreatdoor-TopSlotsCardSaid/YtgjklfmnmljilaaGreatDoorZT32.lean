/- A part of the proof: TpZx to TqA. -/
import Derived.Test.YtgjklfmnmljilaaGreatDoorZT03
import Derived.Test.YtgjklfmnmljilaaGreatDoorZT28
import Derived.WalkKit
namespace Go.Proofs.YtgjklfmnmljilaaGreatDoor
set_option linter.unusedVariables false
set_option linter.unusedSimpArgs false
set_option linter.unusedSectionVars false
set_option linter.unnecessarySimpa false
set_option maxRecDepth 100000
set_option maxHeartbeats 8000000
section
open Go.RowKit Go.Shelf Go.Lib
attribute [local go_sem] Oper.semAt_some
variable (w:World) (pM pW pm pc pw n who:Nat) (ve:Value) (c:Q0) (ent mat:Int) (f:Nat→List Value) (k:Qa) (v:Ja)
theorem Q2T (hMB:QB w pM pW pm pc pw n ve c ent mat) (hW:QA w pW n (upd f who (k.cells v))) (hk:who<n) (hne:pM≠pW) (p:Nat) (R:World→Prop) (S:List Nat) (hST:Xa R pM pW ve) (hD:∀b∈S,b≠pM∧b≠pW∧ve.ownBlock≠some b) (hve:∀b,ve.ownBlock=some b→b≠pM∧b≠pW) (HC:∀w',Fr [] w w'→Calls Tryz.prog 76 #[.pointer (some ⟨p,0,none⟩),.pointer (some ⟨pm,0,none⟩)] w' fun e w2=>e=.returned (.bool false)∧R w2∧Fr S w' w2) (hv:v.vt=.pointer (some ⟨p,0,none⟩)):
 Calls Tryz.prog 58 #[.pointer (some ⟨pM,0,none⟩),.int .i64 who] w fun e w'=>e=.returned (.tuple #[])∧QT w' pM pW pm pc pw n who ve c ent mat f k v∧R w'∧Fr (pM::pW::S) w w':=by
 obtain ⟨vw,vt,vq,vd⟩:=v
 dsimp only at hv
 subst hv
 have HCS:=hid HC
 have B:Bag (pM::pW::S) w [tRo false pM _ _,tW pW n f who _] w:=(Zn hMB hW hne).mono (by simp)
 dsimp only [Qa.cells] at B
 clear hMB hW hne HC
 have m:=B.q 0
 go_in
 go_wp2_with fail
 clear m
 refine rgf B fun _ fc B=> ?_
 iterate 8 refine tb ?_
 refine tc 8 fun K hK=> ?_
 go_simp
 refine (HCS.out _ fc).mono ?_
 rintro e w1 ⟨rfl,hr,f1⟩
 replace B:=VH B f1 (by intro x hx;simp [hx]) (fun b hb=>⟨(hD b hb).1,(hD b hb).2.1⟩)
 go_wp2_with fail
 refine bk hK ?_
 clear hK K
 try go_frame
 refine tb ?_
 refine wpAnyH_done (by decide+kernel) ?_ _
 go_wp2
 try simp only [Exit.inBlock,Exit.then]
 refine bodyPost_ret (results_none rfl _ _ _) rfl ?_
 exact ⟨rfl,⟨B.g 0,B.g 1⟩,hr,B.fr⟩
def UU (b:Bool) (A B:Prop):Prop:=if b=true then A else B
theorem UU.t {b:Bool} {A B:Prop} (h:b=true) (a:A):UU b A B:=by unfold UU;rw [if_pos h];exact a
theorem UU.ff {b:Bool} {A B:Prop} (h:b=false) (a:B):UU b A B:=by unfold UU;rw [if_neg (by rw [h];simp)];exact a
def CFit (w w':World) (pM pW pm pc pw n who:Nat) (ve:Value) (c:Q0) (ent mat:Int) (f:Nat→List Value) (k:Qa) (v:Ja):Prop:=∃p2 bt bm bw,(w.heap.size≤p2∧w.heap.size≤bt∧w.heap.size≤bm∧w.heap.size≤bw)∧(p2≠bt∧p2≠bm∧p2≠bw)∧Xg w' p2 none none c (J8 who)∧ZV w' bt bm bw pM p2 who 134∧
 QT w' pM pW pm pc pw n who ve c ent mat f {k with work:=.get (J8 who),st:=2} {v with vw:=.func (.func 113) #[] #[.pointer (some ⟨bt,0,none⟩),.pointer (some ⟨bm,0,none⟩),.pointer (some ⟨bw,0,none⟩)]}
def CEnd (w w':World) (pM pW pm pc pw n who:Nat) (ve:Value) (c:Q0) (ent mat:Int) (f:Nat→List Value) (k:Qa) (v:Ja):Prop:=∃p2,w.heap.size≤p2∧Jq w' p2 none none c (QG who)∧QT w' pM pW pm pc pw n who ve c ent mat f (k.end_ who {ev0 with e:=3}) {v with vd:=.pointer (some ⟨p2,0,none⟩)}
theorem EP (hMB:QB w pM pW pm pc pw n ve c ent mat) (hW:QA w pW n (upd f who (k.cells v))) (hk:who<n) (hne:pM≠pW) (p:Nat) (R:World→Prop) (S:List Nat) (hST:Xa R pM pW ve) (hD:∀b∈S,b≠pM∧b≠pW∧ve.ownBlock≠some b) (hve:∀b,ve.ownBlock=some b→b≠pM∧b≠pW) (HC:∀w',Fr [] w w'→Calls Tryz.prog 76 #[.pointer (some ⟨p,0,none⟩),.pointer (some ⟨pm,0,none⟩)] w' fun e w2=>e=.returned (.bool true)∧R w2∧Fr S w' w2) (hv:v.vt=.pointer (some ⟨p,0,none⟩)) (L:List Int) (hL:∀x∈L,∃s:Q8,s.right∧x=s.enc) (hlen:L.length≤1000) (hG:Qf w 0 Qc) (hS0:0∉S) (hz:0<pM∧0<pW) (HA:∀w',R w'→Calls Tryz.prog 77 #[.pointer (some ⟨p,0,none⟩)] w' (Vn w' L)):
 Calls Tryz.prog 58 #[.pointer (some ⟨pM,0,none⟩),.int .i64 who] w fun e w'=>e=.returned (.tuple #[])∧UU (L.any (fun x=>Jy x 3 who)) (CFit w w' pM pW pm pc pw n who ve c ent mat f k v) (CEnd w w' pM pW pm pc pw n who ve c ent mat f k v)∧R w'∧Fr (pM::pW::S) w w':=by
 unfold CFit CEnd
 have HEN:=hid fun w' h1 h2=>Z4 w' pM pW pm pc pw n who ve c ent mat f k v h1 h2 hk hne {ev0 with e:=3}
 unfold EvV.val EvV.cells ev0 K8 at HEN
 dsimp only at HEN
 have HNW:=hid fun w'=>Q0B w' c who
 have HGE:=hid fun w' q=>Ur w' pM q who
 unfold Q0.val at HNW
 unfold Q0d at HGE
 have h00:0∉pM::pW::S:=by simp [hS0];omega
 obtain ⟨len,hln⟩:∃n,L.length=n:=⟨_,rfl⟩
 rw [hln] at hlen
 have HLN:=hid hln;have HL:=hid hL;have HAN:=hid HA
 clear hln hL hS0 HA
 obtain ⟨vw,vt,vq,vd⟩:=v
 dsimp only at hv
 subst hv
 have HCS:=hid HC
 have B:Bag (pM::pW::S) w [tRo false pM _ _,tW pW n f who _] w:=(Zn hMB hW hne).mono (by simp)
 dsimp only [Qa.cells] at B
 clear hMB hW hne HC
 have m:=B.q 0
 go_in
 go_wp2_with fail
 clear m
 refine rgf B fun _ fc B=> ?_
 iterate 8 refine tb ?_
 refine tc 8 fun K hK=> ?_
 go_simp
 refine (HCS.out _ fc).mono ?_
 rintro e w1 ⟨rfl,hr,f1⟩
 replace B:=VH B f1 (by intro x hx;simp [hx]) (fun b hb=>⟨(hD b hb).1,(hD b hb).2.1⟩)
 go_wp2_with fail
 refine bk hK ?_
 clear hK K
 try go_frame
 refine tb ?_
 refine wpAnyH_done (by decide+kernel) ?_ _
 have q:=B.wq 1 hk
 go_wp2_with fail
 clear q
 refine (HAN.out _ hr).mono ?_
 rintro e w2 ⟨vv,rfl,hov,hnv,f2⟩
 obtain ⟨gw,cw,rfl,hin, -⟩:=hov.ints
 have HIN:=hid hin
 clear hov hin
 replace hr:=hST.go hr f2
 replace B:=B.tm f2
 rw [HLN.out]
 go_wp2_with fail
 go_loopw [31] (fun s31 wr=>∃i:Nat,i≤len∧s31=.int .i64 i∧(∀x∈L.take i,Jy x 3 who=false)∧Fr [] w2 wr) (fun s31 _=>len - (intOf s31).toNat)
 case atStart=>exact ⟨0,Nat.zero_le _,rfl,by simp,Fr.refl _ _⟩
 case round=>
  obtain ⟨i,hi,rfl,hno,g⟩:=hrel
  have HNO:=hid hno
  clear hno
  by_cases hlt:i<len
  · obtain ⟨x,hx⟩:∃x,L[i]?=some x:=⟨_,List.getElem?_eq_getElem (by rw [HLN.out];exact hlt)⟩
    obtain ⟨s,hs,rfl⟩:=HL.out x (List.mem_of_getElem? hx)
    obtain ⟨gb,off,rfl,he⟩:=(HIN.out.fr g (by simp)).2 i _ hx
    have hlt':(i:Int)<len:=by omega
    have hi0:(0:Int)≤(i:Int):=by omega
    have HDE:=hid fun w' h=>Je w' s hs h
    have HFI:=hid fun w'=>Q1w w' s 3 who (by omega) (by omega)
    have hfw:Jy s.enc 3 who=JZ s 3 who:=by unfold Jy;rw [QO hs]
    have HX:=hid (And.intro hfw (And.intro (V7 hx) (List.mem_of_getElem? hx)))
    clear hs hfw hx
    generalize JZ s 3 who=fb at HX HFI
    generalize s.enc=en at he HDE HX
    obtain ⟨zst,zso,zstr,zbr,zmkd,zus,zgen,zep,zver⟩:=s
    unfold Q8.val at HDE HFI
    dsimp only at HDE HFI
    go_wp2_with fail
    refine (HDE.out _ (hG.fr (B.tm g).fr h00)).mono ?_
    rintro e w4 ⟨rfl,f4⟩
    clear he
    have g:=fun o=>(g.trans f4).alloc o
    go_wp2_with fail
    generalize hw:World.alloc _ _=w5
    replace g:Fr [] w2 w5:=hw▸g _
    refine (HFI.out _).mono ?_
    rintro e w6 ⟨rfl,f5⟩
    replace g:=g.trans f5
    cases fb
    · go_wp2_with fail
      go_roundw
      case rel=>exact ⟨i+1,by omega,by go_num,by
       intro x hx
       rw [HX.out.2.1] at hx
       rcases List.mem_append.1 hx with h|h
       · exact HNO.out x h
       · rw [List.mem_singleton.1 h];exact HX.out.1,g⟩
      case measure=>simp [intOf];omega
    · have hany:L.any (fun x=>Jy x 3 who)=true:=List.any_eq_true.2 ⟨_,HX.out.2.2,HX.out.1⟩
      have HAY:=hid hany
      clear hany
      replace B:=B.tm g
      have hr:=hST.go hr g
      have m:=B.q 0
      go_wp2_with fail
      refine (HNW.out _).mono ?_
      rintro e w7 ⟨p2,rfl,hp2,ht,f6⟩
      have hps:=B.fr.size
      replace B:=B.nw (T':=tR p2 _ _) ht f6 (fun x hx=>by simp at hx;subst hx;exact ⟨hp2,Q6 ht⟩)
      replace hr:=hST.go hr f6
      go_wp2_with fail
      refine (HGE.out _ _).mono ?_
      rintro e w8 ⟨bt,bm,bw,rfl,h1,h2,h3,hbx,f7⟩
      have hp3:=B.fr.size;have hl1:=B.lt 1 pW (by simp [gt]);have hl2:=Q6 ht
      replace B:=B.tm f7
      replace hr:=hST.go hr f7
      clear m
      have q:=B.wq 1 hk;have q0:=B.wq0 1 hk;have u:=B.wu 1;have m:=B.q 0
      go_wp2_with fail
      clear q q0 u m
      generalize hw:World.setCell _ _ _=w9
      have fs:Fr [pW] w8 w9:=hw▸((Fr.refl [pW] w8).sc pW _ _).sc pW _ _
      replace B:=((B.ws 1 hk).ws0 1 hk).e hw
      replace hr:=hST.go hr fs
      try simp only [Exit.inBlock,Exit.then]
      refine bodyPost_ret (results_none rfl _ _ _) rfl ?_
      exact ⟨rfl,UU.t HAY.out ⟨p2,bt,bm,bw,(by omega),(by omega),B.g 2,hbx.ov fs (by simp;omega) (by simp;omega) (by simp;omega),B.g 0,B.g 1⟩,hr,B.fr⟩
  · obtain rfl:i=len:=by omega
    have hany:L.any (fun x=>Jy x 3 who)=false:=by
     rw [List.any_eq_false]
     intro x hx
     have:=HNO.out x (by rw [List.take_of_length_le (by rw [HLN.out];exact Nat.le_refl _)];exact hx)
     simp [this]
    have HAY:=hid hany
    clear hany
    replace B:=B.tm g
    have hr:=hST.go hr g
    go_wp2_with fail
    refine (HEN.out _ (B.g 0) (B.g 1)).mono ?_
    rintro e w4 ⟨rfl,p,hp,ht,hmp,f4⟩
    go_wp2_with fail
    first
     |go_end0
     |(try simp only [Exit.inBlock,Exit.then]
       refine bodyPost_ret (results_none rfl _ _ _) rfl ?_)
    exact ⟨rfl,UU.ff HAY.out ⟨p,Nat.le_trans B.fr.size hp,ht,hmp⟩,hST.go hr f4,B.fr.then f4 (fun x hx=>.inl (by simp at hx;simp [hx]))⟩
end
section
inductive Xe where
 |no
 |b1 (i g:Int)
 |b2 (i g:Int)
 |ga (i g:Int)
 |si (i g:Int)
 |de (i g:Int) (n:Nat) (o:Bool)
deriving DecidableEq
def upR (r:Nat→Xe) (w:Nat) (x:Xe):Nat→Xe:=fun k=>if k=w then x else r k
theorem Xw (r:Nat→Xe) (w:Nat) (x:Xe):upR r w x w=x:=if_pos rfl
theorem V6 {r:Nat→Xe} {w k:Nat} {x:Xe} (h:k≠w):upR r w x k=r k:=if_neg h
theorem Yj (r:Nat→Xe) (w:Nat):upR r w (r w)=r:=by
 funext k;unfold upR;split
 · rename_i h;rw [h]
 · rfl
def turns (r:Xe) (i g:Int) (n:Nat):Bool:=match r with
 |.de i' g' n' _=>decide (i'=i)&&decide (g'=g)&&decide (n'=n)
 |_=>false
structure JQ (L:Int→Option (Int×Int×Int)) (G:Int→Int) (shut:Prop) (hw hg:Int→Int) (hs:Int→Nat→Bool) (r:Nat→Xe):Prop where
 P:∀i w g s,L i=some (w,g,s)→(hw i=w+1∧hg i=g)∨∃k:Nat,w=k∧(r k=.b1 i g∨r k=.b2 i g∨r k=.ga i g)
 Q:∀i (k:Nat),hw i=k+1→r k≠.si i (hg i)→¬shut→∃s,L i=some ((k:Int),hg i,s)
 R:∀(k:Nat) i g,r k=.ga i g∨r k=.b1 i g→¬shut→∃s,L i=some ((k:Int),g,s)
 E:∀(k:Nat) i g,r k=.b1 i g∨r k=.b2 i g→¬(hw i=k+1∧hg i=g)
 U1:∀(k:Nat) i g,r k=.ga i g→∀k':Nat,hw i=k'+1→r k'=.si i (hg i)
 U2:∀(k k':Nat) i g g',r k=.ga i g→r k'=.ga i g'→k=k'
 X:∀(k:Nat) i g,r k=.si i g→∀s,L i≠some ((k:Int),g,s)
 Gh:∀i,hw i≠0→hg i≤G i
 Gg:∀(k:Nat) i g,r k=.ga i g∨r k=.si i g→g≤G i
 GL:∀i w g s,L i=some (w,g,s)→g=G i
 O:∀i w g s,L i=some (w,g,s)→0≤w
 Z:∀(k:Nat) i g s,r k=.b1 i g∨r k=.b2 i g∨r k=.ga i g→L i=some ((k:Int),g,s)→s=0
 T:∀i (k:Nat) s n,hw i=k+1→L i=some ((k:Int),hg i,s)→n<8→s.toNat.testBit n=(hs i n ^^ turns (r k) i (hg i) n)
 D:∀(k:Nat) i g n o,r k=.de i g n o→hw i=k+1∧hg i=g∧n<8∧hs i n= !o
variable {L:Int→Option (Int×Int×Int)} {G:Int→Int} {shut:Prop} {hw hg:Int→Int} {hs:Int→Nat→Bool} {r:Nat→Xe}
theorem JQ.shuts (h:JQ L G shut hw hg hs r) {shut':Prop} (hh:shut→shut'):JQ L G shut' hw hg hs r:=
 {h with Q:=fun i k a b c=>h.Q i k a b fun x=>c (hh x),R:=fun k i g a c=>h.R k i g a fun x=>c (hh x)}
def upL (L:Int→Option (Int×Int×Int)) (i:Int) (x:Option (Int×Int×Int)):Int→Option (Int×Int×Int):=fun j=>if j=i then x else L j
theorem U5 (L:Int→Option (Int×Int×Int)) (i:Int) (x:Option (Int×Int×Int)):upL L i x i=x:=if_pos rfl
theorem Kh {i j:Int} {x:Option (Int×Int×Int)} (h:j≠i):upL L i x j=L j:=if_neg h
theorem JQ.force (h:JQ L G shut hw hg hs r) (hc:shut) (i:Int):JQ (upL L i none) G shut hw hg hs r:=by
 have N:∀{j x},upL L i none j=some x→L j=some x:=by
  intro j x e;unfold upL at e;split at e
  · cases e
  · exact e
 exact {h with
  P:=fun j w g s e=>h.P j w g s (N e)
  Q:=fun _ _ _ _ c=>absurd hc c
  R:=fun _ _ _ _ c=>absurd hc c
  X:=fun k j g e s e'=>h.X k j g e s (N e')
  GL:=fun j w g s e=>h.GL j w g s (N e)
  O:=fun j w g s e=>h.O j w g s (N e)
  Z:=fun k j g s a e=>h.Z k j g s a (N e)
  T:=fun j k s n a e b=>h.T j k s n a (N e) b}
theorem JQ.gives (h:JQ L G shut hw hg hs r) {w:Nat} {i g s:Int} (hr:r w=.no) (hL:L i=some ((w:Int),g,s)):JQ (upL L i none) G shut hw hg hs (upR r w (.si i g)):=by
 have N:∀{j x},upL L i none j=some x→L j=some x∧j≠i:=by
  intro j x e;unfold upL at e;split at e
  · cases e
  · rename_i hj;exact ⟨e,hj⟩
 have RR:∀k,upR r w (.si i g) k=.si i g∧k=w∨upR r w (.si i g) k=r k∧k≠w:=by
  intro k;by_cases hk:k=w
  · left;rw [hk];exact ⟨Xw ..,rfl⟩
  · right;exact ⟨V6 hk,hk⟩
 constructor
 · intro j x g' s' e
   rcases h.P j x g' s' (N e).1 with a|⟨k,e1,a⟩
   · exact .inl a
   · right;refine ⟨k,e1, ?_⟩
     rcases RR k with ⟨-,e2⟩|⟨e2, -⟩
     · subst e2;rw [hr] at a;simp at a
     · rw [e2];exact a
 · intro j k e1 e2 hc
   have hk:r k≠.si j (hg j):=by
    rcases RR k with ⟨-,e3⟩|⟨e3, -⟩
    · subst e3;rw [hr];simp
    · rw [←e3];exact e2
   obtain ⟨s',e4⟩:=h.Q j k e1 hk hc
   by_cases hj:j=i
   · subst hj
     rw [hL] at e4
     simp only [Option.some.injEq,Prod.mk.injEq] at e4
     obtain ⟨e5,e6, -⟩:=e4
     have:w=k:=by omega
     subst this
     exact absurd (by rw [Xw,e6]) e2
   · exact ⟨s',by rw [Kh hj];exact e4⟩
 · intro k j g' a hc
   rcases RR k with ⟨e3, -⟩|⟨e3,hk⟩
   · rw [e3] at a;simp at a
   · rw [e3] at a
     obtain ⟨s',e4⟩:=h.R k j g' a hc
     by_cases hj:j=i
     · subst hj
       rw [hL] at e4
       simp only [Option.some.injEq,Prod.mk.injEq] at e4
       omega
     · exact ⟨s',by rw [Kh hj];exact e4⟩
 · intro k j g' a
   rcases RR k with ⟨e3, -⟩|⟨e3,hk⟩
   · rw [e3] at a;simp at a
   · rw [e3] at a;exact h.E k j g' a
 · intro k j g' a k' b
   rcases RR k with ⟨e3, -⟩|⟨e3,hk⟩
   · rw [e3] at a;simp at a
   · rw [e3] at a
     have:=h.U1 k j g' a k' b
     rcases RR k' with ⟨-,e4⟩|⟨e4, -⟩
     · subst e4;rw [hr] at this;cases this
     · rw [e4];exact this
 · intro k k' j g1 g2 a b
   rcases RR k with ⟨e3, -⟩|⟨e3, -⟩
   · rw [e3] at a;cases a
   · rcases RR k' with ⟨e4, -⟩|⟨e4, -⟩
     · rw [e4] at b;cases b
     · rw [e3] at a;rw [e4] at b;exact h.U2 k k' j g1 g2 a b
 · intro k j g' a s' e
   rcases RR k with ⟨e3, -⟩|⟨e3, -⟩
   · rw [e3] at a
     simp only [Xe.si.injEq] at a
     exact (N e).2 a.1.symm
   · rw [e3] at a;exact h.X k j g' a s' (N e).1
 · exact h.Gh
 · intro k j g' a
   rcases RR k with ⟨e3, -⟩|⟨e3, -⟩
   · rw [e3] at a
     simp only [Xe.si.injEq,reduceCtorEq,false_or] at a
     obtain ⟨rfl,rfl⟩:=a
     exact Int.le_of_eq (h.GL _ _ _ _ hL)
   · rw [e3] at a;exact h.Gg k j g' a
 · intro j x g' s' e;exact h.GL j x g' s' (N e).1
 · intro j x g' s' e;exact h.O j x g' s' (N e).1
 · intro k j g' s' a e
   rcases RR k with ⟨e3, -⟩|⟨e3, -⟩
   · rw [e3] at a;simp at a
   · rw [e3] at a;exact h.Z k j g' s' a (N e).1
 · intro j k s' n a e b
   have:=h.T j k s' n a (N e).1 b
   rcases RR k with ⟨e3,e4⟩|⟨e3, -⟩
   · rw [e3,this];subst e4;rw [hr];rfl
   · rw [e3];exact this
 · intro k j g' n o a
   rcases RR k with ⟨e3, -⟩|⟨e3, -⟩
   · rw [e3] at a;cases a
   · rw [e3] at a;exact h.D k j g' n o a
theorem JQ.role (h:JQ L G shut hw hg hs r) {w:Nat} {x:Xe} (hr:∀i g,r w≠.si i g) (hr2:∀i g n o,r w≠.de i g n o) (hx:∀i g n o,x≠.de i g n o)
 (hP:∀i g s,L i=some ((w:Int),g,s)→(r w=.b1 i g∨r w=.b2 i g∨r w=.ga i g)→x=.b1 i g∨x=.b2 i g∨x=.ga i g)
 (hR:∀i g,x=.ga i g∨x=.b1 i g→¬shut→∃s,L i=some ((w:Int),g,s))
 (hE:∀i g,x=.b1 i g∨x=.b2 i g→¬(hw i=w+1∧hg i=g))
 (hU:∀i g,x=.ga i g→¬shut∧¬(hw i=w+1∧hg i=g)∧(r w=.b1 i g)) (hS:∀i g,x≠.si i g)
 (hZ:∀i g s,x=.b1 i g∨x=.b2 i g∨x=.ga i g→L i=some ((w:Int),g,s)→s=0):JQ L G shut hw hg hs (upR r w x):=by
 have RR:∀k,upR r w x k=x∧k=w∨upR r w x k=r k∧k≠w:=by
  intro k;by_cases hk:k=w
  · left;rw [hk];exact ⟨Xw ..,rfl⟩
  · right;exact ⟨V6 hk,hk⟩
 constructor
 · intro j y g' s' e
   rcases h.P j y g' s' e with a|⟨k,e1,a⟩
   · exact .inl a
   · right;refine ⟨k,e1, ?_⟩
     rcases RR k with ⟨e3,e2⟩|⟨e2, -⟩
     · subst e2;subst e1;rw [e3];exact hP j g' s' e a
     · rw [e2];exact a
 · intro j k e1 e2 hc
   refine h.Q j k e1 ?_ hc
   rcases RR k with ⟨-,e3⟩|⟨e3, -⟩
   · subst e3;exact hr _ _
   · rw [←e3];exact e2
 · intro k j g' a hc
   rcases RR k with ⟨e3,e4⟩|⟨e3,hk⟩
   · rw [e3] at a;subst e4;exact hR j g' a hc
   · rw [e3] at a;exact h.R k j g' a hc
 · intro k j g' a
   rcases RR k with ⟨e3,e4⟩|⟨e3,hk⟩
   · rw [e3] at a;subst e4;exact hE j g' a
   · rw [e3] at a;exact h.E k j g' a
 · intro k j g' a k' b
   rcases RR k with ⟨e3,e4⟩|⟨e3,hk⟩
   · rw [e3] at a;subst e4
     obtain ⟨hc,hn,hb⟩:=hU j g' a
     obtain ⟨s1,l1⟩:=h.R k j g' (.inr hb) hc
     by_cases hs':r k'=.si j (hg j)
     · have:k'≠k:=by intro e;rw [e] at hs';exact hr _ _ hs'
       rw [V6 this];exact hs'
     · obtain ⟨s2,l2⟩:=h.Q j k' b hs' hc
       rw [l1] at l2
       simp only [Option.some.injEq,Prod.mk.injEq] at l2
       exact absurd ⟨by rw [b];omega,l2.2.1.symm⟩ hn
   · rw [e3] at a
     have:=h.U1 k j g' a k' b
     have hk':k'≠w:=by intro e;rw [e] at this;exact hr _ _ this
     rw [V6 hk'];exact this
 · intro k k' j g1 g2 a b
   have C:∀k',k'≠w→∀g1 g2,x=.ga j g1→r k'=.ga j g2→False:=by
    intro k' hk g1 g2 a b
    obtain ⟨hc,hn,hb⟩:=hU j g1 a
    obtain ⟨s1,l1⟩:=h.R w j g1 (.inr hb) hc
    obtain ⟨s2,l2⟩:=h.R k' j g2 (.inl b) hc
    rw [l1] at l2
    simp only [Option.some.injEq,Prod.mk.injEq] at l2
    omega
   rcases RR k with ⟨e3,e5⟩|⟨e3,e5⟩<;>rcases RR k' with ⟨e4,e6⟩|⟨e4,e6⟩<;>rw [e3] at a<;>rw [e4] at b
   · rw [e5,e6]
   · exact (C k' e6 g1 g2 a b).elim
   · exact (C k e5 g2 g1 b a).elim
   · exact h.U2 k k' j g1 g2 a b
 · intro k j g' a s' e
   rcases RR k with ⟨e3, -⟩|⟨e3, -⟩
   · rw [e3] at a;exact absurd a (hS _ _)
   · rw [e3] at a;exact h.X k j g' a s' e
 · exact h.Gh
 · intro k j g' a
   rcases RR k with ⟨e3,e4⟩|⟨e3, -⟩
   · rw [e3] at a
     rcases a with a|a
     · subst e4
       obtain ⟨hc,hn,hb⟩:=hU j g' a
       obtain ⟨s1,l1⟩:=h.R k j g' (.inr hb) hc
       exact Int.le_of_eq (h.GL _ _ _ _ l1)
     · exact absurd a (hS _ _)
   · rw [e3] at a;exact h.Gg k j g' a
 · exact h.GL
 · exact h.O
 · intro k j g' s' a e
   rcases RR k with ⟨e3,e4⟩|⟨e3, -⟩
   · rw [e3] at a;subst e4;exact hZ j g' s' a e
   · rw [e3] at a;exact h.Z k j g' s' a e
 · intro j k s' n a e b
   have:=h.T j k s' n a e b
   rcases RR k with ⟨e3,e4⟩|⟨e3, -⟩
   · rw [e3,this];subst e4
     have t1:turns (r k) j (hg j) n=false:=by
      unfold turns;split
      · rename_i e;exact absurd e (hr2 _ _ _ _)
      · rfl
     have t2:turns x j (hg j) n=false:=by
      unfold turns;split
      · exact absurd rfl (hx _ _ _ _)
      · rfl
     rw [t1,t2]
   · rw [e3];exact this
 · intro k j g' n o a
   rcases RR k with ⟨e3, -⟩|⟨e3, -⟩
   · rw [e3] at a;exact absurd a (hx _ _ _ _)
   · rw [e3] at a;exact h.D k j g' n o a
theorem JQ.fine (h:JQ L G shut hw hg hs r) {w:Nat} {i g:Int} (hr:r w=.b1 i g) (hc:¬shut):JQ L G shut hw hg hs (upR r w (.ga i g)):=by
 refine h.role (by rw [hr];simp) (by rw [hr];simp) (by simp) ?_ ?_ (by simp) ?_ (by simp) ?_
 · intro j g' s e a;rw [hr] at a;simp only [Xe.b1.injEq,reduceCtorEq,or_false] at a;right;right;rw [a.1,a.2]
 · intro j g' a hc;simp only [Xe.ga.injEq,reduceCtorEq,or_false] at a;rw [←a.1,←a.2];exact h.R w i g (.inr hr) hc
 · intro j g' a;simp only [Xe.ga.injEq] at a;rw [←a.1,←a.2];exact ⟨hc,h.E w i g (.inl hr),hr⟩
 · intro j g' s a e;simp only [Xe.ga.injEq,reduceCtorEq,false_or] at a;rw [←a.1,←a.2] at e;exact h.Z w i g s (.inl hr) e
theorem JQ.late (h:JQ L G shut hw hg hs r) {w:Nat} {i g:Int} (hr:r w=.b1 i g):JQ L G shut hw hg hs (upR r w (.b2 i g)):=by
 refine h.role (by rw [hr];simp) (by rw [hr];simp) (by simp) ?_ (by simp) ?_ (by simp) (by simp) ?_
 · intro j g' s e a;rw [hr] at a;simp only [Xe.b1.injEq,reduceCtorEq,or_false] at a;right;left;rw [a.1,a.2]
 · intro j g' a;simp only [Xe.b2.injEq,reduceCtorEq,false_or] at a;rw [←a.1,←a.2];exact h.E w i g (.inl hr)
 · intro j g' s a e;simp only [Xe.b2.injEq,reduceCtorEq,false_or,or_false] at a;rw [←a.1,←a.2] at e;exact h.Z w i g s (.inl hr) e
theorem JQ.gone (h:JQ L G shut hw hg hs r) {w:Nat} {i g:Int} (hr:r w=.b2 i g) (hL:∀s,L i≠some ((w:Int),g,s)):JQ L G shut hw hg hs (upR r w .no):=by
 refine h.role (by rw [hr];simp) (by rw [hr];simp) (by simp) ?_ (by simp) (by simp) (by simp) (by simp) (by simp)
 intro j g' s e a;rw [hr] at a;simp only [Xe.b2.injEq,reduceCtorEq,false_or,or_false] at a;rw [←a.1,←a.2] at e;exact absurd e (hL s)
theorem JQ.back (h:JQ L G shut hw hg hs r) {w:Nat} {i g s:Int} (hr:r w=.b2 i g) (hL:L i=some ((w:Int),g,s)):JQ (upL L i none) G shut hw hg hs (upR r w .no):=by
 have N:∀{j x},upL L i none j=some x→L j=some x∧j≠i:=by
  intro j x e;unfold upL at e;split at e
  · cases e
  · rename_i hj;exact ⟨e,hj⟩
 have h1:JQ (upL L i none) G shut hw hg hs r:={h with
  P:=fun j w g s e=>h.P j w g s (N e).1
  Q:=by
   intro j k e1 e2 hc
   obtain ⟨s',e4⟩:=h.Q j k e1 e2 hc
   by_cases hj:j=i
   · subst hj
     rw [hL] at e4
     simp only [Option.some.injEq,Prod.mk.injEq] at e4
     have:w=k:=by omega
     subst this
     exact absurd ⟨e1,e4.2.1.symm⟩ (h.E w j g (.inr hr))
   · exact ⟨s',by rw [Kh hj];exact e4⟩
  R:=by
   intro k j g' a hc
   obtain ⟨s',e4⟩:=h.R k j g' a hc
   by_cases hj:j=i
   · subst hj
     rw [hL] at e4
     simp only [Option.some.injEq,Prod.mk.injEq] at e4
     have:w=k:=by omega
     subst this
     rw [hr] at a;simp at a
   · exact ⟨s',by rw [Kh hj];exact e4⟩
  X:=fun k j g e s e'=>h.X k j g e s (N e').1
  GL:=fun j w g s e=>h.GL j w g s (N e).1
  O:=fun j w g s e=>h.O j w g s (N e).1
  Z:=fun k j g s a e=>h.Z k j g s a (N e).1
  T:=fun j k s n a e b=>h.T j k s n a (N e).1 b}
 exact h1.gone hr fun s e=>by rw [U5] at e;cases e
def upG (G:Int→Int) (i x:Int):Int→Int:=fun j=>if j=i then x else G j
theorem JQ.Ho (h:JQ L G shut hw hg hs r) {w:Nat} {i:Int} (hr:r w=.no) (hL:L i=none):JQ (upL L i (some ((w:Int),G i+1,0))) (upG G i (G i+1)) shut hw hg hs (upR r w (.b1 i (G i+1))):=by
 have N:∀{j x},upL L i (some ((w:Int),G i+1,0)) j=some x→j=i∧x=((w:Int),G i+1,0)∨L j=some x∧j≠i:=by
  intro j x e;unfold upL at e;split at e
  · rename_i hj;exact .inl ⟨hj,(Option.some.inj e).symm⟩
  · rename_i hj;exact .inr ⟨e,hj⟩
 have RR:∀k,upR r w (.b1 i (G i+1)) k=.b1 i (G i+1)∧k=w∨upR r w (.b1 i (G i+1)) k=r k∧k≠w:=by
  intro k;by_cases hk:k=w
  · left;rw [hk];exact ⟨Xw ..,rfl⟩
  · right;exact ⟨V6 hk,hk⟩
 have GG:∀j,G j≤upG G i (G i+1) j:=by
  intro j;unfold upG;split
  · rename_i e;rw [e];omega
  · omega
 constructor
 · intro j y g' s' e
   rcases N e with ⟨e1,e2⟩|⟨e1,hj⟩
   · cases e2;subst e1;right;exact ⟨w,rfl,.inl (Xw ..)⟩
   · rcases h.P j y g' s' e1 with a|⟨k,e1,a⟩
     · exact .inl a
     · right;refine ⟨k,e1, ?_⟩
       rcases RR k with ⟨-,e2⟩|⟨e2, -⟩
       · subst e2;rw [hr] at a;simp at a
       · rw [e2];exact a
 · intro j k e1 e2 hc
   have hk:r k≠.si j (hg j):=by
    rcases RR k with ⟨-,e3⟩|⟨e3, -⟩
    · subst e3;rw [hr];simp
    · rw [←e3];exact e2
   obtain ⟨s',e4⟩:=h.Q j k e1 hk hc
   have hj:j≠i:=by intro e;rw [e,hL] at e4;cases e4
   exact ⟨s',by rw [Kh hj];exact e4⟩
 · intro k j g' a hc
   rcases RR k with ⟨e3,e4⟩|⟨e3,hk⟩
   · rw [e3] at a;simp only [Xe.b1.injEq,reduceCtorEq,false_or] at a
     rw [←a.1,←a.2,e4];exact ⟨0,U5 ..⟩
   · rw [e3] at a
     obtain ⟨s',e4⟩:=h.R k j g' a hc
     have hj:j≠i:=by intro e;rw [e,hL] at e4;cases e4
     exact ⟨s',by rw [Kh hj];exact e4⟩
 · intro k j g' a
   rcases RR k with ⟨e3,e4⟩|⟨e3,hk⟩
   · rw [e3] at a;simp only [Xe.b1.injEq,reduceCtorEq,or_false] at a
     rw [←a.1,←a.2]
     rintro ⟨b1,b2⟩
     have:=h.Gh i (by omega)
     omega
   · rw [e3] at a;exact h.E k j g' a
 · intro k j g' a k' b
   rcases RR k with ⟨e3, -⟩|⟨e3,hk⟩
   · rw [e3] at a;simp at a
   · rw [e3] at a
     have:=h.U1 k j g' a k' b
     rcases RR k' with ⟨-,e4⟩|⟨e4, -⟩
     · subst e4;rw [hr] at this;cases this
     · rw [e4];exact this
 · intro k k' j g1 g2 a b
   rcases RR k with ⟨e3, -⟩|⟨e3, -⟩
   · rw [e3] at a;cases a
   · rcases RR k' with ⟨e4, -⟩|⟨e4, -⟩
     · rw [e4] at b;cases b
     · rw [e3] at a;rw [e4] at b;exact h.U2 k k' j g1 g2 a b
 · intro k j g' a s' e
   rcases RR k with ⟨e3, -⟩|⟨e3, -⟩
   · rw [e3] at a;cases a
   · rw [e3] at a
     rcases N e with ⟨e1,e2⟩|⟨e1, -⟩
     · have:=h.Gg k j g' (.inr a)
       simp only [Prod.mk.injEq] at e2
       rw [e1] at this;omega
     · exact h.X k j g' a s' e1
 · intro j a;exact Int.le_trans (h.Gh j a) (GG j)
 · intro k j g' a
   rcases RR k with ⟨e3, -⟩|⟨e3, -⟩
   · rw [e3] at a;simp at a
   · rw [e3] at a;exact Int.le_trans (h.Gg k j g' a) (GG j)
 · intro j y g' s' e
   rcases N e with ⟨e1,e2⟩|⟨e1,hj⟩
   · cases e2;subst e1;unfold upG;rw [if_pos rfl]
   · unfold upG;rw [if_neg hj];exact h.GL j y g' s' e1
 · intro j y g' s' e
   rcases N e with ⟨e1,e2⟩|⟨e1,hj⟩
   · cases e2;omega
   · exact h.O j y g' s' e1
 · intro k j g' s' a e
   rcases N e with ⟨e1,e2⟩|⟨e1,hj⟩
   · cases e2;rfl
   · rcases RR k with ⟨e3, -⟩|⟨e3, -⟩
     · rw [e3] at a;simp only [Xe.b1.injEq,reduceCtorEq,or_false] at a;exact absurd a.1.symm hj
     · rw [e3] at a;exact h.Z k j g' s' a e1
 · intro j k s' n a e b
   rcases N e with ⟨e1,e2⟩|⟨e1,hj⟩
   · simp only [Prod.mk.injEq] at e2
     have:=h.Gh j (by omega)
     rw [e1] at this e2;omega
   · have:=h.T j k s' n a e1 b
     rcases RR k with ⟨e3,e4⟩|⟨e3, -⟩
     · rw [e3,this];subst e4;rw [hr];rfl
     · rw [e3];exact this
 · intro k j g' n o a
   rcases RR k with ⟨e3, -⟩|⟨e3, -⟩
   · rw [e3] at a;cases a
   · rw [e3] at a;exact h.D k j g' n o a
theorem JQ.Q8p (h:JQ L G shut hw hg hs r) {w:Nat} {i g:Int} (hr:r w=.ga i g):
 JQ L G shut (fun j=>if j=i then (w:Int)+1 else hw j) (fun j=>if j=i then g else hg j) (fun j n=>if j=i then false else hs j n) (upR r w .no):=by
 have RR:∀k,upR r w .no k=.no∧k=w∨upR r w .no k=r k∧k≠w:=by
  intro k;by_cases hk:k=w
  · left;rw [hk];exact ⟨Xw ..,rfl⟩
  · right;exact ⟨V6 hk,hk⟩
 constructor
 · intro j y g' s' e
   by_cases hj:j=i
   · subst hj
     simp only [if_true]
     rcases h.P j y g' s' e with a|⟨k,e1,a⟩
     · by_cases hc:shut
       · obtain ⟨k',rfl⟩:=Int.eq_ofNat_of_zero_le (h.O j y g' s' e)
         have:=h.U1 w j g hr k' a.1
         rw [a.2] at this
         exact absurd e (h.X k' j g' this s')
       · obtain ⟨s1,l1⟩:=h.R w j g (.inl hr) hc
         rw [e] at l1
         simp only [Option.some.injEq,Prod.mk.injEq] at l1
         left;omega
     · rcases RR k with ⟨e3,e4⟩|⟨e3,e4⟩
       · subst e4;rw [hr] at a;simp only [Xe.ga.injEq,reduceCtorEq,false_or] at a
         left;exact ⟨by omega,a.2⟩
       · right;exact ⟨k,e1,by rw [e3];exact a⟩
   · simp only [if_neg hj]
     rcases h.P j y g' s' e with a|⟨k,e1,a⟩
     · exact .inl a
     · right;refine ⟨k,e1, ?_⟩
       rcases RR k with ⟨e3,e4⟩|⟨e3,e4⟩
       · subst e4;rw [hr] at a;simp only [Xe.ga.injEq,reduceCtorEq,false_or] at a;exact absurd a.1.symm hj
       · rw [e3];exact a
 · intro j k e1 e2 hc
   by_cases hj:j=i
   · subst hj
     simp only [if_true] at e1 e2 ⊢
     have:k=w:=by omega
     subst this
     exact h.R k j g (.inl hr) hc
   · simp only [if_neg hj] at e1 e2 ⊢
     refine h.Q j k e1 ?_ hc
     rcases RR k with ⟨-,e3⟩|⟨e3, -⟩
     · subst e3;rw [hr];simp
     · rw [←e3];exact e2
 · intro k j g' a hc
   rcases RR k with ⟨e3,e4⟩|⟨e3,hk⟩
   · rw [e3] at a;simp at a
   · rw [e3] at a;exact h.R k j g' a hc
 · intro k j g' a
   rcases RR k with ⟨e3,e4⟩|⟨e3,hk⟩
   · rw [e3] at a;simp at a
   · rw [e3] at a
     by_cases hj:j=i
     · simp only [if_pos hj];omega
     · simp only [if_neg hj];exact h.E k j g' a
 · intro k j g' a k' b
   rcases RR k with ⟨e3,e4⟩|⟨e3,hk⟩
   · rw [e3] at a;simp at a
   · rw [e3] at a
     by_cases hj:j=i
     · subst hj;exact absurd (h.U2 k w j g' g a hr) hk
     · simp only [if_neg hj] at b ⊢
       have:=h.U1 k j g' a k' b
       rcases RR k' with ⟨-,e4⟩|⟨e4, -⟩
       · subst e4;rw [hr] at this;cases this
       · rw [e4];exact this
 · intro k k' j g1 g2 a b
   rcases RR k with ⟨e3, -⟩|⟨e3, -⟩
   · rw [e3] at a;cases a
   · rcases RR k' with ⟨e4, -⟩|⟨e4, -⟩
     · rw [e4] at b;cases b
     · rw [e3] at a;rw [e4] at b;exact h.U2 k k' j g1 g2 a b
 · intro k j g' a s' e
   rcases RR k with ⟨e3, -⟩|⟨e3, -⟩
   · rw [e3] at a;cases a
   · rw [e3] at a;exact h.X k j g' a s' e
 · intro j a
   by_cases hj:j=i
   · simp only [if_pos hj];rw [hj];exact h.Gg w i g (.inl hr)
   · simp only [if_neg hj] at a ⊢;exact h.Gh j a
 · intro k j g' a
   rcases RR k with ⟨e3, -⟩|⟨e3, -⟩
   · rw [e3] at a;simp at a
   · rw [e3] at a;exact h.Gg k j g' a
 · exact h.GL
 · exact h.O
 · intro k j g' s' a e
   rcases RR k with ⟨e3, -⟩|⟨e3, -⟩
   · rw [e3] at a;simp at a
   · rw [e3] at a;exact h.Z k j g' s' a e
 · intro j k s' n a e b
   by_cases hj:j=i
   · subst hj
     simp only [if_true] at a e ⊢
     have:k=w:=by omega
     subst this
     have:=h.Z k j g s' (.inr (.inr hr)) e
     subst this
     rw [Xw]
     simp [turns]
   · simp only [if_neg hj] at a e ⊢
     have:=h.T j k s' n a e b
     rcases RR k with ⟨e3,e4⟩|⟨e3, -⟩
     · rw [e3,this];subst e4;rw [hr];rfl
     · rw [e3];exact this
 · intro k j g' n o a
   rcases RR k with ⟨e3, -⟩|⟨e3, -⟩
   · rw [e3] at a;cases a
   · rw [e3] at a
     have d:=h.D k j g' n o a
     by_cases hj:j=i
     · subst hj
       have:=h.U1 w j g hr k d.1
       rw [a] at this;cases this
     · simp only [if_neg hj];exact d
theorem JQ.Q6i (h:JQ L G shut hw hg hs r) {w:Nat} {i g:Int} (hr:r w=.si i g):
 JQ L G shut (fun j=>if j=i∧hw j=(w:Int)+1∧hg j=g then 0 else hw j) hg hs (upR r w .no):=by
 have RR:∀k,upR r w .no k=.no∧k=w∨upR r w .no k=r k∧k≠w:=by
  intro k;by_cases hk:k=w
  · left;rw [hk];exact ⟨Xw ..,rfl⟩
  · right;exact ⟨V6 hk,hk⟩
 have HH:∀j (k:Nat),(if j=i∧hw j=(w:Int)+1∧hg j=g then 0 else hw j)=(k:Int)+1→hw j=k+1∧¬(j=i∧k=w∧hg j=g):=by
  intro j k e
  split at e
  · omega
  · rename_i hn
    exact ⟨e,fun ⟨a,b,c⟩=>hn ⟨a,by rw [e,b],c⟩⟩
 constructor
 · intro j y g' s' e
   rcases h.P j y g' s' e with a|⟨k,e1,a⟩
   · left
     rw [if_neg]
     · exact a
     · rintro ⟨b1,b2,b3⟩
       have:y=w:=by omega
       subst b1;subst this
       rw [a.2] at b3;subst b3
       exact h.X w j g' hr s' e
   · right;refine ⟨k,e1, ?_⟩
     rcases RR k with ⟨e3,e4⟩|⟨e3,e4⟩
     · subst e4;rw [hr] at a;simp at a
     · rw [e3];exact a
 · intro j k e1 e2 hc
   obtain ⟨a,b⟩:=HH j k e1
   refine h.Q j k a ?_ hc
   rcases RR k with ⟨-,e3⟩|⟨e3, -⟩
   · subst e3;rw [hr]
     intro e
     simp only [Xe.si.injEq] at e
     exact b ⟨e.1.symm,rfl,e.2.symm⟩
   · rw [←e3];exact e2
 · intro k j g' a hc
   rcases RR k with ⟨e3,e4⟩|⟨e3,hk⟩
   · rw [e3] at a;simp at a
   · rw [e3] at a;exact h.R k j g' a hc
 · intro k j g' a
   rcases RR k with ⟨e3,e4⟩|⟨e3,hk⟩
   · rw [e3] at a;simp at a
   · rw [e3] at a
     rintro ⟨b1,b2⟩
     exact h.E k j g' a ⟨(HH j k b1).1,b2⟩
 · intro k j g' a k' b
   rcases RR k with ⟨e3,e4⟩|⟨e3,hk⟩
   · rw [e3] at a;simp at a
   · rw [e3] at a
     obtain ⟨b1,b2⟩:=HH j k' b
     have:=h.U1 k j g' a k' b1
     rcases RR k' with ⟨-,e4⟩|⟨e4, -⟩
     · subst e4;rw [hr] at this
       simp only [Xe.si.injEq] at this
       exact absurd ⟨this.1.symm,rfl,this.2.symm⟩ b2
     · rw [e4];exact this
 · intro k k' j g1 g2 a b
   rcases RR k with ⟨e3, -⟩|⟨e3, -⟩
   · rw [e3] at a;cases a
   · rcases RR k' with ⟨e4, -⟩|⟨e4, -⟩
     · rw [e4] at b;cases b
     · rw [e3] at a;rw [e4] at b;exact h.U2 k k' j g1 g2 a b
 · intro k j g' a s' e
   rcases RR k with ⟨e3, -⟩|⟨e3, -⟩
   · rw [e3] at a;cases a
   · rw [e3] at a;exact h.X k j g' a s' e
 · intro j a
   split at a
   · exact absurd rfl a
   · exact h.Gh j a
 · intro k j g' a
   rcases RR k with ⟨e3, -⟩|⟨e3, -⟩
   · rw [e3] at a;simp at a
   · rw [e3] at a;exact h.Gg k j g' a
 · exact h.GL
 · exact h.O
 · intro k j g' s' a e
   rcases RR k with ⟨e3, -⟩|⟨e3, -⟩
   · rw [e3] at a;simp at a
   · rw [e3] at a;exact h.Z k j g' s' a e
 · intro j k s' n a e b
   have:=h.T j k s' n (HH j k a).1 e b
   rcases RR k with ⟨e3,e4⟩|⟨e3, -⟩
   · rw [e3,this];subst e4;rw [hr];rfl
   · rw [e3];exact this
 · intro k j g' n o a
   rcases RR k with ⟨e3, -⟩|⟨e3,e4⟩
   · rw [e3] at a;cases a
   · rw [e3] at a
     have d:=h.D k j g' n o a
     refine ⟨?_,d.2⟩
     rw [if_neg]
     · exact d.1
     · rintro ⟨b1,b2,b3⟩
       have:=d.1;omega
theorem JQ.strm (h:JQ L G shut hw hg hs r) {w:Nat} {i g s s':Int} {n:Nat} {o:Bool} (hr:r w=.no) (hL:L i=some ((w:Int),g,s)) (hn:n<8) (hb:s.toNat.testBit n= !o)
 (hb2:∀m,m<8→s'.toNat.testBit m=(s.toNat.testBit m ^^ decide (n=m))):JQ (upL L i (some ((w:Int),g,s'))) G shut hw hg hs (upR r w (.de i g n o)):=by
 have hold:hw i=w+1∧hg i=g:=by
  rcases h.P i w g s hL with a|⟨k,e1,a⟩
  · exact a
  · have:k=w:=by omega
    subst this;rw [hr] at a;simp at a
 have N:∀{j x},upL L i (some ((w:Int),g,s')) j=some x→j=i∧x=((w:Int),g,s')∨L j=some x∧j≠i:=by
  intro j x e;unfold upL at e;split at e
  · rename_i hj;exact .inl ⟨hj,(Option.some.inj e).symm⟩
  · rename_i hj;exact .inr ⟨e,hj⟩
 have RR:∀k,upR r w (.de i g n o) k=.de i g n o∧k=w∨upR r w (.de i g n o) k=r k∧k≠w:=by
  intro k;by_cases hk:k=w
  · left;rw [hk];exact ⟨Xw ..,rfl⟩
  · right;exact ⟨V6 hk,hk⟩
 have N2:∀{j y g1 s1},upL L i (some ((w:Int),g,s')) j=some (y,g1,s1)→∃s2,L j=some (y,g1,s2):=by
  intro j y g1 s1 e
  rcases N e with ⟨e1,e2⟩|⟨e1, -⟩
  · cases e2;exact ⟨s,by rw [e1];exact hL⟩
  · exact ⟨s1,e1⟩
 have N3:∀{j y g1 s1},L j=some (y,g1,s1)→∃s2,upL L i (some ((w:Int),g,s')) j=some (y,g1,s2):=by
  intro j y g1 s1 e
  by_cases hj:j=i
  · subst hj;rw [hL] at e;simp only [Option.some.injEq,Prod.mk.injEq] at e
    exact ⟨s',by rw [U5,e.1,e.2.1]⟩
  · exact ⟨s1,by rw [Kh hj];exact e⟩
 constructor
 · intro j y g' s1 e
   obtain ⟨s2,e2⟩:=N2 e
   rcases h.P j y g' s2 e2 with a|⟨k,e1,a⟩
   · exact .inl a
   · right;refine ⟨k,e1, ?_⟩
     rcases RR k with ⟨-,e2⟩|⟨e2, -⟩
     · subst e2;rw [hr] at a;simp at a
     · rw [e2];exact a
 · intro j k e1 e2 hc
   have hk:r k≠.si j (hg j):=by
    rcases RR k with ⟨-,e3⟩|⟨e3, -⟩
    · subst e3;rw [hr];simp
    · rw [←e3];exact e2
   obtain ⟨s1,e4⟩:=h.Q j k e1 hk hc
   exact N3 e4
 · intro k j g' a hc
   rcases RR k with ⟨e3,e4⟩|⟨e3,hk⟩
   · rw [e3] at a;simp at a
   · rw [e3] at a
     obtain ⟨s1,e4⟩:=h.R k j g' a hc
     exact N3 e4
 · intro k j g' a
   rcases RR k with ⟨e3,e4⟩|⟨e3,hk⟩
   · rw [e3] at a;simp at a
   · rw [e3] at a;exact h.E k j g' a
 · intro k j g' a k' b
   rcases RR k with ⟨e3, -⟩|⟨e3,hk⟩
   · rw [e3] at a;simp at a
   · rw [e3] at a
     have:=h.U1 k j g' a k' b
     rcases RR k' with ⟨-,e4⟩|⟨e4, -⟩
     · subst e4;rw [hr] at this;cases this
     · rw [e4];exact this
 · intro k k' j g1 g2 a b
   rcases RR k with ⟨e3, -⟩|⟨e3, -⟩
   · rw [e3] at a;cases a
   · rcases RR k' with ⟨e4, -⟩|⟨e4, -⟩
     · rw [e4] at b;cases b
     · rw [e3] at a;rw [e4] at b;exact h.U2 k k' j g1 g2 a b
 · intro k j g' a s1 e
   obtain ⟨s2,e2⟩:=N2 e
   rcases RR k with ⟨e3, -⟩|⟨e3, -⟩
   · rw [e3] at a;cases a
   · rw [e3] at a;exact h.X k j g' a s2 e2
 · exact h.Gh
 · intro k j g' a
   rcases RR k with ⟨e3, -⟩|⟨e3, -⟩
   · rw [e3] at a;simp at a
   · rw [e3] at a;exact h.Gg k j g' a
 · intro j y g' s1 e
   obtain ⟨s2,e2⟩:=N2 e
   exact h.GL j y g' s2 e2
 · intro j y g' s1 e
   obtain ⟨s2,e2⟩:=N2 e
   exact h.O j y g' s2 e2
 · intro k j g' s1 a e
   rcases RR k with ⟨e3, -⟩|⟨e3,hk⟩
   · rw [e3] at a;simp at a
   · rw [e3] at a
     rcases N e with ⟨e1,e2⟩|⟨e1, -⟩
     · simp only [Prod.mk.injEq] at e2;omega
     · exact h.Z k j g' s1 a e1
 · intro j k s1 m a e b
   rcases N e with ⟨e1,e2⟩|⟨e1,hj⟩
   · subst e1
     simp only [Prod.mk.injEq] at e2
     have:k=w:=by omega
     subst this
     rw [Xw,e2.2.2,hb2 m b,h.T j k s m a (by rw [hL,hold.2]) b,hr]
     simp [turns,hold.2]
   · have:=h.T j k s1 m a e1 b
     rcases RR k with ⟨e3,e4⟩|⟨e3, -⟩
     · rw [e3,this];subst e4;rw [hr]
       have:¬i=j:=fun e=>hj e.symm
       simp [turns,this]
     · rw [e3];exact this
 · intro k j g' m o' a
   rcases RR k with ⟨e3,e4⟩|⟨e3, -⟩
   · rw [e3] at a;simp only [Xe.de.injEq] at a
     obtain ⟨rfl,rfl,rfl,rfl⟩:=a
     subst e4
     refine ⟨hold.1,hold.2,hn, ?_⟩
     have:=h.T i k s n hold.1 (by rw [hL,hold.2]) hn
     rw [hr,hb] at this
     simpa [turns] using this.symm
   · rw [e3] at a;exact h.D k j g' m o' a
theorem JQ.Q6h (h:JQ L G shut hw hg hs r) {w:Nat} {i g:Int} {n:Nat} {o:Bool} (hr:r w=.de i g n o):
 JQ L G shut hw hg (fun j m=>if j=i∧m=n then o else hs j m) (upR r w .no):=by
 obtain ⟨d1,d2,d3,d4⟩:=h.D w i g n o hr
 have RR:∀k,upR r w .no k=.no∧k=w∨upR r w .no k=r k∧k≠w:=by
  intro k;by_cases hk:k=w
  · left;rw [hk];exact ⟨Xw ..,rfl⟩
  · right;exact ⟨V6 hk,hk⟩
 constructor
 · intro j y g' s' e
   rcases h.P j y g' s' e with a|⟨k,e1,a⟩
   · exact .inl a
   · right;refine ⟨k,e1, ?_⟩
     rcases RR k with ⟨e3,e4⟩|⟨e3,e4⟩
     · subst e4;rw [hr] at a;simp at a
     · rw [e3];exact a
 · intro j k e1 e2 hc
   refine h.Q j k e1 ?_ hc
   rcases RR k with ⟨-,e3⟩|⟨e3, -⟩
   · subst e3;rw [hr];simp
   · rw [←e3];exact e2
 · intro k j g' a hc
   rcases RR k with ⟨e3,e4⟩|⟨e3,hk⟩
   · rw [e3] at a;simp at a
   · rw [e3] at a;exact h.R k j g' a hc
 · intro k j g' a
   rcases RR k with ⟨e3,e4⟩|⟨e3,hk⟩
   · rw [e3] at a;simp at a
   · rw [e3] at a;exact h.E k j g' a
 · intro k j g' a k' b
   rcases RR k with ⟨e3,e4⟩|⟨e3,hk⟩
   · rw [e3] at a;simp at a
   · rw [e3] at a
     have:=h.U1 k j g' a k' b
     rcases RR k' with ⟨-,e4⟩|⟨e4, -⟩
     · subst e4;rw [hr] at this;cases this
     · rw [e4];exact this
 · intro k k' j g1 g2 a b
   rcases RR k with ⟨e3, -⟩|⟨e3, -⟩
   · rw [e3] at a;cases a
   · rcases RR k' with ⟨e4, -⟩|⟨e4, -⟩
     · rw [e4] at b;cases b
     · rw [e3] at a;rw [e4] at b;exact h.U2 k k' j g1 g2 a b
 · intro k j g' a s' e
   rcases RR k with ⟨e3, -⟩|⟨e3, -⟩
   · rw [e3] at a;cases a
   · rw [e3] at a;exact h.X k j g' a s' e
 · exact h.Gh
 · intro k j g' a
   rcases RR k with ⟨e3, -⟩|⟨e3, -⟩
   · rw [e3] at a;simp at a
   · rw [e3] at a;exact h.Gg k j g' a
 · exact h.GL
 · exact h.O
 · intro k j g' s' a e
   rcases RR k with ⟨e3, -⟩|⟨e3, -⟩
   · rw [e3] at a;simp at a
   · rw [e3] at a;exact h.Z k j g' s' a e
 · intro j k s' m a e b
   have:=h.T j k s' m a e b
   rw [this]
   by_cases hj:j=i
   · subst hj
     have:k=w:=by omega
     subst this
     rw [Xw,hr]
     by_cases hm:m=n
     · subst hm;simp [turns,d2,d4]
     · have:¬n=m:=fun e=>hm e.symm
       simp [turns,hm,this]
   · rcases RR k with ⟨e3,e4⟩|⟨e3, -⟩
     · rw [e3];subst e4;rw [hr]
       have:¬i=j:=fun e=>hj e.symm
       simp [turns,hj,this]
     · rw [e3];simp [hj]
 · intro k j g' m o' a
   rcases RR k with ⟨e3, -⟩|⟨e3,e4⟩
   · rw [e3] at a;cases a
   · rw [e3] at a
     have d:=h.D k j g' m o' a
     refine ⟨d.1,d.2.1,d.2.2.1, ?_⟩
     rw [if_neg]
     · exact d.2.2.2
     · rintro ⟨b1, -⟩
       subst b1
       have:=d.1;omega
end
end Go.Proofs.YtgjklfmnmljilaaGreatDoor

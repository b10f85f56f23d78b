/- A part of the proof: TsH to Open. -/
import Derived.Test.YtgjklfmnmljilaaGreatDoorZS01
import Derived.Test.YtgjklfmnmljilaaGreatDoorZS03
import Derived.Test.YtgjklfmnmljilaaGreatDoorZS49
import Derived.Test.YtgjklfmnmljilaaGreatDoorZS50
import Derived.ChangeSame
import Derived.Deep.CutBlock
import Derived.Deep.Fields
import Derived.Deep.Slices
import Derived.OpenShut
import Derived.ProofKit
namespace Go.Proofs.YtgjklfmnmljilaaGreatDoor
set_option linter.unusedVariables false
set_option linter.unusedSimpArgs false
set_option linter.unusedSectionVars false
set_option linter.unnecessarySimpa false
set_option maxRecDepth 100000
set_option maxHeartbeats 8000000
section
open Go.RowKit Go.Shelf Go.Lib
attribute [local go_sem] Oper.semAt_some
def EntAt (w:World) (b:Nat) (x:Qy):Prop:=w.heap[b]?=some (.cells #[.int .i64 x.kind,.int .i64 x.who,.int .i64 x.ask.op,.int .i64 x.ask.dl,.bool x.ask.wait,.bool x.ask.force,.int .i64 x.ask.slot,.int .i64 x.ask.gen,.int .i64 x.ask.stream,.int .i64 x.n,.bool x.good] 39 (0,0))
theorem Q2O {P:Program} {w:World} {b:Nat} {cur:Array Value} {tt:TypeId} (h:w.heap[b]?=some (.cells cur tt (0,0))) (o:Nat) (vs:List Value) (t:TypeId) (ht:(P.info? t).map (·.size)=some vs.length) (hs:o+vs.length≤cur.size) (h1:∀v∈vs,v.oneCell'=true):
 ∃w',(storeVar t ⟨b,o,none⟩ (.agg vs.toArray)).run P w=.ok () w'∧w'.heap[b]?=some (.cells (cur.toList.take o++vs++cur.toList.drop (o+vs.length)).toArray tt (0,0))∧Fr [b] w w':=
 ⟨_,ZL t b o vs tt cur w ht h (by omega) h1,setRow_heap w b cur _ _ _ h,(Fr.refl [b] w).setRow' (by simp) _⟩
def Q5M (kd wh op sl gn nn:Int):Value:=.agg #[.int .u8 kd,.int .u8 wh,.int .u8 op,.int .u8 sl,.int .u8 gn,.int .u8 nn]
def u8s (x:Int):Prop:=0≤x∧x≤255
theorem Q73 {w:World} {b:Nat} {x0 x1 x2 x3 x6 x7 x8 x9:Int} {x4 x5 x10:Bool} (h:w.heap[b]?=some (.cells #[.int .i64 x0,.int .i64 x1,.int .i64 x2,.int .i64 x3,.bool x4,.bool x5,.int .i64 x6,.int .i64 x7,.int .i64 x8,.int .i64 x9,.bool x10] 39 (0,0))):∃x,EntAt w b x:=⟨⟨x0,x1,⟨x2,x3,x4,x5,x6,x7,x8⟩,x9,x10⟩,h⟩
abbrev tEx (b:Nat):Th:=⟨true,[b],fun w=>∃x,EntAt w b x,fun f h ⟨x,k⟩=>⟨x,f.at k (h _ (by simp))⟩⟩
theorem Bag.ent {w0 w:World} {A Z:Th} {L:List Th} {b:Nat} {x0 x1 x2 x3 x6 x7 x8 x9:Int} {x4 x5 x10:Bool} (B:Bag [] w0 (A::Z::tR b #[.int .i64 x0,.int .i64 x1,.int .i64 x2,.int .i64 x3,.bool x4,.bool x5,.int .i64 x6,.int .i64 x7,.int .i64 x8,.int .i64 x9,.bool x10] 39::L) w):Bag [] w0 [A,Z,tEx b] w:=
 (B.tk 3).up 2 (T':=tEx b) (Q73 (B.g 2)) (Fr.refl [b] w)
theorem Q54 (w:World) (kd wh op sl gn nn:Int) (h1:u8s kd) (h2:u8s wh) (h3:u8s op) (h4:u8s sl) (h5:u8s gn) (h6:u8s nn) (c:Q0) (hc:c.small) (a:Option Addr) (cap:Nat) (evs:List EvV) (he:XH w (.slice a evs.length cap) evs) (hn:evs.length≤100000):
 Calls Tryz.prog 18 #[Q5M kd wh op sl gn nn,c.val,.slice a evs.length cap] w fun e w'=>∃x:Qy,e=.returned x.val∧Fr [] w w':=by
 obtain ⟨a0,a1⟩:=h1;obtain ⟨b0,b1⟩:=h2;obtain ⟨c0,c1⟩:=h3;obtain ⟨d0,d1⟩:=h4;obtain ⟨e0,e1⟩:=h5;obtain ⟨f0,f1⟩:=h6
 obtain ⟨wo,csl,cst,wa,us⟩:=c
 obtain ⟨⟨o0,o1⟩, -⟩:=hc
 dsimp only at o0 o1
 unfold Q5M Q0.val
 dsimp only
 have HLE:=hid fun w' (he:XH w' (.slice a evs.length cap) evs) who=>Q4U w' a cap evs he hn who
 have HE:=hid he
 clear he
 generalize evs.length=len at hn HLE HE ⊢
 go_in
 go_wp2_with fail
 have hwo:IntKind.i64.wrap (wo+1)=wo+1:=by rw [IntKind.wrap_i64];omega
 have hwo2:¬wo+1=0:=by omega
 have hwo3:0<wo+1:=by omega
 go_region
 clear hwo hwo2 hwo3
 generalize hw:World.alloc w _=w1,hb:(World.heap w).size=bT
 generalize hw2:World.alloc w1 _=w2
 generalize hw3:World.alloc w2 _=w3
 have B:=(((Bag.nil [] w).al3 hw hb hw2 hw3).sel [0,2]).drew
 clear hw hw2 hw3 hb
 generalize w3.drew=w4 at B ⊢
 generalize wrap64 (wh % (wo+1) - wh / 250)=who
 have k:=B.q 0
 go_upto_block 0 with fail
 generalize hb:(World.heap _).size=bX,hw:World.alloc _ _=w5
 replace B:=B.al hw hb
 clear hw hb k
 go_cut [7] from 33 to 62 (fun s7 wx=>s7=.int .i64 who∧Bag [] w [tR bT #[.int .u8 kd,.int .u8 wh,.int .u8 op,.int .u8 sl,.int .u8 gn,.int .u8 nn] 62,tR (bT+1+1) #[.int .i64 0,.int .i64 0,.int .i64 0,.int .i64 0,.bool false,.bool false,.int .i64 0,.int .i64 0,.int .i64 0,.int .i64 0,.bool false] 39,tEx bX] wx)
 case first=>
  have k:=B.q 0;have x:=B.q 2;have u:=B.u 2
  go_wp2_with fail
  all_goals go_meet
  all_goals
   refine ⟨rfl, ?_⟩
   generalize hw:World.setCell _ _ _=w6
   exact ((B.s 2).e hw).ent
 case rest=>
  obtain ⟨rfl,B⟩:=hcut
  obtain ⟨⟨xk,xwho,⟨xop,xdl,xwt,xfc,xsl,xgn,xst⟩,xn,xgd⟩,hx⟩:=B.g 2
  replace B:=B.up 2 (T':=tR bX _ _) hx (Fr.refl [bX] _)
  clear hx
  try dsimp only at B
  obtain ⟨w3,hr,hX3,f3⟩:=Q2O (P:=Tryz.prog) (B.g 2) 2 [.int .i64 (op % 9),.int .i64 nn,.bool (nn % 2==1),.bool (nn % 5==0),.int .i64 (sl % 6),.int .i64 (gn % 4),.int .i64 (nn % 4)] 37 rfl (by simp) (by simp [Value.oneCell'])
  simp only [List.take_succ_cons,List.take_zero,List.cons_append,List.nil_append,List.length_cons,List.length_nil,Nat.reduceAdd,List.drop_succ_cons,List.drop_zero] at hX3
  have k:=B.q 0
  go_upto_region 15 with (refine ZY rfl _ _ _ rfl _ _ rfl rfl hr ?_)
  replace B:=B.up 2 (T':=tR bX _ _) hX3 f3
  clear k hr hX3 f3
  have k:=B.q 0
  go_upto_if 94 with fail
  go_cut [] from 94 to 103 (fun wx=>Bag [] w [tR bT #[.int .u8 kd,.int .u8 wh,.int .u8 op,.int .u8 sl,.int .u8 gn,.int .u8 nn] 62,tR (bT+1+1) #[.int .i64 0,.int .i64 0,.int .i64 0,.int .i64 0,.bool false,.bool false,.int .i64 0,.int .i64 0,.int .i64 0,.int .i64 0,.bool false] 39,tEx bX] wx)
  case first=>
   by_cases h100:op<100
   · have d100:decide (100≤op)=false:=decide_eq_false (by omega)
     go_wp2_with fail
     go_meet
     exact B.ent
   · have d100:decide (100≤op)=true:=decide_eq_true (by omega)
     have x2:=B.qa 2;have kk2:=B.qa 0;have ux2:=B.ua 2
     have nb1:¬bX=w3.heap.size:=by have:=B.lt 2 bX (by simp [gt]);omega
     have nb2:¬w3.heap.size=bX:=fun e=>nb1 e.symm
     rcases (by omega:op % 5=0∨op % 5=1∨op % 5=2∨op % 5=3∨op % 5=4) with hm|hm|hm|hm|hm
     all_goals
      go_wp2_with fail
      go_meet
      generalize hb:w3.heap.size=b9,hw2:World.alloc w3 _=w7
      generalize hw:World.setCell _ _ _=w6
      exact (((B.al hw2 hb).s 2).e hw).ent
  case rest=>
   clear k B
   replace B:=hcut
   obtain ⟨⟨xk,xwho,⟨xop,xdl,xwt,xfc,xsl,xgn,xst⟩,xn,xgd⟩,hx⟩:=B.g 2
   replace B:=B.up 2 (T':=tR bX _ _) hx (Fr.refl [bX] _)
   clear hx
   try dsimp only at B
   have k:=B.q 0
   go_upto_if 106 with fail
   go_cut [9,10] from 106 to 118 (fun _ _ wx=>Bag [] w [tR bT #[.int .u8 kd,.int .u8 wh,.int .u8 op,.int .u8 sl,.int .u8 gn,.int .u8 nn] 62,tR (bT+1+1) #[.int .i64 0,.int .i64 0,.int .i64 0,.int .i64 0,.bool false,.bool false,.int .i64 0,.int .i64 0,.int .i64 0,.int .i64 0,.bool false] 39,tEx bX] wx)
   case first=>
    by_cases hs60:sl<60
    · have d60:decide (60≤sl)=false:=decide_eq_false (by omega)
      go_wp2_with fail
      go_meet
      exact B.ent
    · have d60:decide (60≤sl)=true:=decide_eq_true (by omega)
      go_wp2_with fail
      refine (HLE.out _ (Jo.fr HE.out B.fr (by simp)) _).mono ?_
      rintro e w6 ⟨s,g,rfl,f6⟩
      replace B:=B.tm f6
      clear k
      have x:=B.q 2;have u:=B.u 2
      go_wp2_with fail
      go_meet
      generalize hw:World.setCell _ _ _=w7
      exact (((B.s 2).s 2).e hw).ent
   case rest=>
    clear k B
    replace B:=hcut
    obtain ⟨⟨xk,xwho,⟨xop,xdl,xwt,xfc,xsl,xgn,xst⟩,xn,xgd⟩,hx⟩:=B.g 2
    replace B:=B.up 2 (T':=tR bX _ _) hx (Fr.refl [bX] _)
    clear hx
    try dsimp only at B
    obtain ⟨w8,hr,hb8,f8⟩:=WH (P:=Tryz.prog) (B.g 1) [.int .i64 xk,.int .i64 xwho,.int .i64 xop,.int .i64 xdl,.bool xwt,.bool xfc,.int .i64 xsl,.int .i64 xgn,.int .i64 xst,.int .i64 xn,.bool xgd] 39 rfl rfl (by simp [Value.oneCell'])
    have x:=B.q 2
    go_wp2_with (refine ZY rfl _ _ _ rfl _ _ rfl rfl hr ?_)
    replace B:=B.up 1 (T':=tR _ _ _) hb8 f8
    have x:=B.q 1
    refine bodyPost_ret (v:=Qy.val ⟨xk,xwho,⟨xop,xdl,xwt,xfc,xsl,xgn,xst⟩,xn,xgd⟩) ?_ rfl ?_
    rotate_left
    · first|exact ⟨_,rfl,B.fr⟩|exact ⟨⟨_,rfl⟩,B.fr⟩
    simp [results,Tryz.f18,go_sem,Qy.val,x]
structure ZU where
 kd:Int
 wh:Int
 op:Int
 sl:Int
 gn:Int
 nn:Int
structure ZU.ok (t:ZU):Prop where
 a:u8s t.kd
 b:u8s t.wh
 c:u8s t.op
 d:u8s t.sl
 e:u8s t.gn
 f:u8s t.nn
def ZU.val (t:ZU):Value:=Q5M t.kd t.wh t.op t.sl t.gn t.nn
structure ZU.at (t:ZU) (w:World) (b o:Nat):Prop where
 q0:w.cell? ⟨b,o,none⟩=some (.int .u8 t.kd)
 q1:w.cell? ⟨b,o+1,none⟩=some (.int .u8 t.wh)
 q2:w.cell? ⟨b,o+2,none⟩=some (.int .u8 t.op)
 q3:w.cell? ⟨b,o+3,none⟩=some (.int .u8 t.sl)
 q4:w.cell? ⟨b,o+4,none⟩=some (.int .u8 t.gn)
 q5:w.cell? ⟨b,o+5,none⟩=some (.int .u8 t.nn)
theorem ZU.at.fr {t:ZU} {w w':World} {b o:Nat} (h:t.at w b o) (f:Fr [] w w'):t.at w' b o:=
 ⟨f.cell h.q0 (by simp),f.cell h.q1 (by simp),f.cell h.q2 (by simp),f.cell h.q3 (by simp),f.cell h.q4 (by simp),f.cell h.q5 (by simp)⟩
def Uy (w:World) (g:Option Addr) (L:List ZU):Prop:=(∀t∈L,t.ok)∧∀(j:Nat) (t:ZU),L[j]?=some t→∃b o,g=some ⟨b,o,none⟩∧t.at w b (o+j*6)
theorem Uy.fr {w w':World} {g:Option Addr} {L:List ZU} (h:Uy w g L) (f:Fr [] w w'):Uy w' g L:=⟨h.1,fun j t ht=>let ⟨b,o,e,a⟩:=h.2 j t ht;⟨b,o,e,a.fr f⟩⟩
def Vk (c:Q0) (xs:List Qy):Qb:=xs.foldl (fun m x=>(doV m x).1) (QH c)
theorem Q4y (c:Q0) (xs:List Qy) (x:Qy):Vk c (xs++[x])=(doV (Vk c xs) x).1:=by unfold Vk;rw [List.foldl_append];rfl
theorem Wz (c:Q0) (xs:List Qy):(Vk c xs).entries=xs.length:=by
 unfold Vk
 suffices h:∀(xs:List Qy) (m:Qb),(xs.foldl (fun m x=>(doV m x).1) m).entries=m.entries+xs.length by have:=h xs (QH c);rw [this];show (0:Int)+_=_;omega
 intro xs
 induction xs with
 |nil=>intro m;simp
 |cons x xs ih=>intro m;rw [List.foldl_cons,ih,ZN];simp;omega
theorem Q2i {J:Qb→Prop} (c:Q0) (h0:J (QH c)) (h:∀m x,J m→J (doV m x).1):∀xs:List Qy,J (Vk c xs):=by
 intro xs
 unfold Vk
 suffices H:∀(xs:List Qy) (m:Qb),J m→J (xs.foldl (fun m x=>(doV m x).1) m) from H xs _ h0
 intro xs
 induction xs with
 |nil=>intro m hm;exact hm
 |cons x xs ih=>intro m hm;rw [List.foldl_cons];exact ih _ (h m x hm)
theorem Q38 {c:Q0} (hc:c.fits) (xs:List Qy) (hl:xs.length≤100000000):GI c (Vk c xs):=by
 have:=Q2i (J:=fun m=>m.entries≤100000000→GI c m) c (fun _=>GI.new hc) (fun m x h he=>by
  have:=ZN m x
  exact ((h (by omega)).do_ (by omega) x).1) xs
 exact this (by rw [Wz];omega)
theorem MM.do2 {w:World} {F:List Nat} {b:Bs} {m:Qb} {w0:World} {F0:List Nat} {q:Nat} {c:Q0} (H:MM w F b m w0 F0 q c) {n:Int} (hI:MInv n m) (hn:n≤1000000000) (h0:0≤m.entries) (hE:m.entries≤40000000) (x:Qy):
 Calls Tryz.prog 11 #[pt b.pM,x.val] w fun e w'=>e=.returned (.bool (doV m x).2)∧∃F',MM w' F' b (doV m x).1 w0 F0 q c∧Fr F w w'∧∀y∈F',y∈F∨w.heap.size≤y:=by
 obtain ⟨A,f,hF,hq,hc⟩:=H
 refine (A.do_ hI (by omega) hn h0 (by omega) x).mono ?_
 rintro e w' ⟨e1,F',A',g,hF'⟩
 have hlt:=Q8 hc
 refine ⟨e1,F',⟨?_,f.then g fun y hy=>hF y hy,fun y hy=> ?_,fun hm=> ?_,g.at hc hq⟩,g,hF'⟩
 · have e2:=ZN m x
   rw [e2,show 2*(m.entries+1)=2*m.entries+2 by omega];exact A'
 · rcases hF' y hy with a|a
   · exact hF y a
   · exact .inr (Nat.le_trans f.size a)
 · rcases hF' q hm with a|a
   · exact hq a
   · omega
theorem keep6 {w w5 w6:World} {F F':List Nat} {p:Nat} {o:Obj} (h:w.heap[p]?=some o) (hp:p∉F) (f:Fr [] w w5) (g:Fr F w5 w6) (hF:∀y∈F',y∈F∨w5.heap.size≤y):p∉F'∧w6.heap[p]?=some o:=by
 have l:=Q8 h
 have:=f.size
 refine ⟨fun hm=> ?_,g.at (f.at h (by simp)) hp⟩
 rcases hF p hm with a|a
 · exact hp a
 · omega
theorem Q6z (w:World) (h3:3≤w.heap.size) (hfl:Qe w 0 Qc) (hdb:Hq w) (ga gb gc gd ge:Int) (ha:u8s ga) (hb:u8s gb) (hc:u8s gc) (hd:u8s gd) (he:u8s ge) (g:Option Addr) (cap:Nat) (L:List ZU) (hT:Uy w g L) (hL:L.length≤200):
 Calls Tryz.prog 8 #[.agg #[.int .u8 ga,.int .u8 gb,.int .u8 gc,.int .u8 gd,.int .u8 ge],.slice g L.length cap] w fun e w'=>∃(cv:Q0) (b:Bs) (F:List Nat) (xs:List Qy),e=.returned (.tuple #[pt b.pM,cv.val])∧cv.small∧xs.length=L.length∧MAt w' F b (Vk cv xs) (2*(Vk cv xs).entries)∧(∀x∈F,w.heap.size≤x)∧Fr [] w w':=by
 have HFL:=hid hfl;have HDB:=hid hdb;have HT:=hid hT
 have HC:=hid fun (wx:World)=>Q4f wx ga gb gc gd ge ha hb hc hd he
 obtain ⟨len,hlen⟩:∃len,L.length=len:=⟨_,rfl⟩
 rw [hlen] at hL ⊢
 have HLN:=hid hlen
 clear hfl hdb hT hlen
 go_in
 go_wp2_with fail
 have fW:=((Fr.refl [] w).alloc (.cells #[.int .u8 ga,.int .u8 gb,.int .u8 gc,.int .u8 gd,.int .u8 ge] 23)).alloc (.cells #[.int .i64 0,.int .i64 0,.int .i64 0,.int .i64 0,.int .i64 0] 30)
 have hp5:=heap_alloc_new (w.alloc (.cells #[.int .u8 ga,.int .u8 gb,.int .u8 gc,.int .u8 gd,.int .u8 ge] 23)) (.cells #[.int .i64 0,.int .i64 0,.int .i64 0,.int .i64 0,.int .i64 0] 30)
 rw [World.size_alloc] at hp5
 generalize (w.alloc (.cells #[.int .u8 ga,.int .u8 gb,.int .u8 gc,.int .u8 gd,.int .u8 ge] 23)).alloc (.cells #[.int .i64 0,.int .i64 0,.int .i64 0,.int .i64 0,.int .i64 0] 30)=W0 at fW hp5 ⊢
 obtain ⟨p5,hp⟩:∃p5,w.heap.size+1=p5:=⟨_,rfl⟩
 rw [hp] at hp5 ⊢
 have h5:w.heap.size≤p5:=by omega
 clear hp
 refine (HC.out W0).mono ?_
 rintro e w1 ⟨cv,rfl,hsm,f1⟩
 have hfit:=hsm.fits
 have F1:=fW.trans f1
 have hp5':=f1.at hp5 (by simp)
 have l5:=Q8 hp5'
 have hq:=heap_alloc_new w1 (XU cv)
 have fq:=(Fr.refl [] w1).alloc (XU cv)
 have F2:=F1.trans fq
 have hnew:=r_new (w1.alloc (XU cv)) cv hfit (by have:=F2.size;omega) (HFL.out.fr F2 (by simp)) (HDB.out.fr F2 (by simp))
 have hp2:=fq.at hp5' (by simp)
 have hq5:w1.heap.size≠p5:=by omega
 have hsz:w.heap.size≤w1.heap.size:=F1.size
 unfold XU at hq hnew F2 hp2
 unfold Q0.val at hnew ⊢
 have HN:=hid hnew;have HQ:=hid hq;have HF2:=hid F2;have HP:=hid hp2;have HSM:=hid hsm;have HFIT:=hid hfit
 clear hnew hq F2 hp2 hsm fq hp5' hp5 fW f1 hfit F1
 go_wp2_with fail
 generalize w1.alloc (.cells #[.int .i64 cv.wo,.int .i64 cv.sl,.int .i64 cv.st,.int .i64 cv.wa,.int .i64 cv.us] 30)=w2 at HN HQ HF2 HP ⊢
 generalize w1.heap.size=q at hq5 hsz l5 HQ ⊢
 refine (HN.out).mono ?_
 rintro e w3 ⟨b,F,rfl,A,hFn,f3⟩
 have hlq:=Q8 HQ.out;have hlp:=Q8 HP.out
 have M0:MM w3 F b (Vk cv []) w [] q cv:=⟨by rw [Wz];exact A,HF2.out.then f3 (by simp),fun x hx=>.inr (by have:=hFn x hx;have:=HF2.out.size;omega),fun hx=>by have:=hFn _ hx;omega,f3.at HQ.out (by simp)⟩
 have HM0:=hid M0
 have HP3:=hid (f3.at HP.out (by simp))
 have HPF:=hid (show p5∉F from fun hx=>by have:=hFn _ hx;omega)
 have HQP:=hid hq5
 clear M0 A hFn f3 hlq hlp HN HQ HF2 HP hq5 l5
 unfold pt
 go_wp2_with fail
 go_loopw [9] (fun s9 wr=>∃(i:Nat) (xs:List Qy) (F1:List Nat),i≤len∧s9=.int .i64 i∧xs.length=i∧MM wr F1 b (Vk cv xs) w [] q cv∧p5∉F1∧wr.heap[p5]?=some (.cells #[.int .i64 0,.int .i64 0,.int .i64 0,.int .i64 0,.int .i64 0] 30 (0,0))) (fun s9 _=>((len:Int) - intOf s9).toNat)
 case atStart=>exact ⟨0,[],F,by omega,rfl,rfl,HM0.out,HPF.out,HP3.out⟩
 case round=>
  obtain ⟨i,xs,F1,hi,rfl,hxs,hM1,hpf,hp5⟩:=hrel
  have q0:=cl 0 hM1.2.2.2.2;have q1:=cl 1 hM1.2.2.2.2;have q2:=cl 2 hM1.2.2.2.2;have q3:=cl 3 hM1.2.2.2.2;have q4:=cl 4 hM1.2.2.2.2
  have hgi:=Q38 HFIT.out xs (by omega)
  have hen:=Wz cv xs
  have HM1:=hid hM1;have HI1:=hid hgi;have HEN:=hid (show (Vk cv xs).entries≤40000000 by omega)
  have HEL:=hid (show (Vk cv xs).evs.length≤100000 by have:=hgi.i.ev;have:=YC (Vk cv xs).ws;omega)
  have HP5:=hid hp5;have HPF1:=hid hpf;have HXS:=hid hxs
  by_cases hlt:i<len
  · obtain ⟨t,ht⟩:∃t,L[i]?=some t:=⟨_,List.getElem?_eq_getElem (by have:=HLN.out;omega)⟩
    obtain ⟨ub,uo,rfl,hta⟩:=HT.out.2 i t ht
    have HOK:=hid (HT.out.1 t (List.mem_of_getElem? ht))
    have hTn:=hta
    have hta:=hta.fr hM1.2.1
    have y0:=hta.q0;have y1:=hta.q1;have y2:=hta.q2;have y3:=hta.q3;have y4:=hta.q4;have y5:=hta.q5
    have FD:=hid ((Fr.refl [] wr).drew)
    have hlt2:(i:Int)<(len:Int):=by omega
    have hi0:(0:Int)≤(i:Int):=by omega
    clear hM1 hgi hen hxs hpf hp5 ht hta
    go_wp2_with fail
    refine wp_region_held_drew (S:=fun w'=>w'.cell? ⟨ub,uo+i*6,none⟩=some (.int .u8 t.kd)∧w'.cell? ⟨ub,uo+i*6+1,none⟩=some (.int .u8 t.wh)∧w'.cell? ⟨ub,uo+i*6+2,none⟩=some (.int .u8 t.op)∧w'.cell? ⟨ub,uo+i*6+3,none⟩=some (.int .u8 t.sl)∧w'.cell? ⟨ub,uo+i*6+4,none⟩=some (.int .u8 t.gn)∧w'.cell? ⟨ub,uo+i*6+5,none⟩=some (.int .u8 t.nn)∧w'.cell? ⟨q,0,none⟩=some (.int .i64 cv.wo)∧w'.cell? ⟨q,1,none⟩=some (.int .i64 cv.sl)∧w'.cell? ⟨q,2,none⟩=some (.int .i64 cv.st)∧w'.cell? ⟨q,3,none⟩=some (.int .i64 cv.wa)∧w'.cell? ⟨q,4,none⟩=some (.int .i64 cv.us)) (by kernel_rfl) ⟨y0,y1,y2,y3,y4,y5,q0,q1,q2,q3,q4⟩ (fun hHeld=> ?_)
    refine tk 0 ?_
    refine tk 1 ?_
    refine tk 2 ?_
    refine tk 3 ?_
    refine tk 4 ?_
    refine tk 5 ?_
    refine tk 6 ?_
    refine tc 7 (fun K hK=> ?_)
    go_simp
    refine (((HM1.out.fr FD.out).1.events HI1.out.i)).mono ?_
    rintro e w4 ⟨v',rfl,E, -,f4⟩
    obtain ⟨ea,ecap,hve⟩:=Jo.form E
    subst hve
    have F4:=hid (FD.out.trans f4)
    have HE4:=hid E
    clear E
    go_wp2_with fail
    refine hK.out _ _ ⟨F4.out.cell y0 (by simp),F4.out.cell y1 (by simp),F4.out.cell y2 (by simp),F4.out.cell y3 (by simp),F4.out.cell y4 (by simp),F4.out.cell y5 (by simp),F4.out.cell q0 (by simp),F4.out.cell q1 (by simp),F4.out.cell q2 (by simp),F4.out.cell q3 (by simp),F4.out.cell q4 (by simp)⟩ (fun hHeld=> ?_)
    clear hK K
    try go_frame
    refine tc 8 (fun K hK=> ?_)
    go_simp
    refine ((Q54 w4 t.kd t.wh t.op t.sl t.gn t.nn HOK.out.a HOK.out.b HOK.out.c HOK.out.d HOK.out.e HOK.out.f cv HSM.out ea ecap (Vk cv xs).evs HE4.out HEL.out)).mono ?_
    rintro e w5 ⟨x,rfl,f5⟩
    have F5:=hid (F4.out.trans f5)
    go_wp2_with fail
    refine hK.out _ _ ⟨F5.out.cell y0 (by simp),F5.out.cell y1 (by simp),F5.out.cell y2 (by simp),F5.out.cell y3 (by simp),F5.out.cell y4 (by simp),F5.out.cell y5 (by simp),F5.out.cell q0 (by simp),F5.out.cell q1 (by simp),F5.out.cell q2 (by simp),F5.out.cell q3 (by simp),F5.out.cell q4 (by simp)⟩ (fun hHeld=> ?_)
    clear hK K
    try go_frame
    refine tc 9 (fun K hK=> ?_)
    go_simp
    refine (((HM1.out.fr F5.out).do2 HI1.out.i (by have:=HEN.out;omega) HI1.out.e HEN.out x)).mono ?_
    rintro e w6 ⟨rfl,F6,M6,g6,hF6⟩
    have hp6:=keep6 HP5.out HPF1.out F5.out g6 hF6
    have HP6:=hid hp6
    clear hp6 g6 hF6
    have HM6:=hid M6
    have z0:=cl 0 M6.2.2.2.2;have z1:=cl 1 M6.2.2.2.2;have z2:=cl 2 M6.2.2.2.2;have z3:=cl 3 M6.2.2.2.2;have z4:=cl 4 M6.2.2.2.2
    have hyt:=(hTn.fr M6.2.1)
    go_wp2_with fail
    refine hK.out _ _ ⟨hyt.q0,hyt.q1,hyt.q2,hyt.q3,hyt.q4,hyt.q5,z0,z1,z2,z3,z4⟩ (fun hHeld=> ?_)
    clear hK K
    try go_frame
    refine wpAnyH_done (by kernel_rfl) ?_ _
    go_wp2
    exact ⟨⟨i+1,xs++[x],F6,by omega,rfl,by rw [List.length_append,HXS.out];rfl,by rw [Q4y];exact HM6.out,HP6.out.1,HP6.out.2⟩,by simp [intOf]<;>omega⟩
  · obtain rfl:i=len:=by omega
    have z5:=HP5.out
    clear hM1 hgi hen hxs hpf hp5
    go_wp2_with fail
    refine wp_region_held_drew (S:=fun w'=>w'.cell? ⟨q,0,none⟩=some (.int .i64 cv.wo)∧w'.cell? ⟨q,1,none⟩=some (.int .i64 cv.sl)∧w'.cell? ⟨q,2,none⟩=some (.int .i64 cv.st)∧w'.cell? ⟨q,3,none⟩=some (.int .i64 cv.wa)∧w'.cell? ⟨q,4,none⟩=some (.int .i64 cv.us)) (by kernel_rfl) ⟨q0,q1,q2,q3,q4⟩ (fun hHeld=> ?_)
    refine tk 0 ?_
    refine tk 1 ?_
    refine tk 2 ?_
    refine tc 3 (fun K hK=> ?_)
    obtain ⟨w4,hrun,hp4,fs⟩:=WH (P:=Tryz.prog) (Q3n z5) [.int .i64 cv.wo,.int .i64 cv.sl,.int .i64 cv.st,.int .i64 cv.wa,.int .i64 cv.us] 30 rfl rfl (by simp [Value.oneCell'])
    have hqp:=HQP.out
    refine YU _ _ _ rfl _ _ rfl rfl hrun ?_
    refine hK.out _ _ ⟨fs.cell hHeld.1 (by simp;omega),fs.cell hHeld.2.1 (by simp;omega),fs.cell hHeld.2.2.1 (by simp;omega),fs.cell hHeld.2.2.2.1 (by simp;omega),fs.cell hHeld.2.2.2.2 (by simp;omega)⟩ (fun hHeld=> ?_)
    clear hrun hK K hHeld
    refine wpAnyH_done (by kernel_rfl) ?_ _
    have fd:=(Fr.refl [] wr).drew.mono (S':=[p5]) (by simp)
    have fr4:=fd.trans fs
    have HF:=hid fr4
    have m0:=cl 0 hp4;have m1:=cl 1 hp4;have m2:=cl 2 hp4;have m3:=cl 3 hp4;have m4:=cl 4 hp4
    clear hp4 fs fd fr4 z5 q0 q1 q2 q3 q4
    go_wp2
    refine bodyPost_ret (v:=.tuple #[pt b.pM,cv.val]) ?_ rfl ⟨cv,b,F1,xs,rfl,HSM.out,by rw [HXS.out], ?_, ?_, ?_⟩
    · simp [results,Tryz.f8,go_sem,m0,m1,m2,m3,m4]
      exact ⟨rfl,rfl⟩
    · exact HM1.out.1.fr HF.out (fun x hx hm=>by rw [List.mem_singleton.1 hm] at hx;exact HPF1.out hx) (by simp;omega) (by simp;omega)
    · exact fun x hx=>(HM1.out.2.2.1 x hx).resolve_left (by simp)
    · exact HM1.out.2.1.then HF.out (fun x hx=>.inr (by rw [List.mem_singleton.1 hx];exact h5))
theorem GI.invA {c:Q0} {E:Int} (hE:E≤40000000):InvA c E (GI c):=
 ⟨fun m g=>⟨g.i,g.e,g.c⟩,fun m w g he h0 h1=>by
   have:=(Zu g (w:=w.toNat) (by omega) (by omega)).1
   rwa [Int.toNat_of_nonneg h0] at this,hE⟩
theorem Q8M (w:World) (g g':Option Addr) (n n' cap cap':Nat):Calls Tryz.prog 7 #[.slice g n cap,.slice g' n' cap'] w fun e w'=>e=.returned (.bool (decide ((n:Int)≤200)&&decide ((n':Int)≤20)))∧w'=w:=by
 by_cases h:(n:Int)≤200
 · by_cases h':(n':Int)≤20
   · rw [decide_eq_true h,decide_eq_true h']
     go_in
     go_wp2
     go_ret
     exact ⟨rfl,rfl⟩
   · rw [decide_eq_true h,decide_eq_false h']
     go_in
     go_wp2
     go_ret
     exact ⟨rfl,rfl⟩
 · rw [decide_eq_false h]
   go_in
   go_wp2
   go_ret
   exact ⟨rfl,rfl⟩
theorem Vd.lt {w:World} {g:Option Addr} {L:List Int} (h:Vd w g L) (a:Addr) (ha:g=some a) (hL:L≠[]):a.block<w.heap.size:=by
 obtain ⟨y,hy⟩:∃y,L[0]?=some y:=⟨_,List.getElem?_eq_getElem (List.length_pos_iff.2 hL)⟩
 obtain ⟨b,o,hg,hc⟩:=h.2.2 0 y hy
 rw [hg] at ha
 cases ha
 exact World.block_lt_of_cell? w _ hc
theorem Q4e (w:World) (F:List Nat) (b:Bs) (m:Qb) (w0:World) (F0:List Nat) (q:Nat) (cv:Q0) (H:MM w F b m w0 F0 q cv) (hs:cv.small) (g:GI cv m) (he:m.entries≤27000000) (gp:Option Addr) (cap:Nat) (L:List Int) (hU:Vd w gp L) (hL:L.length≤1000) (hF:∀a,gp=some a→L≠[]→a.block∉F):
 Calls Tryz.prog 9 #[pt b.pM,cv.val,.slice gp L.length cap] w fun e w'=>e=.returned (.bool true)∧∃(F':List Nat) (R:Qb) (f:Nat),Z0 cv.wo.toNat (ZG cv) L f m 0 0 0=(R,true)∧MM w' F' b R w0 F0 q cv∧GI cv R∧Gj R∧R.entries≤m.entries+12000000∧Fr F w w'∧∀x∈F',x∈F∨w.heap.size≤x:=by
 have H2:=H.cut
 obtain ⟨f,R,e1,e2,e3,e4⟩:=settles hs.1 hs.2.1 L g (by omega)
 refine (Gs w (lies w F) b m H2.1 EB cv hs.fits gp cap L hU hL (fun a ha hn hm=>hF a ha hn (V3 _ hm)) 40000000 (GI cv) (GI.invA (by omega)) g f (R,true) e1 rfl (by show R.entries≤_;omega)).mono ?_
 rintro e w' ⟨rfl,F',A, -,fr,hF'⟩
 refine ⟨rfl,F',R,f,e1,H2.settled A fr hF',e2,e3,e4,fr.mono V3,fun x hx=> ?_⟩
 rcases hF' x hx with a|a
 · exact .inl (V3 _ a)
 · exact .inr a
theorem Wd (w:World) (h3:3≤w.heap.size) (hfl:Qe w 0 Qc) (hdb:Hq w) (ga gb gc gd ge:Int) (ha:u8s ga) (hb:u8s gb) (hc:u8s gc) (hd:u8s gd) (he:u8s ge) (g:Option Addr) (cap:Nat) (L:List ZU) (hT:Uy w g L) (g2:Option Addr) (cap2:Nat) (O:List Int) (hO:Vd w g2 O):
 Calls Tryz.prog 3 #[.agg #[.int .u8 ga,.int .u8 gb,.int .u8 gc,.int .u8 gd,.int .u8 ge],.slice g L.length cap,.slice g2 O.length cap2] w fun e w'=>e=.returned (.bool true)∧Fr [] w w':=by
 have fW:=(Fr.refl [] w).alloc (.cells #[.int .u8 ga,.int .u8 gb,.int .u8 gc,.int .u8 gd,.int .u8 ge] 23)
 have hgv:=heap_alloc_new w (.cells #[.int .u8 ga,.int .u8 gb,.int .u8 gc,.int .u8 gd,.int .u8 ge] 23)
 have HAW:=hid (Q5p (w.alloc (.cells #[.int .u8 ga,.int .u8 gb,.int .u8 gc,.int .u8 gd,.int .u8 ge] 23)) (by rw [World.size_alloc];omega) (hfl.fr fW (by simp)) (hdb.fr fW (by simp)) ⟨GI.new Va,fun m x g he=>(g.do_ (by omega) x).1,fun m g=>⟨g.i,g.e,g.c⟩⟩)
 have HFL:=hid hfl;have HDB:=hid hdb;have HT:=hid hT;have HO:=hid hO;have HW:=hid fW;have HGV:=hid hgv
 clear hfl hdb hT hO fW hgv
 go_in
 go_wp2_with fail
 refine (HAW.out).mono ?_
 rintro e w1 ⟨rfl,f1⟩
 have HF1:=hid (HW.out.trans f1)
 have q0:=cl 0 (f1.at HGV.out (by simp));have q1:=cl 1 (f1.at HGV.out (by simp));have q2:=cl 2 (f1.at HGV.out (by simp));have q3:=cl 3 (f1.at HGV.out (by simp));have q4:=cl 4 (f1.at HGV.out (by simp))
 clear HAW HW HGV f1
 go_wp2_with fail
 refine (Q8M w1 g g2 L.length O.length cap cap2).mono ?_
 rintro e w2 ⟨rfl,rfl⟩
 obtain ⟨len,hlen⟩:∃len,L.length=len:=⟨_,rfl⟩
 obtain ⟨olen,holen⟩:∃olen,O.length=olen:=⟨_,rfl⟩
 rw [hlen,holen]
 have HLN:=hid hlen;have HON:=hid holen
 clear hlen holen
 by_cases hs:(len:Int)≤200∧(olen:Int)≤20
 · rw [decide_eq_true hs.1,decide_eq_true hs.2]
   obtain ⟨hl1,hl2⟩:=hs
   have HM:=hid (Q6z w2 (by have:=HF1.out.size;omega) (HFL.out.fr HF1.out (by simp)) (HDB.out.fr HF1.out (by simp)) ga gb gc gd ge ha hb hc hd he g cap L (HT.out.fr HF1.out) (by rw [HLN.out];omega))
   rw [HLN.out] at HM
   go_wp2_with fail
   refine (HM.out).mono ?_
   rintro e w3 ⟨cv,b,F,xs,rfl,hsm,hxs,A,hF,f3⟩
   have hq:=heap_alloc_new w3 (XU cv)
   have fq:=(Fr.refl [] w3).alloc (XU cv)
   have M0:MM (w3.alloc (XU cv)) (lies w3 F) b (Vk cv xs) w2 [] w3.heap.size cv:=⟨A.cut.fr fq (by simp) (by simp) (by simp),f3.trans fq,fun x hx=>.inr (hF x (V3 x hx)),fun hx=>by have:=EB _ hx;omega,hq⟩
   have hgi:=Q38 hsm.fits xs (by omega)
   have hen:=Wz cv xs
   have HR:=hid (Q4e _ _ b _ w2 [] _ cv M0 hsm hgi (by omega) g2 cap2 O (HO.out.fr (HF1.out.trans (f3.trans fq))) (by rw [HON.out];omega) (fun a ha hn hm=>by
    have:=HO.out.lt a ha hn
    have:=hF _ (V3 _ hm)
    have:=HF1.out.size
    omega))
   rw [HON.out] at HR
   have q0:=cl 0 hq;have q1:=cl 1 hq;have q2:=cl 2 hq;have q3:=cl 3 hq;have q4:=cl 4 hq
   unfold XU at hq HR q0 q1 q2 q3 q4
   unfold Q0.val at HR ⊢
   have hsz:=f3.size
   have HSM:=hid hsm;have HEN:=hid (show (Vk cv xs).entries≤200 by omega)
   clear M0 A f3 fq hgi hen hF hq
   unfold pt at HR ⊢
   go_wp2_with fail
   generalize w3.alloc (.cells #[.int .i64 cv.wo,.int .i64 cv.sl,.int .i64 cv.st,.int .i64 cv.wa,.int .i64 cv.us] 30)=w4 at HR q0 q1 q2 q3 q4 ⊢
   generalize w3.heap.size=q at HR q0 q1 q2 q3 q4 hsz ⊢
   refine (HR.out).mono ?_
   rintro e w5 ⟨rfl,F5,R,f, -,M5,g5,r5,e5, -, -⟩
   have HM5:=hid M5;have HG5:=hid g5;have HR5:=hid r5;have HE5:=hid (show R.entries≤12000200 by have:=HEN.out;omega)
   have q0:=cl 0 M5.2.2.2.2
   clear M5 g5 r5 e5 HR q1 q2 q3 q4
   go_wp2_with fail
   obtain ⟨⟨wo1,wo2⟩, -⟩:=HSM.out
   go_loopw [12,13] (fun s12 _ wr=>∃(k:Nat) (m2:Qb) (F2:List Nat),(k:Int)≤cv.wo∧s12=.int .i64 k∧MM wr F2 b m2 w2 [] q cv∧GI cv m2∧Gj m2∧m2.entries≤12000200+k) (fun s12 _ _=>(cv.wo - intOf s12).toNat)
   case atStart=>exact ⟨0,R,F5,by omega,rfl,HM5.out,HG5.out,HR5.out,by have:=HE5.out;omega⟩
   case round=>
    obtain ⟨k,m2,F2,hk,rfl,hM2,hg2,hr2,he2⟩:=hrel
    have q0:=cl 0 hM2.2.2.2.2
    have HM2:=hid hM2;have HG2:=hid hg2;have HR2:=hid hr2;have HE2:=hid (show m2.entries≤13000000 by omega)
    by_cases hlt:(k:Int)<cv.wo
    · have hst:=hr2 k (by rw [hg2.c];exact hlt)
      obtain ⟨P0,P00,P⟩:=Zu hg2 (w:=k) (by omega) hlt
      have P':(doV m2 (Jj k)).2=false∧Alike m2 (doV m2 (Jj k)).1:=by
       rcases P with ⟨a,b, -⟩|⟨-,a, -⟩
       · exact ⟨a,b⟩
       · exact absurd hst a
      obtain ⟨P1,P2⟩:=P'
      have PG:=hid (show GI cv (doV m2 (Jj k)).1∧Gj (doV m2 (Jj k)).1∧(doV m2 (Jj k)).1.entries≤12000200+((k+1:Nat):Int) from ⟨P0,fun j hj=>(P2.stuck j).2 (hr2 j (by rw [P2.1] at hj;exact hj)),by rw [P00];omega⟩)
      have hwl:k<m2.ws.length:=by have:=hg2.i.wl;rw [hg2.c] at this;omega
      have HS:=hid (hM2.1.state hwl)
      obtain ⟨st,hse⟩:∃st,(m2.wk k).st=st:=⟨_,rfl⟩
      rw [hse] at HS
      have hst2:st=0∨st=6:=by
       rcases hst with a|⟨a, -⟩
       · left;omega
       · right;omega
      clear hM2 hg2 hr2 he2 hst hse P P0 P00 P2 hwl
      unfold pt at HS
      go_wp2_with fail
      refine (HS.out).mono ?_
      rintro e w6 ⟨rfl,f6⟩
      have M6:=HM2.out.fr f6
      clear HM2
      have HM2:=hid M6
      have q1:=cl 0 M6.2.2.2.2
      clear M6 f6 HS
      rcases hst2 with rfl|rfl
      · have hd0:=HM2.out.do_ HG2.out.i (by have:=HE2.out;omega) HG2.out.e (by have:=HE2.out;omega) (Jj k)
        rw [P1] at hd0
        have HD:=hid (show Calls Tryz.prog 11 #[.pointer (some ⟨b.pM,0,none⟩),.agg #[.int .i64 1,.int .i64 k,.int .i64 0,.int .i64 0,.bool false,.bool false,.int .i64 0,.int .i64 0,.int .i64 0,.int .i64 0,.bool false]] _ (fun e w'=>e=.returned (.bool false)∧∃F',MM w' F' b (doV m2 (Jj k)).1 w2 [] q cv) from hd0)
        clear hd0
        go_wp2_with fail
        refine (HD.out).mono ?_
        rintro e w7 ⟨rfl,F7,M7⟩
        have HM7:=hid M7
        have q1:=cl 0 M7.2.2.2.2
        clear M7 HM2 HD
        go_wp2
        exact ⟨⟨k+1,_,F7,by omega,rfl,HM7.out,PG.out.1,PG.out.2.1,PG.out.2.2⟩,by simp [intOf]<;>omega⟩
      · have hd0:=HM2.out.do_ HG2.out.i (by have:=HE2.out;omega) HG2.out.e (by have:=HE2.out;omega) (Jj k)
        rw [P1] at hd0
        have HD:=hid (show Calls Tryz.prog 11 #[.pointer (some ⟨b.pM,0,none⟩),.agg #[.int .i64 1,.int .i64 k,.int .i64 0,.int .i64 0,.bool false,.bool false,.int .i64 0,.int .i64 0,.int .i64 0,.int .i64 0,.bool false]] _ (fun e w'=>e=.returned (.bool false)∧∃F',MM w' F' b (doV m2 (Jj k)).1 w2 [] q cv) from hd0)
        clear hd0
        go_wp2_with fail
        refine (HD.out).mono ?_
        rintro e w7 ⟨rfl,F7,M7⟩
        have HM7:=hid M7
        have q1:=cl 0 M7.2.2.2.2
        clear M7 HM2 HD
        go_wp2
        exact ⟨⟨k+1,_,F7,by omega,rfl,HM7.out,PG.out.1,PG.out.2.1,PG.out.2.2⟩,by simp [intOf]<;>omega⟩
    · have HF2:=hid hM2.2.1
      clear hM2 hg2 hr2 he2 HM2
      go_wp2
      go_ret
      exact ⟨rfl,HF1.out.trans HF2.out⟩
 · have hd0:(decide ((len:Int)≤200)&&decide ((olen:Int)≤20))=false:=by
    rw [Bool.and_eq_false_iff,decide_eq_false_iff_not,decide_eq_false_iff_not];omega
   rw [hd0]
   go_wp2
   go_ret
   exact ⟨rfl,HF1.out⟩
end
section
open Go.ChangeShapes Go.WideShapes Go.Deep Go.RowKit
section
variable {H:Type} {enc:TypeId×Value→H} {P:Program} {w:World} {base:Nat} {spare:Nat→Bool} {held:Bool}
theorem KQ {t e:TypeId} {fs:Array Field} {fuel:Nat} {cs:List Value} {x:DataW H×List MemPlace} (ht:P.underlying t=some (.slice e)) (he:P.underlying e=some (.struct fs))
 (hone:oneCellFields P fs=true) (hC:P.cellsOf e=fs.size) (h:DataW.trod enc P w base spare held fuel t cs=some x):
 cs=[.slice none 0 0]∨
 ∃(a:Addr) (len cap:Nat),cs=[.slice (some a) len cap]∧len≤cap∧cap≤maxLen∧
  ∀i,i<len→∃n,∀(j:Nat) (f:Field),fs[j]?=some f→∃(v:Value) (y:DataW H×List MemPlace),w.cell? (a.add (i*fs.size+j))=some v∧DataW.trod enc P w base spare held n f.type [v]=some y:=by
 rcases open_slice ht h with h0|⟨a,len,cap,m,n,D,Pl,hcs,hb,hl,hm,hmm,hx,hi⟩
 · exact .inl h0.1
 · refine .inr ⟨a,len,cap,hcs,hl,hm,fun i him=> ?_⟩
   obtain ⟨cs',hc,ht'⟩:=hi i (by split at hmm<;>omega)
   rw [hC] at hc
   obtain ⟨ys,n',hn',hy,hlen,hyl,hf⟩:=DataW.trod_struct he ht'
   obtain ⟨_,hcl,hat⟩:=World.cells?_some hc
   refine ⟨n',fun j f hj=> ?_⟩
   obtain ⟨ho,hk⟩:=hone_of hone j f hj
   have hjl:j<fs.size:=(Array.getElem?_eq_some_iff.1 hj).1
   have hcell:=hat j hjl
   have hv:cs'[j]?=some (cs'[j]'(by omega)):=List.getElem?_eq_getElem (by omega)
   have h1:=hf j f hj
   rw [ho,hk] at h1
   have hone':(cs'.drop j).take 1=[cs'[j]'(by omega)]:=by
    rw [List.drop_eq_getElem_cons (by omega)]
    rfl
   rw [hone'] at h1
   have hys:ys[j]?=some (ys[j]'(by omega)):=List.getElem?_eq_getElem (by omega)
   refine ⟨_,_, ?_,h1.trans hys⟩
   rw [←Go.Deep.add_add,hcell,hv]
theorem Kt {w:World} {b off:Nat} {spot:Option Nat} {n:Nat} {v:Value} (h:w.cell? ((⟨b,off,spot⟩:Addr).add n)=some v):w.cell? ⟨b,off+n,none⟩=some v:=by
 have hs:=World.cell?_spot h
 have:(⟨b,off,spot⟩:Addr).add n=⟨b,off+n,none⟩:=by
  unfold Addr.add at hs ⊢
  split
  · rename_i h0
    rw [if_pos h0] at hs
    simp only at hs
    subst hs;subst h0;rfl
  · rfl
 rw [←this];exact h
end
end
end Go.Proofs.YtgjklfmnmljilaaGreatDoor

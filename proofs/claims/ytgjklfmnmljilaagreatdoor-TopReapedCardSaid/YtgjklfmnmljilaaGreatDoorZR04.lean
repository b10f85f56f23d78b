/- A part of the proof. -/
import Derived.Test.YtgjklfmnmljilaaGreatDoorZR03
import Derived.Deep.OwnRows
import Derived.Deep.RegionHeld3
namespace Go.Proofs.YtgjklfmnmljilaaGreatDoor
set_option linter.unusedVariables false
set_option linter.unusedSimpArgs false
set_option linter.unusedSectionVars false
set_option linter.unnecessarySimpa false
set_option maxRecDepth 100000
set_option maxHeartbeats 8000000
section
open Go.RowKit
theorem VO:(Tryz.prog.info? 3).map (fun i=>(i.zero,i.size,i.bytes))=some (some (.int .i64 0),1,8):=by kernel_rfl
theorem UY (z:Value) (n:Nat):madeCells #[z] n=Array.replicate n z:=by
 apply Array.toList_inj.1
 rw [toList_madeCells_one]
 simp
theorem Q4U (T:Nat) (w:World) (n:Nat) (hn:n≤4096):
 QJ T ((w.alloc (.cells (madeCells #[.int .i64 0] n) 3)).alloc (.cells #[.slice (some ⟨w.heap.size,0,none⟩) n n,.int .i64 0] T)) (w.heap.size+1) w.heap.size (List.replicate n 0) 0:=by
 refine ⟨n,madeCells #[.int .i64 0] n, ?_, ?_,Lc,by unfold maxLen;omega,size_madeCells _ _,fun j v hv=> ?_,Lb⟩
 · have h:=heap_alloc_new (w.alloc (.cells (madeCells #[.int .i64 0] n) 3)) (.cells #[.slice (some ⟨w.heap.size,0,none⟩) n n,.int .i64 0] T)
   rw [World.size_alloc] at h
   simpa using h
 · exact Qh (heap_alloc_new w _) _
 · rw [UY]
   rw [List.getElem?_replicate] at hv
   rw [Array.getElem?_replicate]
   split at hv
   · rename_i hlt;rw [if_pos hlt];simp at hv;rw [←hv]
   · cases hv
theorem new_ok (n:Nat) (w:World) (h1:1≤n) (h2:n≤4096):
 Calls Tryz.prog 48 #[.int .i64 n] w fun e w'=>e=.returned (.tuple #[.pointer (some ⟨w.heap.size+1,0,none⟩),.int .i64 0])∧Left 112 (w.heap.size+1) w.heap.size (List.replicate n 0) 0 w w':=by
 have hmk:=run_make_row' (P:=Tryz.prog) 44 3 (.int .i64 0) 8 Tryz.underlying44 VO rfl .i64 .i64 n Lb Lb
 have H:=Q4U 112 w n h2
 have d1:decide ((n:Int)<1)=false:=by simp;omega
 have d2:decide (4096<(n:Int))=false:=by simp;omega
 go_in
 go_wp2
 go_ret2
 exact ⟨rfl,H,((Fr.refl _ _).alloc _).alloc _⟩
theorem Q8K (n:Int) (w:World) (h1:1≤n) (h2:n≤4096):
 Calls Tryz.prog 48 #[.int .i64 n] w fun e w'=>∃p q,e=.returned (.tuple #[.pointer (some ⟨p,0,none⟩),.int .i64 0])∧w.heap.size≤p∧w.heap.size≤q∧QJ 112 w' p q (List.replicate n.toNat 0) 0∧Fr [] w w':=by
 obtain ⟨k,rfl⟩:=Int.eq_ofNat_of_zero_le (show 0≤n by omega)
 refine (new_ok k w Lb Lb).mono fun e w' ⟨he,hm,hf⟩=>⟨_,_,he,Lb,Lb,hm, ?_⟩
 exact hf.drop (fun j hj=>by simp at hj;right;omega)
theorem JQ.news {T:Nat} {w:World} {p q cap:Nat} {cur:Array Value} {L:List Int} {t:Int} (h:JQ T w p q cap cur L t):
 ∀j u,(L.map (Value.int .i64))[j]?=some u→w.cell? ((⟨q,0,none⟩:Addr).add j)=some u:=by
 intro j u hu
 rw [List.getElem?_map] at hu
 cases hL:L[j]? with
 |none=>rw [hL] at hu;cases hu
 |some v=>
  rw [hL] at hu
  simp only [Option.map_some,Option.some.injEq] at hu
  subst hu
  have hadd:(⟨q,0,none⟩:Addr).add j=⟨q,j,none⟩:=by unfold Addr.add;split<;>simp_all
  rw [hadd];exact h.cq hL
theorem Q6U (L:List Int):∀u∈L.map (Value.int .i64),u.oneCell'=true:=by
 intro u hu
 obtain ⟨v,_,rfl⟩:=List.mem_map.1 hu
 rfl
theorem Q30 (q n cap:Nat) (L:List Int) (w:World) (hL:L.length=n) (hn:n*8≤140737488355328) (hq:q<w.heap.size)
 (hnews:∀j u,(L.map (Value.int .i64))[j]?=some u→w.cell? ((⟨q,0,none⟩:Addr).add j)=some u):
 Calls Tryz.prog 46 #[.slice (some ⟨q,0,none⟩) n cap] w fun e w'=>∃g c,e=.returned (.slice (some ⟨g,0,none⟩) n c)∧w'.ownsRow w.heap.size 3 1 (.slice (some ⟨g,0,none⟩) n c) n (L.map (Value.int .i64))∧Fr [] w w':=by
 obtain ⟨i0,hi,hz0,hz1,hz2⟩:=info_parts VO
 have hnil:=fun (wx:World)=>Lib.run_eql_slice_nil (P:=Tryz.prog) wx 44 3 (some ⟨q,0,none⟩) n cap 0 0 Tryz.underlying44
 have hown:=World.ownsRow_lit (w:=w) (base:=w.heap.size) (e:=3) (size:=1) #[] 0 (Nat.le_refl _) (by unfold maxLen;omega) rfl
 have hnews':∀j u,(L.map (Value.int .i64))[j]?=some u→(w.alloc (.cells #[] 3)).cell? ((⟨q,0,none⟩:Addr).add j)=some u:=by
  intro j u hu
  have:=hnews j u hu
  have hb:((⟨q,0,none⟩:Addr).add j).block=q:=by unfold Addr.add;split<;>rfl
  rw [←this]
  exact World.cell?_of_block (w:=w) (Below.heap_alloc _ _ _ (by rw [hb];exact hq))
 have Hn:=Lib.hid hnews;clear hnews
 have Hn':=Lib.hid hnews';clear hnews'
 have HL:=Lib.hid hL;clear hL
 go_in
 go_wp2_with (first|(at_builtin;refine wpList_append_own _ rfl _ _ 44 rfl w.heap.size 3 i0 (.int .i64 0) 1 8 Tryz.underlying44 hi hz0 hz1 hz2 rfl (by decide) _ _ _ rfl hown ⟨q,0,none⟩ n cap (L.map (Value.int .i64)) rfl ?c0 Hn'.out (Q6U L) ?c3 ?c4 ?c5 ?c6))
 case c0=>simp [HL.out]
 case c3=>unfold maxLen;omega
 case c6=>
  intro v' w1 hown1 hgrow hnl
  have hfr:Fr [] w w1:=((Fr.refl [] w).alloc (.cells #[] 3)).grown hgrow (fun k hk=>by simp [Value.ownBlock] at hk;right;omega)
  obtain ⟨g,c,rfl⟩:∃g c,v'=.slice (some ⟨g,0,none⟩) n c:=by
   rcases hown1.2 with ⟨h1,_⟩|⟨g,c,_,h1,_⟩
   · exact absurd h1 hnl
   · exact ⟨g,c,h1⟩
  clear hnl
  go_wp2
  go_ret
  exact ⟨g,c,rfl,hown1,hfr⟩
theorem Dc (w:World) (p q:Nat) (L:List Int) (t:Int) (hM:QJ 112 w p q L t) (hb:L.length≤10000):
 Calls Tryz.prog 30 #[.pointer (some ⟨p,0,none⟩)] w fun e w'=>∃g c,e=.returned (.slice (some ⟨g,0,none⟩) L.length c)∧w'.ownsRow w.heap.size 3 1 (.slice (some ⟨g,0,none⟩) L.length c) L.length (L.map (Value.int .i64))∧Fr [] w w':=by
 obtain ⟨cap,cur,h⟩:=hM
 have c0:=h.c0
 have K:=Q30 q L.length cap L w rfl Lb h.qlt h.news
 have HK:=Lib.hid K;clear K
 go_in
 go_wp2_with fail
 refine HK.out.mono ?_
 rintro e w1 ⟨g,c,rfl,hown,hfr⟩
 go_wp2
 go_ret
 exact ⟨g,c,rfl,hown,hfr⟩
def isIn (L:List Int) (i:Int):Bool:=decide (0≤i∧i<L.length)
def Q6 (L:List Int) (i:Int):Int:=if isIn L i then L.getD i.toNat 0 else 0
def tch (L:List Int) (i:Int):Int:=if isIn L i then 1 else 0
def Qp (L:List Int) (i v:Int):List Int:=if isIn L i then L.set i.toNat v else L
def Qx (L:List Int) (i o:Int):Bool:=isIn L i&&decide (L.getD i.toNat 0=o)
def QI (L:List Int) (i o n:Int):List Int:=if Qx L i o then L.set i.toNat n else L
def VU (L:List Int) (i d:Int):List Int:=if isIn L i then L.set i.toNat (wrap64 (L.getD i.toNat 0+d)) else L
theorem Jf {L:List Int} {i:Int} (h0:0≤i) (h1:i<L.length):isIn L i=true:=by simp [isIn];omega
theorem Yv {L:List Int} {i:Int} (h:i<0):isIn L i=false:=by simp [isIn];omega
theorem K5 {L:List Int} {i:Int} (h:(L.length:Int)≤i):isIn L i=false:=by simp [isIn];omega
theorem KI (L:List Int) (i:Int):(i<0)∨(0≤i∧(L.length:Int)≤i)∨(0≤i∧i<L.length):=Lb
theorem Q3c (L:List Int) (i:Int):0≤tch L i∧tch L i≤1:=by unfold tch;split<;>omega
theorem UZ (L:List Int) (i v:Int):(Qp L i v).length=L.length:=by unfold Qp;split<;>simp
theorem XG (w:World) (p q:Nat) (L:List Int) (t i:Int) (hM:QJ 112 w p q L t) (ht0:0≤t) (ht1:t<4611686018427387904):
 Calls Tryz.prog 44 #[.pointer (some ⟨p,0,none⟩),.int .i64 i] w fun e w'=>e=.returned (.int .i64 (Q6 L i))∧Left 112 p q (L) (t+tch L i) w w':=by
 rcases KI L i with h|⟨h0,h⟩|⟨h0,h1⟩
 · simpa [Q6,tch,Yv h] using YV w p q L t i hM h
 · simpa [Q6,tch,K5 h] using Q4W w p q L t i hM h0 h
 · simpa [Q6,tch,Jf h0 h1] using Q8S w p q L t i hM ht0 ht1 h0 h1
theorem Dj (w:World) (p q:Nat) (L:List Int) (t i v:Int) (hM:QJ 112 w p q L t) (ht0:0≤t) (ht1:t<4611686018427387904):
 Calls Tryz.prog 45 #[.pointer (some ⟨p,0,none⟩),.int .i64 i,.int .i64 v] w fun e w'=>e=.returned (.bool (isIn L i))∧Left 112 p q (Qp L i v) (t+tch L i) w w':=by
 rcases KI L i with h|⟨h0,h⟩|⟨h0,h1⟩
 · simpa [Qp,tch,Yv h] using Q48 w p q L t i v hM h
 · simpa [Qp,tch,K5 h] using Q20 w p q L t i v hM h0 h
 · simpa [Qp,tch,Jf h0 h1] using Q62 w p q L t i v hM ht0 ht1 h0 h1
theorem Vm (w:World) (p q:Nat) (L:List Int) (t i o n:Int) (hM:QJ 112 w p q L t) (ht0:0≤t) (ht1:t<4611686018427387904):
 Calls Tryz.prog 159 #[.pointer (some ⟨p,0,none⟩),.int .i64 i,.int .i64 o,.int .i64 n] w fun e w'=>e=.returned (.bool (Qx L i o))∧Left 112 p q (QI L i o n) (t+tch L i) w w':=by
 rcases KI L i with h|⟨h0,h⟩|⟨h0,h1⟩
 · simpa [QI,Qx,tch,Yv h] using Q9d w p q L t i o n hM h
 · simpa [QI,Qx,tch,K5 h] using Q7m w p q L t i o n hM h0 h
 · by_cases hv:L.getD i.toNat 0=o
   · have hc:Qx L i o=true:=by unfold Qx;rw [Jf h0 h1,hv];simp
     simpa [QI,hc,tch,Jf h0 h1] using Q9c w p q L t i o n hM ht0 ht1 h0 h1 (by rw [hv];simp)
   · have hc:Qx L i o=false:=by unfold Qx;rw [Jf h0 h1];simpa using hv
     simpa [QI,hc,tch,Jf h0 h1] using cas_no w p q L t i o n hM ht0 ht1 h0 h1 (by simpa using hv)
structure Q0 where
 wo:Int
 sl:Int
 st:Int
 wa:Int
 us:Int
def Q0.val (c:Q0):Value:=.agg #[.int .i64 c.wo,.int .i64 c.sl,.int .i64 c.st,.int .i64 c.wa,.int .i64 c.us]
def Q0.small (c:Q0):Prop:=(1≤c.wo∧c.wo≤4)∧(1≤c.sl∧c.sl≤5)∧(0≤c.st∧c.st≤3)∧(0≤c.wa∧c.wa≤3)∧(1≤c.us∧c.us≤4)
def Q0.cells (c:Q0):Int:=3+2*c.wo+c.sl
def Q0.slot (c:Q0) (i:Int):Int:=3+2*c.wo+i
theorem ZT (w:World) (a n b:Int) (h1:a≤n) (h2:n≤b):Calls Tryz.prog 47 #[.int .i64 a,.int .i64 n,.int .i64 b] w fun e w'=>e=.returned (.bool true)∧w'=w:=by
 go_in
 go_wp2
 go_ret
 exact ⟨rfl,rfl⟩
theorem Dl (w:World) (c:Q0) (i:Int) (hc:c.small) (h0:0≤i) (h1:i<c.sl):Calls Tryz.prog 22 #[c.val,.int .i64 i] w fun e w'=>e=.returned (.int .i64 (c.slot i))∧Fr [] w w':=by
 obtain ⟨wo,sl,st,wa,us⟩:=c
 obtain ⟨⟨a0,a1⟩,⟨b0,b1⟩, -⟩:=hc
 unfold Q0.val Q0.slot
 simp only at a0 a1 b0 b1 h1
 have hfr:=(Fr.refl [] w).alloc (.cells #[.int .i64 wo,.int .i64 sl,.int .i64 st,.int .i64 wa,.int .i64 us] 30)
 have HF:=Lib.hid hfr;clear hfr
 have HW:=Lib.hid (show 3+wo+wo+i=3+2*wo+i by omega)
 go_in
 go_wp2
 go_ret
 exact ⟨by rw [←HW.out];rfl,HF.out⟩
theorem Ua (w:World) (c:Q0) (hc:c.small):Calls Tryz.prog 20 #[c.val] w fun e w'=>e=.returned (.int .i64 c.cells)∧Fr [] w w':=by
 obtain ⟨cc,hcc⟩:∃cc,cc=c:=⟨c,rfl⟩
 have HSM:=Lib.hid hc
 obtain ⟨wo,sl,st,wa,us⟩:=c
 obtain ⟨⟨a0,a1⟩,⟨b0,b1⟩, -⟩:=hc
 simp only at a0 a1 b0 b1
 have hfr:=(Fr.refl [] w).alloc (.cells #[.int .i64 wo,.int .i64 sl,.int .i64 st,.int .i64 wa,.int .i64 us] 30)
 have HF:=Lib.hid hfr
 have hs:=fun W:World=>Dl W ⟨wo,sl,st,wa,us⟩ (sl - 1) HSM.out Lb (by show sl - 1<sl;omega)
 have HS:=Lib.hid hs;clear hfr hs hcc
 unfold Q0.val Q0.cells
 have hw:3+2*wo+(sl - 1)+1=3+2*wo+sl:=Lb
 have HW:=Lib.hid hw;clear hw
 go_in
 go_wp2_with fail
 refine (HS.out _).mono ?_
 unfold Q0.slot
 rintro e w1 ⟨rfl,f1⟩
 go_wp2
 go_ret
 exact ⟨by rw [←HW.out];rfl,HF.out.trans f1⟩
theorem Q4p (w:World) (a b c d e:Int) (ha:0≤a∧a≤255) (hb:0≤b∧b≤255) (hc:0≤c∧c≤255) (hd:0≤d∧d≤255) (he:0≤e∧e≤255):
 Calls Tryz.prog 16 #[.agg #[.int .u8 a,.int .u8 b,.int .u8 c,.int .u8 d,.int .u8 e]] w fun en w'=>∃cv:Q0,en=.returned cv.val∧cv.small∧Fr [] w w':=by
 obtain ⟨a0,a1⟩:=ha
 obtain ⟨b0,b1⟩:=hb
 obtain ⟨c0,c1⟩:=hc
 obtain ⟨d0,d1⟩:=hd
 obtain ⟨e0,e1⟩:=he
 go_in
 go_wp2
 have hbk:=heap_alloc_new (w.alloc (.cells #[.int .u8 a,.int .u8 b,.int .u8 c,.int .u8 d,.int .u8 e] 23)) (.cells #[.int .i64 (1+a % 4),.int .i64 (1+b % 5),.int .i64 (c % 4),.int .i64 (d % 4),.int .i64 (1+e % 4)] 30)
 have hfr:=((Fr.refl [] w).alloc (.cells #[.int .u8 a,.int .u8 b,.int .u8 c,.int .u8 d,.int .u8 e] 23)).alloc (.cells #[.int .i64 (1+a % 4),.int .i64 (1+b % 5),.int .i64 (c % 4),.int .i64 (d % 4),.int .i64 (1+e % 4)] 30)
 rw [World.size_alloc] at hbk
 generalize (w.alloc (.cells #[.int .u8 a,.int .u8 b,.int .u8 c,.int .u8 d,.int .u8 e] 23)).alloc (.cells #[.int .i64 (1+a % 4),.int .i64 (1+b % 5),.int .i64 (c % 4),.int .i64 (d % 4),.int .i64 (1+e % 4)] 30)=W at hbk hfr ⊢
 have m0:W.cell? ⟨w.heap.size+1,0,none⟩=some (.int .i64 (1+a % 4)):=cell_of hbk rfl
 have m1:W.cell? ⟨w.heap.size+1,1,none⟩=some (.int .i64 (1+b % 5)):=cell_of hbk rfl
 have m2:W.cell? ⟨w.heap.size+1,2,none⟩=some (.int .i64 (c % 4)):=cell_of hbk rfl
 have m3:W.cell? ⟨w.heap.size+1,3,none⟩=some (.int .i64 (d % 4)):=cell_of hbk rfl
 have m4:W.cell? ⟨w.heap.size+1,4,none⟩=some (.int .i64 (1+e % 4)):=cell_of hbk rfl
 refine bodyPost_ret (v:=Q0.val ⟨1+a % 4,1+b % 5,c % 4,d % 4,1+e % 4⟩) ?_ rfl ⟨⟨1+a % 4,1+b % 5,c % 4,d % 4,1+e % 4⟩,rfl,⟨⟨by show 1≤1+a % 4;omega,by show 1+a % 4≤4;omega⟩,⟨by show 1≤1+b % 5;omega,by show 1+b % 5≤5;omega⟩,⟨by show 0≤c % 4;omega,by show c % 4≤3;omega⟩,⟨by show 0≤d % 4;omega,by show d % 4≤3;omega⟩,⟨by show 1≤1+e % 4;omega,by show 1+e % 4≤4;omega⟩⟩,hfr⟩
 simp [results,Tryz.f16,go_sem,m0,m1,m2,m3,m4]
 rfl
inductive QSt where
 |come|push|closed|look|drop|head|pop|tell|done
def QSt.val (p:Nat):QSt→Value
 |.come=>.func (.func 234) #[.pointer (some ⟨p,0,none⟩)] #[]
 |.push=>.func (.func 259) #[.pointer (some ⟨p,0,none⟩)] #[]
 |.closed=>.func (.func 269) #[.pointer (some ⟨p,0,none⟩)] #[]
 |.look=>.func (.func 122) #[.pointer (some ⟨p,0,none⟩)] #[]
 |.drop=>.func (.func 198) #[.pointer (some ⟨p,0,none⟩)] #[]
 |.head=>.func (.func 217) #[.pointer (some ⟨p,0,none⟩)] #[]
 |.pop=>.func (.func 251) #[.pointer (some ⟨p,0,none⟩)] #[]
 |.tell=>.func (.func 267) #[.pointer (some ⟨p,0,none⟩)] #[]
 |.done=>.nilFunc
structure QuS where
 w:Int
 line:List Int
 first:Int
 nx:QSt
 why:Int
 e:Int
def Jd (w:World) (p:Nat) (c:Q0) (s:QuS):Prop:=
 w.heap[p]?=some (.cells #[.int .i64 c.wo,.int .i64 c.sl,.int .i64 c.st,.int .i64 c.wa,.int .i64 c.us,.int .i64 s.w,.int .i64 (wd s.line:Int),.int .i64 s.first,s.nx.val p,.int .i64 s.why,.int .i64 s.e] 180)
theorem YS (w:World) (p:Nat) (c:Q0) (s:QuS) (e:Int) (h:Jd w p c s):
 Calls Tryz.prog 197 #[.pointer (some ⟨p,0,none⟩),.int .i64 e] w fun en w'=>en=.returned .nilFunc∧Jd w' p c {s with e:=e}∧Fr [p] w w':=by
 have q10:w.cell? ⟨p,10,none⟩=some (.int .i64 s.e):=cell_of h rfl
 have f10:=Qb (i:=10) h
 have hb:=heap_setCell_same (i:=10) h (.int .i64 e)
 simp only [List.setIfInBounds_toArray,List.set_cons_zero,List.set_cons_succ] at hb
 have HB:=Lib.hid (show Jd (w.setCell ⟨p,10,none⟩ (.int .i64 e)) p c {s with e:=e} from hb)
 have HF:=Lib.hid ((Fr.refl [p] w).sc p 10 (.int .i64 e))
 clear h hb
 go_in
 go_wp2
 go_ret
 exact ⟨rfl,HB.out,HF.out⟩
def JH (w:World) (p pm qm:Nat) (c:Q0) (s':QuS) (nx:QSt) (M':List Int) (t':Int) (en:Ending) (w':World):Prop:=
 en=.returned (nx.val p)∧Jd w' p c s'∧QJ 112 w' pm qm M' t'∧Fr [p,pm,qm] w w'
theorem Jd.fr {w w':World} {p:Nat} {c:Q0} {s:QuS} (h:Jd w p c s) {S:List Nat} (f:Fr S w w') (hp:p∉S):Jd w' p c s:=f.at h hp
theorem Z0w {P:Prop} (h:P:=by
 simp only [List.setIfInBounds_toArray,List.set_cons_zero,List.set_cons_succ] at hb
 exact hb):P:=h
theorem Jd.Vb {w:World} {p:Nat} {c:Q0} {s:QuS} (h:Jd w p c s) (L:List Int):Jd (w.setCell ⟨p,6,none⟩ (.int .i64 (wd L:Int))) p c {s with line:=L}:=by
 have hb:=heap_setCell_same (i:=6) h (.int .i64 (wd L:Int))
 exact Z0w
theorem Q6Q (w:World) (p pm qm:Nat) (c:Q0) (s:QuS) (M:List Int) (t:Int) (Q:List Int) (h:Jd w p c s) (hM:QJ 112 w pm qm M t) (ht0:0≤t) (ht1:t≤1000000000) (hp:p≠pm∧p≠qm) (hQ:Ln Q) (hl:Q6 M 1=(wd Q:Int)):
 Calls Tryz.prog 122 #[.pointer (some ⟨p,0,none⟩),.pointer (some ⟨pm,0,none⟩)] w
  (JH w p pm qm c (if s.w∈Q then {s with line:=Q} else {s with line:=Q,e:=8}) (if s.w∈Q then .drop else .done) M (t+tch M 1)):=by
 by_cases hin:s.w∈Q
 · rw [if_pos hin,if_pos hin]
   have HIN:=Lib.hid hin
   clear hin
   have hld:=XG w pm qm M t 1 hM ht0 Lb
   rw [hl] at hld
   have HLD:=Lib.hid hld;have H:=Lib.hid h;have HP:=Lib.hid hp
   clear hld h hM hl
   go_in
   go_wp2_with fail
   refine HLD.out.mono ?_
   rintro en w1 ⟨rfl,hm1,f1⟩
   have h1:=H.out.fr f1 (by simp;exact HP.out)
   have q6:=cell_of (i:=6) h1 rfl
   have z6:=Qb (i:=6) h1
   have h2:=h1.Vb Q
   have HM1:=Lib.hid hm1;have HF1:=Lib.hid f1;have H2:=Lib.hid h2
   have HM2:=Lib.hid (hm1.fr ((Fr.refl [p] w1).setCell (p:=⟨p,6,none⟩) (.inl Lc) (.int .i64 (wd Q:Int))) (by simp;exact Ne.symm HP.out.1) (by simp;exact Ne.symm HP.out.2))
   have HF2:=Lib.hid (((f1.mono (S':=[p,pm,qm]) (by simp+contextual)).setCell (p:=⟨p,6,none⟩) (.inl Lc) (.int .i64 (wd Q:Int))))
   clear h1 hm1 f1 h2
   go_wp2_with fail
   have r6:=cell_of (i:=6) H2.out rfl
   have r5:=cell_of (i:=5) H2.out rfl
   generalize w1.setCell ⟨p,6,none⟩ (.int .i64 (wd Q:Int))=w2 at H2 HM2 HF2 r6 r5 ⊢
   have HHAS:=Lib.hid (Q1d w2.drew Q s.w hQ)
   rw [decide_eq_true HIN.out] at HHAS
   go_region_held3 (fun w'=>w'.cell? ⟨p,6,none⟩=some (.int .i64 (wd Q:Int))∧w'.cell? ⟨p,5,none⟩=some (.int .i64 s.w)) (first|go_keep|exact ⟨f3.cell r6 Lc,f3.cell r5 Lc⟩)
    (first|(go_at_call 196;refine HHAS.out.mono ?_;rintro en w3 ⟨rfl,f3⟩))
   have HE:=Lib.hid (show JH w p pm qm c {s with line:=Q} .drop M (t+tch M 1) (.returned (QSt.drop.val p)) w3 from ⟨rfl,H2.out.fr ((Fr.refl [] w2).drew.trans f3) Lc,HM2.out.fr ((Fr.refl [] w2).drew.trans f3) Lc Lc,HF2.out.trans (((Fr.refl [] w2).drew.trans f3).mono Lc)⟩)
   go_wp2
   go_ret
   exact HE.out
 · rw [if_neg hin,if_neg hin]
   have HIN:=Lib.hid hin
   clear hin
   have hld:=XG w pm qm M t 1 hM ht0 Lb
   rw [hl] at hld
   have HLD:=Lib.hid hld;have H:=Lib.hid h;have HP:=Lib.hid hp
   clear hld h hM hl
   go_in
   go_wp2_with fail
   refine HLD.out.mono ?_
   rintro en w1 ⟨rfl,hm1,f1⟩
   have h1:=H.out.fr f1 (by simp;exact HP.out)
   have q6:=cell_of (i:=6) h1 rfl
   have z6:=Qb (i:=6) h1
   have h2:=h1.Vb Q
   have HM1:=Lib.hid hm1;have HF1:=Lib.hid f1;have H2:=Lib.hid h2
   have HM2:=Lib.hid (hm1.fr ((Fr.refl [p] w1).setCell (p:=⟨p,6,none⟩) (.inl Lc) (.int .i64 (wd Q:Int))) (by simp;exact Ne.symm HP.out.1) (by simp;exact Ne.symm HP.out.2))
   have HF2:=Lib.hid (((f1.mono (S':=[p,pm,qm]) (by simp+contextual)).setCell (p:=⟨p,6,none⟩) (.inl Lc) (.int .i64 (wd Q:Int))))
   clear h1 hm1 f1 h2
   go_wp2_with fail
   have r6:=cell_of (i:=6) H2.out rfl
   have r5:=cell_of (i:=5) H2.out rfl
   generalize w1.setCell ⟨p,6,none⟩ (.int .i64 (wd Q:Int))=w2 at H2 HM2 HF2 r6 r5 ⊢
   have HHAS:=Lib.hid (Q1d w2.drew Q s.w hQ)
   rw [decide_eq_false HIN.out] at HHAS
   go_region_held3 (fun w'=>w'.cell? ⟨p,6,none⟩=some (.int .i64 (wd Q:Int))∧w'.cell? ⟨p,5,none⟩=some (.int .i64 s.w)) (first|go_keep|exact ⟨f3.cell r6 Lc,f3.cell r5 Lc⟩)
    (first|(go_at_call 196;refine HHAS.out.mono ?_;rintro en w3 ⟨rfl,f3⟩))
   have f23:=(Fr.refl [] w2).drew.trans f3
   have HE3:=Lib.hid (YS w3 p c {s with line:=Q} 8 (H2.out.fr f23 Lc))
   have HM3:=Lib.hid (HM2.out.fr f23 Lc Lc);have HF3:=Lib.hid (HF2.out.trans (f23.mono Lc))
   clear f23 f3
   go_wp2_with fail
   refine HE3.out.mono ?_
   rintro en w4 ⟨rfl,h4,f4⟩
   have HE:=Lib.hid (show JH w p pm qm c {s with line:=Q,e:=8} .done M (t+tch M 1) (.returned .nilFunc) w4 from ⟨rfl,h4,HM3.out.fr f4 (by simp;exact Ne.symm HP.out.1) (by simp;exact Ne.symm HP.out.2),HF3.out.trans (f4.mono Lc)⟩)
   clear h4 f4
   go_wp2
   go_ret
   exact HE.out
theorem Jd.setWhy {w:World} {p:Nat} {c:Q0} {s:QuS} (h:Jd w p c s) (e:Int):Jd (w.setCell ⟨p,9,none⟩ (.int .i64 e)) p c {s with why:=e}:=by
 have hb:=heap_setCell_same (i:=9) h (.int .i64 e)
 exact Z0w
theorem Jd.Q69 {w:World} {p:Nat} {c:Q0} {s:QuS} (h:Jd w p c s) (e:Int):Jd (w.setCell ⟨p,7,none⟩ (.int .i64 e)) p c {s with first:=e}:=by
 have hb:=heap_setCell_same (i:=7) h (.int .i64 e)
 exact Z0w
theorem Jd.Gw {w:World} {p:Nat} {c:Q0} {s:QuS} (h:Jd w p c s) (n:QSt):Jd (w.setCell ⟨p,8,none⟩ (n.val p)) p c {s with nx:=n}:=by
 have hb:=heap_setCell_same (i:=8) h (n.val p)
 exact Z0w
theorem Gy (w:World) (p pm qm:Nat) (c:Q0) (s:QuS) (M:List Int) (t:Int) (h:Jd w p c s) (hM:QJ 112 w pm qm M t) (ht0:0≤t) (ht1:t≤1000000000) (hp:p≠pm∧p≠qm):
 Calls Tryz.prog 269 #[.pointer (some ⟨p,0,none⟩),.pointer (some ⟨pm,0,none⟩)] w
  (JH w p pm qm c (if Q6 M 0=0 then {s with e:=0} else {s with why:=5}) (if Q6 M 0=0 then .done else .look) M (t+tch M 0)):=by
 by_cases h0:Q6 M 0=0
 · rw [if_pos h0,if_pos h0]
   have HLD:=Lib.hid (XG w pm qm M t 0 hM ht0 Lb)
   have H:=Lib.hid h;have HP:=Lib.hid hp
   clear h hM
   go_in
   go_wp2_with fail
   refine HLD.out.mono ?_
   rintro en w1 ⟨rfl,hm1,f1⟩
   have H1:=Lib.hid (H.out.fr f1 (by simp;exact HP.out))
   have HM1:=Lib.hid hm1;have HF1:=Lib.hid (f1.mono (S':=[p,pm,qm]) (by simp+contextual))
   clear hm1 f1
   have HE:=Lib.hid (YS w1 p c s 0 H1.out)
   rw [h0]
   go_wp2_with fail
   refine HE.out.mono ?_
   rintro en w4 ⟨rfl,h4,f4⟩
   have HQ:=Lib.hid (show JH w p pm qm c {s with e:=0} .done M (t+tch M 0) (.returned .nilFunc) w4 from ⟨rfl,h4,HM1.out.fr f4 (by simp;exact Ne.symm HP.out.1) (by simp;exact Ne.symm HP.out.2),HF1.out.trans (f4.mono Lc)⟩)
   clear h4 f4
   go_wp2
   go_ret
   exact HQ.out
 · rw [if_neg h0,if_neg h0]
   have HLD:=Lib.hid (XG w pm qm M t 0 hM ht0 Lb)
   have H:=Lib.hid h;have HP:=Lib.hid hp
   clear h hM
   go_in
   go_wp2_with fail
   refine HLD.out.mono ?_
   rintro en w1 ⟨rfl,hm1,f1⟩
   have H1:=Lib.hid (H.out.fr f1 (by simp;exact HP.out))
   have HM1:=Lib.hid hm1;have HF1:=Lib.hid (f1.mono (S':=[p,pm,qm]) (by simp+contextual))
   clear hm1 f1
   have q9:=cell_of (i:=9) H1.out rfl
   have z9:=Qb (i:=9) H1.out
   have HQ:=Lib.hid (show JH w p pm qm c {s with why:=5} .look M (t+tch M 0) (.returned (QSt.look.val p)) (w1.setCell ⟨p,9,none⟩ (.int .i64 5)) from ⟨rfl,H1.out.setWhy 5,HM1.out.fr ((Fr.refl [p] w1).setCell (p:=⟨p,9,none⟩) (.inl Lc) _) (by simp;exact Ne.symm HP.out.1) (by simp;exact Ne.symm HP.out.2),HF1.out.setCell (p:=⟨p,9,none⟩) (.inl Lc) _⟩)
   go_wp2
   go_ret
   exact HQ.out
theorem Dm (w:World) (p pm qm:Nat) (c:Q0) (s:QuS) (M:List Int) (t:Int) (h:Jd w p c s) (hM:QJ 112 w pm qm M t) (ht0:0≤t) (ht1:t≤1000000000) (hp:p≠pm∧p≠qm) (hL:Ln s.line):
 Calls Tryz.prog 259 #[.pointer (some ⟨p,0,none⟩),.pointer (some ⟨pm,0,none⟩)] w
  (JH w p pm qm c (if Ln (s.line++[s.w])∧Qx M 1 (wd s.line)=true then s else s) (if Ln (s.line++[s.w])∧Qx M 1 (wd s.line)=true then .closed else .come) (if Ln (s.line++[s.w]) then QI M 1 (wd s.line) (wd (VD s.line s.w):Int) else M) (if Ln (s.line++[s.w]) then t+tch M 1 else t)):=by
 by_cases hok:Ln (s.line++[s.w])
 · have HOKD:=Lib.hid (show decide (Ln (s.line++[s.w]))=true from decide_eq_true hok)
   by_cases hcs:Qx M 1 (wd s.line)=true
   · rw [if_pos ⟨hok,hcs⟩,if_pos ⟨hok,hcs⟩,if_pos hok,if_pos hok]
     have HCS:=Lib.hid (show Qx M 1 (wd s.line)=true from hcs)
     clear hok hcs
     have q6:=cell_of (i:=6) h rfl
     have q5:=cell_of (i:=5) h rfl
     have HC:=Lib.hid (Q2j w.drew s.line s.w hL)
     have H:=Lib.hid h;have HP:=Lib.hid hp;have HM:=Lib.hid hM
     clear h hM
     go_in
     go_wp2_with fail
     go_region_held3 (fun w'=>w'.cell? ⟨p,6,none⟩=some (.int .i64 (wd s.line:Int))∧w'.cell? ⟨p,5,none⟩=some (.int .i64 s.w)) (first|go_keep|exact ⟨f3.cell q6 Lc,f3.cell q5 Lc⟩)
      (first|(go_at_call 268;refine HC.out.mono ?_;rintro en w3 ⟨rfl,f3⟩;rw [HOKD.out]))
     have F3:=(Fr.refl [] w).drew.trans f3
     have H3:=Lib.hid (H.out.fr F3 Lc);have HM3:=Lib.hid (HM.out.fr F3 Lc Lc);have HF3:=Lib.hid (F3.mono (S':=[p,pm,qm]) Lc)
     have r6:=F3.cell q6 Lc
     clear q6 q5 f3 F3
     have hcas:=Vm w3 pm qm M t 1 (wd s.line) (wd (VD s.line s.w):Int) HM3.out ht0 Lb
     rw [HCS.out] at hcas
     have HCAS:=Lib.hid hcas
     clear hcas
     go_wp2_with fail
     refine HCAS.out.mono ?_
     rintro en w4 ⟨rfl,hm4,f4⟩
     have H4:=Lib.hid (H3.out.fr f4 (by simp;exact HP.out));have HM4:=Lib.hid hm4;have HF4:=Lib.hid (HF3.out.trans (f4.mono (S':=[p,pm,qm]) (by simp+contextual)))
     clear r6 hm4 f4
     have HQ:=Lib.hid (show JH w p pm qm c s .closed _ _ (.returned (QSt.val p .closed)) w4 from ⟨rfl,H4.out,HM4.out,HF4.out⟩)
     go_wp2
     go_ret
     exact HQ.out
   · rw [if_neg (fun e=>hcs e.2),if_neg (fun e=>hcs e.2),if_pos hok,if_pos hok]
     have HCS:=Lib.hid (show Qx M 1 (wd s.line)=false from (by simpa using hcs))
     clear hok hcs
     have q6:=cell_of (i:=6) h rfl
     have q5:=cell_of (i:=5) h rfl
     have HC:=Lib.hid (Q2j w.drew s.line s.w hL)
     have H:=Lib.hid h;have HP:=Lib.hid hp;have HM:=Lib.hid hM
     clear h hM
     go_in
     go_wp2_with fail
     go_region_held3 (fun w'=>w'.cell? ⟨p,6,none⟩=some (.int .i64 (wd s.line:Int))∧w'.cell? ⟨p,5,none⟩=some (.int .i64 s.w)) (first|go_keep|exact ⟨f3.cell q6 Lc,f3.cell q5 Lc⟩)
      (first|(go_at_call 268;refine HC.out.mono ?_;rintro en w3 ⟨rfl,f3⟩;rw [HOKD.out]))
     have F3:=(Fr.refl [] w).drew.trans f3
     have H3:=Lib.hid (H.out.fr F3 Lc);have HM3:=Lib.hid (HM.out.fr F3 Lc Lc);have HF3:=Lib.hid (F3.mono (S':=[p,pm,qm]) Lc)
     have r6:=F3.cell q6 Lc
     clear q6 q5 f3 F3
     have hcas:=Vm w3 pm qm M t 1 (wd s.line) (wd (VD s.line s.w):Int) HM3.out ht0 Lb
     rw [HCS.out] at hcas
     have HCAS:=Lib.hid hcas
     clear hcas
     go_wp2_with fail
     refine HCAS.out.mono ?_
     rintro en w4 ⟨rfl,hm4,f4⟩
     have H4:=Lib.hid (H3.out.fr f4 (by simp;exact HP.out));have HM4:=Lib.hid hm4;have HF4:=Lib.hid (HF3.out.trans (f4.mono (S':=[p,pm,qm]) (by simp+contextual)))
     clear r6 hm4 f4
     have HQ:=Lib.hid (show JH w p pm qm c s .come _ _ (.returned (QSt.val p .come)) w4 from ⟨rfl,H4.out,HM4.out,HF4.out⟩)
     go_wp2
     go_ret
     exact HQ.out
 · have HOKD:=Lib.hid (show decide (Ln (s.line++[s.w]))=false from decide_eq_false hok)
   rw [if_neg (fun e=>hok e.1),if_neg (fun e=>hok e.1),if_neg hok,if_neg hok]
   clear hok
   have q6:=cell_of (i:=6) h rfl
   have q5:=cell_of (i:=5) h rfl
   have HC:=Lib.hid (Q2j w.drew s.line s.w hL)
   have H:=Lib.hid h;have HP:=Lib.hid hp;have HM:=Lib.hid hM
   clear h hM
   go_in
   go_wp2_with fail
   go_region_held3 (fun w'=>w'.cell? ⟨p,6,none⟩=some (.int .i64 (wd s.line:Int))∧w'.cell? ⟨p,5,none⟩=some (.int .i64 s.w)) (first|go_keep|exact ⟨f3.cell q6 Lc,f3.cell q5 Lc⟩)
    (first|(go_at_call 268;refine HC.out.mono ?_;rintro en w3 ⟨rfl,f3⟩;rw [HOKD.out]))
   have F3:=(Fr.refl [] w).drew.trans f3
   have H3:=Lib.hid (H.out.fr F3 Lc);have HM3:=Lib.hid (HM.out.fr F3 Lc Lc);have HF3:=Lib.hid (F3.mono (S':=[p,pm,qm]) Lc)
   have r6:=F3.cell q6 Lc
   clear q6 q5 f3 F3
   have HQ:=Lib.hid (show JH w p pm qm c s .come M t (.returned (QSt.val p .come)) w3 from ⟨rfl,H3.out,HM3.out,HF3.out⟩)
   go_wp2
   go_ret
   exact HQ.out
theorem Dn (w:World) (p pm qm:Nat) (c:Q0) (s:QuS) (M:List Int) (t:Int) (h:Jd w p c s) (hM:QJ 112 w pm qm M t) (ht0:0≤t) (ht1:t≤1000000000) (hp:p≠pm∧p≠qm) (hL:Ln s.line):
 Calls Tryz.prog 198 #[.pointer (some ⟨p,0,none⟩),.pointer (some ⟨pm,0,none⟩)] w
  (JH w p pm qm c (if s.w∈s.line∧Qx M 1 (wd s.line)=true then {s with e:=s.why} else s) (if s.w∈s.line∧Qx M 1 (wd s.line)=true then .done else .look) (if s.w∈s.line then QI M 1 (wd s.line) (wd (rm s.line s.w):Int) else M) (if s.w∈s.line then t+tch M 1 else t)):=by
 by_cases hok:s.w∈s.line
 · have HOKD:=Lib.hid (show decide (s.w∈s.line)=true from decide_eq_true hok)
   by_cases hcs:Qx M 1 (wd s.line)=true
   · rw [if_pos ⟨hok,hcs⟩,if_pos ⟨hok,hcs⟩,if_pos hok,if_pos hok]
     have HCS:=Lib.hid (show Qx M 1 (wd s.line)=true from hcs)
     clear hok hcs
     have q6:=cell_of (i:=6) h rfl
     have q5:=cell_of (i:=5) h rfl
     have HC:=Lib.hid (Q2W w.drew s.line s.w hL)
     have H:=Lib.hid h;have HP:=Lib.hid hp;have HM:=Lib.hid hM
     clear h hM
     go_in
     go_wp2_with fail
     go_region_held3 (fun w'=>w'.cell? ⟨p,6,none⟩=some (.int .i64 (wd s.line:Int))∧w'.cell? ⟨p,5,none⟩=some (.int .i64 s.w)) (first|go_keep|exact ⟨f3.cell q6 Lc,f3.cell q5 Lc⟩)
      (first|(go_at_call 245;refine HC.out.mono ?_;rintro en w3 ⟨rfl,f3⟩;rw [HOKD.out]))
     have F3:=(Fr.refl [] w).drew.trans f3
     have H3:=Lib.hid (H.out.fr F3 Lc);have HM3:=Lib.hid (HM.out.fr F3 Lc Lc);have HF3:=Lib.hid (F3.mono (S':=[p,pm,qm]) Lc)
     have r6:=F3.cell q6 Lc
     clear q6 q5 f3 F3
     have hcas:=Vm w3 pm qm M t 1 (wd s.line) (wd (rm s.line s.w):Int) HM3.out ht0 Lb
     rw [HCS.out] at hcas
     have HCAS:=Lib.hid hcas
     clear hcas
     go_wp2_with fail
     refine HCAS.out.mono ?_
     rintro en w4 ⟨rfl,hm4,f4⟩
     have H4:=Lib.hid (H3.out.fr f4 (by simp;exact HP.out));have HM4:=Lib.hid hm4;have HF4:=Lib.hid (HF3.out.trans (f4.mono (S':=[p,pm,qm]) (by simp+contextual)))
     clear r6 hm4 f4
     have q9:=cell_of (i:=9) H4.out rfl
     have HE:=Lib.hid (YS w4 p c s s.why H4.out)
     go_wp2_with fail
     refine HE.out.mono ?_
     rintro en w5 ⟨rfl,h5,f5⟩
     have HQ:=Lib.hid (show JH w p pm qm c {s with e:=s.why} .done _ _ (.returned .nilFunc) w5 from ⟨rfl,h5,HM4.out.fr f5 (by simp;exact Ne.symm HP.out.1) (by simp;exact Ne.symm HP.out.2),HF4.out.trans (f5.mono Lc)⟩)
     clear h5 f5
     go_wp2
     go_ret
     exact HQ.out
   · rw [if_neg (fun e=>hcs e.2),if_neg (fun e=>hcs e.2),if_pos hok,if_pos hok]
     have HCS:=Lib.hid (show Qx M 1 (wd s.line)=false from (by simpa using hcs))
     clear hok hcs
     have q6:=cell_of (i:=6) h rfl
     have q5:=cell_of (i:=5) h rfl
     have HC:=Lib.hid (Q2W w.drew s.line s.w hL)
     have H:=Lib.hid h;have HP:=Lib.hid hp;have HM:=Lib.hid hM
     clear h hM
     go_in
     go_wp2_with fail
     go_region_held3 (fun w'=>w'.cell? ⟨p,6,none⟩=some (.int .i64 (wd s.line:Int))∧w'.cell? ⟨p,5,none⟩=some (.int .i64 s.w)) (first|go_keep|exact ⟨f3.cell q6 Lc,f3.cell q5 Lc⟩)
      (first|(go_at_call 245;refine HC.out.mono ?_;rintro en w3 ⟨rfl,f3⟩;rw [HOKD.out]))
     have F3:=(Fr.refl [] w).drew.trans f3
     have H3:=Lib.hid (H.out.fr F3 Lc);have HM3:=Lib.hid (HM.out.fr F3 Lc Lc);have HF3:=Lib.hid (F3.mono (S':=[p,pm,qm]) Lc)
     have r6:=F3.cell q6 Lc
     clear q6 q5 f3 F3
     have hcas:=Vm w3 pm qm M t 1 (wd s.line) (wd (rm s.line s.w):Int) HM3.out ht0 Lb
     rw [HCS.out] at hcas
     have HCAS:=Lib.hid hcas
     clear hcas
     go_wp2_with fail
     refine HCAS.out.mono ?_
     rintro en w4 ⟨rfl,hm4,f4⟩
     have H4:=Lib.hid (H3.out.fr f4 (by simp;exact HP.out));have HM4:=Lib.hid hm4;have HF4:=Lib.hid (HF3.out.trans (f4.mono (S':=[p,pm,qm]) (by simp+contextual)))
     clear r6 hm4 f4
     have HQ:=Lib.hid (show JH w p pm qm c s .look _ _ (.returned (QSt.val p .look)) w4 from ⟨rfl,H4.out,HM4.out,HF4.out⟩)
     go_wp2
     go_ret
     exact HQ.out
 · have HOKD:=Lib.hid (show decide (s.w∈s.line)=false from decide_eq_false hok)
   rw [if_neg (fun e=>hok e.1),if_neg (fun e=>hok e.1),if_neg hok,if_neg hok]
   clear hok
   have q6:=cell_of (i:=6) h rfl
   have q5:=cell_of (i:=5) h rfl
   have HC:=Lib.hid (Q2W w.drew s.line s.w hL)
   have H:=Lib.hid h;have HP:=Lib.hid hp;have HM:=Lib.hid hM
   clear h hM
   go_in
   go_wp2_with fail
   go_region_held3 (fun w'=>w'.cell? ⟨p,6,none⟩=some (.int .i64 (wd s.line:Int))∧w'.cell? ⟨p,5,none⟩=some (.int .i64 s.w)) (first|go_keep|exact ⟨f3.cell q6 Lc,f3.cell q5 Lc⟩)
    (first|(go_at_call 245;refine HC.out.mono ?_;rintro en w3 ⟨rfl,f3⟩;rw [HOKD.out]))
   have F3:=(Fr.refl [] w).drew.trans f3
   have H3:=Lib.hid (H.out.fr F3 Lc);have HM3:=Lib.hid (HM.out.fr F3 Lc Lc);have HF3:=Lib.hid (F3.mono (S':=[p,pm,qm]) Lc)
   have r6:=F3.cell q6 Lc
   clear q6 q5 f3 F3
   have HQ:=Lib.hid (show JH w p pm qm c s .look M t (.returned (QSt.val p .look)) w3 from ⟨rfl,H3.out,HM3.out,HF3.out⟩)
   go_wp2
   go_ret
   exact HQ.out
end
end Go.Proofs.YtgjklfmnmljilaaGreatDoor

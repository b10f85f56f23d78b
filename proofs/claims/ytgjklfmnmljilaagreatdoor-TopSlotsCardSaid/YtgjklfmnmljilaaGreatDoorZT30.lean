/- A part of the proof: TpZl to TpZq. -/
import Derived.Test.YtgjklfmnmljilaaGreatDoorZT03
import Derived.Test.YtgjklfmnmljilaaGreatDoorZT25
import Derived.Test.YtgjklfmnmljilaaGreatDoorZT26
import Derived.Test.YtgjklfmnmljilaaGreatDoorZT29
namespace Go.Proofs.YtgjklfmnmljilaaGreatDoor
set_option linter.unusedVariables false
set_option linter.unusedSimpArgs false
set_option linter.unusedSectionVars false
set_option linter.unnecessarySimpa false
set_option maxRecDepth 100000
set_option maxHeartbeats 8000000
section
open Go.RowKit Go.Shelf Go.Lib
attribute [local go_sem] Oper.semAt_some
def Q0c (w:World) (pM:Nat) (c:Q0) (who:Int) (e:Ending) (w':World):Prop:=∃bt bm bw q pf,e=.returned (.func (.func 155) #[] #[.pointer (some ⟨bt,0,none⟩),.pointer (some ⟨bm,0,none⟩),.pointer (some ⟨bw,0,none⟩)])∧
 (w.heap.size≤bt∧w.heap.size≤bm∧w.heap.size≤bw∧w.heap.size≤q∧w.heap.size≤pf)∧(bt≠bm∧bt≠bw∧bt≠q∧bt≠pf∧bm≠bw∧bm≠q∧bm≠pf∧bw≠q∧bw≠pf∧q≠pf)∧ZV w' bt bm bw pM q who 200∧Xm w' q pf none (Z5 who)∧QN w' pf c (QE 6 who 0)∧Fr [] w w'
theorem Q51 (w:World) (pM pW pm pc pw n:Nat) (ve:Value) (c:Q0) (ent mat:Int) (hMB:QB w pM pW pm pc pw n ve c ent mat) (who:Int):Calls Tryz.prog 105 #[.pointer (some ⟨pM,0,none⟩),.int .i64 who] w (Q0c w pM c who):=by
 have HFN:=hid fun w'=>UA w' c 6 who
 unfold Q0.val Q0g at HFN
 have B:=Bag.one hMB
 clear hMB
 go_in
 go_wp2_with fail
 generalize hw:World.alloc w _=w1,hb:(World.heap w).size=bm
 generalize hw2:World.alloc w1 _=w2
 replace B:=B.al2 hw hb hw2
 clear hw hb hw2
 refine rg B fun _ B=> ?_
 iterate 5 refine tb ?_
 refine wpAnyH_ready (rs:=[5,8]) (by decide+kernel) (by simp) ?_
 refine AllReadyH.cons (o:=_) rfl (fun K hK=> ?_) (AllReadyH.cons (o:=_) rfl (fun K hK=> ?_) AllReadyH.nil)
 all_goals try simp only [List.getElem_toArray,List.getElem_cons_succ,List.getElem_cons_zero]
 go_simp
 refine (HFN.out _).mono ?_
 rintro e w3 ⟨pf,rfl,hpf,hfd,f3⟩
 replace B:=B.nw (T':=tFd pf c (QE 6 who 0)) hfd f3 (fun x hx=>by simp at hx;subst hx;exact ⟨hpf,Q6 hfd⟩)
 go_wp2_with fail
 refine bk hK ?_
 clear hK K
 try go_frame
 refine tj 6 ?_
 refine wpAnyH_ready (rs:=[7,8]) (by decide+kernel) (by simp) ?_
 refine AllReadyH.cons (o:=_) rfl (fun K hK=> ?_) (AllReadyH.cons (o:=_) rfl (fun K hK=> ?_) AllReadyH.nil)
 all_goals try simp only [List.getElem_toArray,List.getElem_cons_succ,List.getElem_cons_zero]
 go_simp
 generalize hb:(World.heap _).size=q,hw:World.alloc _ _=w4
 replace B:=B.al hw hb
 refine bk hK ?_
 clear hK K hw hb
 try go_frame
 refine tc 8 fun K hK=> ?_
 go_simp
 generalize hb:(World.heap _).size=bt,hw:World.alloc _ _=w5
 replace B:=B.al hw hb
 refine bk hK ?_
 clear hK K hw hb
 try go_frame
 rotate_left
 go_simp
 generalize hb:(World.heap _).size=bt,hw:World.alloc _ _=w4
 replace B:=B.al hw hb
 refine bk hK ?_
 clear hK K hw hb
 try go_frame
 refine tc 7 fun K hK=> ?_
 go_simp
 generalize hb:(World.heap _).size=q,hw:World.alloc _ _=w5
 replace B:=B.al hw hb
 refine bk hK ?_
 clear hK K hw hb
 try go_frame
 replace B:=B.sel [0,1,2,3,5,4]
 rotate_left
 go_simp
 generalize hb:(World.heap _).size=bt,hw:World.alloc _ _=w4
 replace B:=B.al hw hb
 refine bk hK ?_
 clear hK K hw hb
 try go_frame
 refine tc 5 fun K hK=> ?_
 go_simp
 refine (HFN.out _).mono ?_
 rintro e w3 ⟨pf,rfl,hpf,hfd,f3⟩
 replace B:=B.nw (T':=tFd pf c (QE 6 who 0)) hfd f3 (fun x hx=>by simp at hx;subst hx;exact ⟨hpf,Q6 hfd⟩)
 go_wp2_with fail
 refine bk hK ?_
 clear hK K
 try go_frame
 refine tj 6 ?_
 refine tc 7 fun K hK=> ?_
 go_simp
 generalize hb:(World.heap _).size=q,hw:World.alloc _ _=w5
 replace B:=B.al hw hb
 refine bk hK ?_
 clear hK K hw hb
 try go_frame
 replace B:=B.sel [0,1,2,4,5,3]
 all_goals
  have u:=B.u 5;have q5:=B.q 5
  refine tc 9 fun K hK=> ?_
  go_simp
  clear u q5
  generalize hw:World.setCell _ _ _=w6
  replace B:=(B.s 5).e hw
  refine bk hK ?_
  clear hK K
  try go_frame
  refine wpAnyH_done (by decide+kernel) ?_ _
  go_wp2
  go_ret
  exact ⟨bt,bm,bm+1,q,pf,rfl,⟨B.new 5,B.new 1,B.new 2,B.new 4,B.new 3⟩,⟨B.n2 5 1,B.n2 5 2,B.n2 5 4,B.n2 5 3,B.n2 1 2,B.n2 1 4,B.n2 1 3,B.n2 2 4,B.n2 2 3,B.n2 4 3⟩,⟨B.g 5,B.g 1,B.g 2,⟨B.n2 5 1,B.n2 5 2,B.n2 1 2⟩⟩,B.g 4,B.g 3,B.fr⟩
def UQ (w:World) (pM:Nat) (c:Q0) (who:Int) (e:Ending) (w':World):Prop:=∃bt bm bw p,e=.returned (.func (.func 166) #[] #[.pointer (some ⟨bt,0,none⟩),.pointer (some ⟨bm,0,none⟩),.pointer (some ⟨bw,0,none⟩)])∧
 (w.heap.size≤bt∧w.heap.size≤bm∧w.heap.size≤bw∧w.heap.size≤p)∧(bt≠p∧bm≠p∧bw≠p)∧ZV w' bt bm bw pM p who 76∧Yu w' p c (.slice none 0 0) (.slice none 0 0) [] [] 0 false∧Fr [] w w'
theorem Q2I (w:World) (pM pW pm pc pw n:Nat) (ve:Value) (c:Q0) (ent mat:Int) (hMB:QB w pM pW pm pc pw n ve c ent mat) (who:Int):Calls Tryz.prog 109 #[.pointer (some ⟨pM,0,none⟩),.int .i64 who] w (UQ w pM c who):=by
 have HTN:=hid fun w'=>Q0t w' c
 unfold Q0.val at HTN
 have B:=Bag.one hMB
 have m:=fun o o'=>(B.tm (((Fr.refl [] w).alloc o).alloc o')).q 0
 clear hMB
 go_in
 go_wp2_with fail
 clear m
 generalize hw:World.alloc w _=w1,hb:(World.heap w).size=bm
 generalize hw2:World.alloc w1 _=w2
 replace B:=B.al2 hw hb hw2
 clear hw hb hw2
 refine (HTN.out _).mono ?_
 rintro e w2 ⟨p,rfl,hp,ht,f2⟩
 replace B:=B.nw (T':=tTw p c) ht f2 (fun x hx=>by simp at hx;subst hx;exact ⟨hp,Q6 ht.b⟩)
 go_wp2_with fail
 generalize hb:(World.heap _).size=bt,hw:World.alloc _ _=w3
 replace B:=B.al hw hb
 go_ret
 exact ⟨bt,bm,bm+1,p,rfl,⟨B.new 4,B.new 1,B.new 2,B.new 3⟩,⟨B.n2 4 3,B.n2 1 3,B.n2 2 3⟩,⟨B.g 4,B.g 1,B.g 2,⟨B.n2 4 1,B.n2 4 2,B.n2 1 2⟩⟩,B.g 3,B.fr⟩
theorem YC {L:List Int} {i:Nat} {x:Int} (h:L[i]?=some x) (f:Int→Bool):J3 (L.take (i+1)) f=J3 (L.take i) f+(if f x=true then 1 else 0):=by
 unfold J3
 rw [V7 h,List.filter_append,List.length_append]
 cases hf:f x<;>simp [hf]
theorem Ya (L:List Int) (f:Int→Bool):0≤J3 L f∧J3 L f≤(L.length:Int):=by
 unfold J3
 have:=List.length_filter_le f L
 omega
def Q3g (L:List Int):Value:=.agg #[.int .i64 (J3 L Gs),.int .i64 (J3 L Gq),.int .i64 (J3 L Gt),.int .i64 (J3 L UG)]
abbrev tC (b:Nat) (L:List Int):Th:=tR b #[.int .i64 (J3 L Gs),.int .i64 (J3 L Gq),.int .i64 (J3 L Gt),.int .i64 (J3 L UG)] 48
theorem Q1F (w:World) (g:Option Addr) (cp:Nat) (L:List Int) (hI:X0 w g L) (hL:∀x∈L,∃s:Q8,s.right∧x=s.enc) (hlen:L.length≤1000) (hG:Qf w 0 Qc) (h0:0<w.heap.size):
 Calls Tryz.prog 167 #[.slice g L.length cp] w fun e w'=>e=.returned (Q3g L)∧Fr [] w w':=by
 obtain ⟨len,hln⟩:∃n,L.length=n:=⟨_,rfl⟩
 rw [hln] at hlen ⊢
 have HLN:=hid hln;have HI:=hid hI;have HLL:=hid hL
 have B:=Bag.flds hG
 clear hI hL hG h0 hln
 go_in
 go_wp2_with fail
 generalize hb:(World.heap w).size=bR,hw:World.alloc w _=w1
 generalize hw2:World.alloc w1 _=w2
 replace B:=B.al2 hw hb hw2
 clear hb hw hw2
 go_loopw [10] (fun s10 wr=>∃i:Nat,i≤len∧s10=.int .i64 i∧Bag [] w [tF,tR bR #[.int .i64 0,.int .i64 0,.int .i64 0,.int .i64 0] 48,tC (bR+1) (L.take i)] wr) (fun s10 _=>len - (intOf s10).toNat)
 case atStart=>exact ⟨0,Nat.zero_le _,rfl,B⟩
 case round=>
  obtain ⟨i,hi,rfl,B⟩:=hrel
  by_cases hlt:i<len
  · obtain ⟨x,hx⟩:∃x,L[i]?=some x:=⟨_,List.getElem?_eq_getElem (by rw [HLN.out];exact hlt)⟩
    obtain ⟨s,hs,rfl⟩:=HLL.out x (List.mem_of_getElem? hx)
    obtain ⟨gb,off,rfl,he⟩:=(HI.out.fr B.fr (by simp)).2 i _ hx
    have hlt':(i:Int)<len:=by omega
    have hi0:(0:Int)≤(i:Int):=by omega
    have HDE:=hid fun w' h=>Je w' s hs h
    have n1:=YC hx Gs;have n2:=YC hx Gq;have n3:=YC hx Gt;have n4:=YC hx UG
    have b1:=Ya (L.take i) Gs;have b2:=Ya (L.take i) Gq;have b3:=Ya (L.take i) Gt;have b4:=Ya (L.take i) UG
    rw [List.length_take] at b1 b2 b3 b4
    rw [show Gs s.enc=decide (s.st=2) by unfold Gs;rw [QO hs]] at n1
    rw [show Gq s.enc=decide (s.st=3) by unfold Gq;rw [QO hs]] at n2
    rw [show Gt s.enc=decide (s.st=0) by unfold Gt;rw [QO hs]] at n3
    rw [show UG s.enc=(!decide (s.st=0)&& !decide (s.st=2)&& !decide (s.st=3)) by unfold UG Gt Gs Gq;rw [QO hs]] at n4
    unfold tC at B
    generalize J3 (L.take i) Gs=cI at B n1 b1
    generalize J3 (L.take i) Gq=cL at B n2 b2
    generalize J3 (L.take i) Gt=cE at B n3 b3
    generalize J3 (L.take i) UG=cO at B n4 b4
    generalize s.enc=en at he HDE
    obtain ⟨zst,zso,zstr,zbr,zmkd,zus,zgen,zep,zver⟩:=s
    unfold Q8.val at HDE
    dsimp only at HDE n1 n2 n3 n4
    go_wp2_with fail
    clear he
    refine (HDE.out _ (B.g 0)).mono ?_
    rintro e w1 ⟨rfl,f1⟩
    replace B:=B.tm f1
    rcases (by omega:zst=0∨zst=2∨zst=3∨(zst≠0∧zst≠2∧zst≠3)) with rfl|rfl|rfl|⟨z0,z2,z3⟩
    rotate_left 3
    have e0:(zst==0)=false:=by simp [z0]
    have e2:(zst==2)=false:=by simp [z2]
    have e3:(zst==3)=false:=by simp [z3]
    rotate_right 3
    all_goals
     have q:=B.qa 2;have u:=B.ua 2
     go_wp2_with fail
     clear q u
     generalize hb:(World.heap _).size=b9,hw:World.alloc _ _=w2
     replace B:=B.al hw hb
     generalize hw2:World.setCell _ _ _=w3
     replace B:=(B.s 2).e hw2
     refine ⟨⟨i+1,by omega,by go_num, ?_⟩,by simp [intOf];omega⟩
     simp [*] at n1 n2 n3 n4
     rw [tC,n1,n2,n3,n4]
     exact B.tk 3
  · obtain rfl:i=len:=by omega
    rw [List.take_of_length_le (by rw [HLN.out];exact Nat.le_refl _)] at B
    have r:=B.q 1;have q:=B.q 2;have u:=B.u 1
    go_wp2_with fail
    clear r q u
    generalize hw2:World.setCell _ _ _=w3
    replace B:=((((B.s 1).s 1).s 1).s 1).e hw2
    have r:=B.q 1
    refine ⟨rfl,_, ?_,rfl,B.fr⟩
    simp [results,Tryz.f167,go_sem,r,Q3g]
end
section
open Go.RowKit Go.Shelf Go.Lib
attribute [local go_sem] Oper.semAt_some
variable (w:World) (pM pW pm pc pw n who:Nat) (ve:Value) (c:Q0) (ent mat:Int) (f:Nat→List Value) (k:Qa) (v:Ja)
theorem Q4Z (hMB:QB w pM pW pm pc pw n ve c ent mat) (hW:QA w pW n (upd f who (k.cells v))) (hk:who<n) (hne:pM≠pW) (p:Nat) (R:World→Prop) (S:List Nat) (hST:Xa R pM pW ve) (hD:∀b∈S,b≠pM∧b≠pW∧ve.ownBlock≠some b) (hve:∀b,ve.ownBlock=some b→b≠pM∧b≠pW) (bt bm bw:Nat) (B:ZV w bt bm bw pM p who 76) (hB:(bt≠pM∧bt≠pW)∧(bm≠pM∧bm≠pW)∧(bw≠pM∧bw≠pW)) (hDB:∀b∈S,b≠bt∧b≠bm∧b≠bw) (HC:∀w',Fr [] w w'→Calls Tryz.prog 76 #[.pointer (some ⟨p,0,none⟩),.pointer (some ⟨pm,0,none⟩)] w' fun e w2=>e=.returned (.bool false)∧R w2∧Fr S w' w2):
 Calls Tryz.prog 166 #[.pointer (some ⟨bt,0,none⟩),.pointer (some ⟨bm,0,none⟩),.pointer (some ⟨bw,0,none⟩)] w fun e w'=>e=.returned (.tuple #[])∧QT w' pM pW pm pc pw n who ve c ent mat f k v∧R w'∧Fr (pM::pW::S) w w':=by
 obtain ⟨xt,xm,xw,xn⟩:=B
 have HCS:=hid HC
 have B:Bag (pM::pW::S) w [tRo false pM _ _,tW pW n f who _,tRo false bt _ _,tRo false bm _ _,tRo false bw _ _] w:=(Q07 hMB hW hne ⟨xt,xm,xw,xn⟩ hB).mono (by simp)
 dsimp only [Qa.cells] at B
 clear hMB hW hne HC xt xm xw xn hB
 go_in
 go_wp2_with fail
 refine rgf B fun _ fc B=> ?_
 iterate 5 refine tb ?_
 refine tc 5 fun K hK=> ?_
 go_simp
 refine (HCS.out _ fc).mono ?_
 rintro e w1 ⟨rfl,hr,f1⟩
 replace B:=Kc B f1 (by intro x hx;simp [hx]) (fun b hb=>⟨(hD b hb).1,(hD b hb).2.1⟩) hDB
 go_wp2_with fail
 refine bk hK ?_
 clear hK K
 try go_frame
 refine wpAnyH_done (by decide+kernel) ?_ _
 go_wp2
 first
  |go_end0
  |(try simp only [Exit.inBlock,Exit.then]
    refine bodyPost_ret (results_none rfl _ _ _) rfl ?_)
 exact ⟨rfl,⟨B.g 0,B.g 1⟩,hr,B.fr⟩
theorem Q2H (hMB:QB w pM pW pm pc pw n ve c ent mat) (hW:QA w pW n (upd f who (k.cells v))) (hk:who<n) (hne:pM≠pW) (p:Nat) (R:World→Prop) (S:List Nat) (hST:Xa R pM pW ve) (hD:∀b∈S,b≠pM∧b≠pW∧ve.ownBlock≠some b) (hve:∀b,ve.ownBlock=some b→b≠pM∧b≠pW) (bt bm bw:Nat) (B:ZV w bt bm bw pM p who 76) (hB:(bt≠pM∧bt≠pW)∧(bm≠pM∧bm≠pW)∧(bw≠pM∧bw≠pW)) (hDB:∀b∈S,b≠bt∧b≠bm∧b≠bw) (HC:∀w',Fr [] w w'→Calls Tryz.prog 76 #[.pointer (some ⟨p,0,none⟩),.pointer (some ⟨pm,0,none⟩)] w' fun e w2=>e=.returned (.bool true)∧R w2∧Fr S w' w2) (L:List Int) (hL:∀x∈L,∃s:Q8,s.right∧x=s.enc) (hlen:L.length≤1000) (hG:Qf w 0 Qc) (hS0:0∉S) (hz:0<pM∧0<pW) (HA:∀w',R w'→Calls Tryz.prog 77 #[.pointer (some ⟨p,0,none⟩)] w' (Vn w' L)):
 Calls Tryz.prog 166 #[.pointer (some ⟨bt,0,none⟩),.pointer (some ⟨bm,0,none⟩),.pointer (some ⟨bw,0,none⟩)] w fun e w'=>e=.returned (.tuple #[])∧∃p2,w.heap.size≤p2∧Jq w' p2 none none c (QG who)∧QT w' pM pW pm pc pw n who ve c ent mat f (k.end_ who {ev0 with cI:=J3 L Gs,cL:=J3 L Gq,cE:=J3 L Gt,cO:=J3 L UG}) {v with vd:=.pointer (some ⟨p2,0,none⟩)}∧R w'∧Fr (pM::pW::S) w w':=by
 have HEN:=hid fun w' h1 h2=>Z4 w' pM pW pm pc pw n who ve c ent mat f k v h1 h2 hk hne {ev0 with cI:=J3 L Gs,cL:=J3 L Gq,cE:=J3 L Gt,cO:=J3 L UG}
 unfold EvV.val EvV.cells ev0 K8 at HEN
 dsimp only at HEN
 have HCO:=hid fun w' g cp h1 h2 h3=>Q1F w' g cp L h1 hL hlen h2 h3
 unfold Q3g at HCO
 have h00:0∉pM::pW::S:=by simp [hS0];omega
 have hsz:0<w.heap.size:=by have:=Q6 hMB;omega
 clear hL hlen hS0 hz
 obtain ⟨xt,xm,xw,xn⟩:=B
 have HCS:=hid HC
 have B:Bag (pM::pW::S) w [tRo false pM _ _,tW pW n f who _,tRo false bt _ _,tRo false bm _ _,tRo false bw _ _] w:=(Q07 hMB hW hne ⟨xt,xm,xw,xn⟩ hB).mono (by simp)
 dsimp only [Qa.cells] at B
 clear hMB hW hne HC xt xm xw xn hB
 go_in
 go_wp2_with fail
 refine rgf B fun _ fc B=> ?_
 iterate 5 refine tb ?_
 refine tc 5 fun K hK=> ?_
 go_simp
 refine (HCS.out _ fc).mono ?_
 rintro e w1 ⟨rfl,hr,f1⟩
 replace B:=Kc B f1 (by intro x hx;simp [hx]) (fun b hb=>⟨(hD b hb).1,(hD b hb).2.1⟩) hDB
 go_wp2_with fail
 refine bk hK ?_
 clear hK K
 try go_frame
 refine wpAnyH_done (by decide+kernel) ?_ _
 go_wp2_with fail
 refine rgxf [0,2,3,4] B fun _ fc B=> ?_
 replace hr:=hST.go hr fc
 iterate 3 refine tb ?_
 refine tc 3 fun K hK=> ?_
 go_simp
 refine (HA _ hr).mono ?_
 rintro e w2 ⟨vv,rfl,hov,hnv,f2⟩
 obtain ⟨gw,cw,rfl,hin, -⟩:=hov.ints
 replace hr:=hST.go hr f2
 replace B:=B.tm f2
 go_wp2_with fail
 refine bk hK ?_
 clear hK K
 try go_frame
 refine tc 4 fun K hK=> ?_
 go_simp
 refine (HCO.out _ _ _ hin (hG.fr B.fr h00) (Nat.lt_of_lt_of_le hsz B.fr.size)).mono ?_
 rintro e w3 ⟨rfl,f3⟩
 replace hr:=hST.go hr f3
 replace B:=B.tm f3
 go_wp2_with fail
 refine bk hK ?_
 clear hK K
 try go_frame
 refine tj 5 ?_
 refine tc 6 fun K hK=> ?_
 go_simp
 refine (HEN.out _ (B.g 0) (B.g 1)).mono ?_
 rintro e w4 ⟨rfl,p2,hp,ht,hmp,f4⟩
 replace hr:=hST.go hr f4
 replace hp:=Nat.le_trans B.fr.size hp
 replace B:=B.up 1 (T':=tW pW n f who _) hmp.wr f4
 go_wp2_with fail
 refine bk hK ?_
 clear hK K
 try go_frame
 refine wpAnyH_done (by decide+kernel) ?_ _
 go_wp2_with fail
 first
  |go_end0
  |(try simp only [Exit.inBlock,Exit.then]
    refine bodyPost_ret (results_none rfl _ _ _) rfl ?_)
 exact ⟨rfl,p2,hp,ht,hmp,hr,B.fr⟩
end
section
open Go.RowKit Go.Shelf Go.Lib
attribute [local go_sem] Oper.semAt_some
variable (w:World) (pM pW pm pc pw n who:Nat) (ve:Value) (c:Q0) (ent mat:Int) (f:Nat→List Value) (k:Qa) (v:Ja)
theorem Q2X (w:World) (pM pW pm pc pw n qm:Nat) (ve:Value) (c:Q0) (ent mat:Int) (M:List Int) (N:Int) (hMB:QB w pM pW pm pc pw n ve c ent mat) (hM:Ql w pm qm M N) (hN:N≤100000000) (hc:c.fits) (hG:Qf w 0 Qc) (hne:pm≠pM∧qm≠pM∧0<pM∧0<pm∧0<qm) (i:Int) (hneg:Q5 c i<0):
 Calls Tryz.prog 29 #[.pointer (some ⟨pM,0,none⟩),.int .i64 i] w fun e w'=>e=.returned (.bool false)∧Ql w' pm qm M (N+2)∧Fr [pm,qm] w w':=by
 have HSL:=hid fun w'=>J2 w' c i hc
 unfold Q0.val at HSL
 generalize Q5 c i=cell at*
 have B:Bag [pm,qm] w [tRo false pM _ _,tM pm qm M N,tF] w:=Bag.of (by simp only [List.forall_mem_cons];exact ⟨hMB,hM,hG,by simp⟩) (by have:=hM.ne;simp;omega) (by have:=Q6 hMB;have:=hM.plt;have:=hM.qlt;simp;omega) (by simp)
 clear hMB hM hG hne
 have m:=B.q 0
 go_in
 go_wp2_with fail
 clear m
 refine (HSL.out _).mono ?_
 rintro e w1 ⟨rfl,f1⟩
 replace B:=B.tm f1
 go_wp2
 go_ret
 exact ⟨rfl,Ql.mono (B.g 1) (by omega),B.fr⟩
theorem Q1h (w:World) (pM pW pm pc pw n qm:Nat) (ve:Value) (c:Q0) (ent mat:Int) (M:List Int) (N:Int) (hMB:QB w pM pW pm pc pw n ve c ent mat) (hM:Ql w pm qm M N) (hN:N≤100000000) (hc:c.fits) (hG:Qf w 0 Qc) (hne:pm≠pM∧qm≠pM∧0<pM∧0<pm∧0<qm) (i:Int) (s:Q8) (hpos:0≤Q5 c i) (hs:s.right) (hld:Q7 M (Q5 c i)=s.enc) (hn:Qj s 13 0 0=none):
 Calls Tryz.prog 29 #[.pointer (some ⟨pM,0,none⟩),.int .i64 i] w fun e w'=>e=.returned (.bool false)∧Ql w' pm qm M (N+2)∧Fr [pm,qm] w w':=by
 have HSL:=hid fun w'=>J2 w' c i hc
 unfold Q0.val at HSL
 have HLD:=hid fun w' h=>Za w' pm qm M N (Q5 c i) h (by omega)
 have HAF:=hid fun w' h=>Vd w' s 13 0 hs (by omega) (by omega) (by omega) h
 rw [hld] at HLD
 rw [show ((13:Nat):Int)=13 from rfl,hn] at HAF
 rw [show Q04 none=0 from rfl,Option.isSome_none] at HAF
 have B:Bag [pm,qm] w [tRo false pM _ _,tM pm qm M N,tF] w:=Bag.of (by simp only [List.forall_mem_cons];exact ⟨hMB,hM,hG,by simp⟩) (by have:=hM.ne;simp;omega) (by have:=Q6 hMB;have:=hM.plt;have:=hM.qlt;simp;omega) (by simp)
 generalize s.enc=en at HLD HAF
 generalize Q5 c i=cell at*
 clear hs hn
 clear hMB hM hG hne
 have m:=B.q 0
 go_in
 go_wp2_with fail
 clear m
 refine (HSL.out _).mono ?_
 rintro e w1 ⟨rfl,f1⟩
 replace B:=B.tm f1
 have hnn:¬cell<0:=by omega
 have m:=B.q 0
 go_wp2_with fail
 clear m
 refine (HLD.out _ (B.g 1)).mono ?_
 rintro e w2 ⟨rfl,h2,f2⟩
 replace B:=B.up 1 (T':=tM pm qm _ _) h2 f2
 go_wp2_with fail
 refine (HAF.out _ (B.g 2)).mono ?_
 rintro e w3 ⟨rfl,f3⟩
 replace B:=B.tm f3
 go_wp2
 go_ret
 exact ⟨rfl,Ql.mono (B.g 1) (by omega),B.fr⟩
theorem Q1g (w:World) (pM pW pm pc pw n qm:Nat) (ve:Value) (c:Q0) (ent mat:Int) (M:List Int) (N:Int) (hMB:QB w pM pW pm pc pw n ve c ent mat) (hM:Ql w pm qm M N) (hN:N≤100000000) (hc:c.fits) (hG:Qf w 0 Qc) (hne:pm≠pM∧qm≠pM∧0<pM∧0<pm∧0<qm) (i:Int) (s:Q8) (hpos:0≤Q5 c i) (hs:s.right) (hld:Q7 M (Q5 c i)=s.enc) (u:Q8) (hin:Q5 c i<(M.length:Int)) (hn:Qj s 13 0 0=some u):
 Calls Tryz.prog 29 #[.pointer (some ⟨pM,0,none⟩),.int .i64 i] w fun e w'=>e=.returned (.bool true)∧Ql w' pm qm (Qz M (Q5 c i) u.enc) (N+2)∧Fr [pm,qm] w w':=by
 have HSL:=hid fun w'=>J2 w' c i hc
 unfold Q0.val at HSL
 have HLD:=hid fun w' h=>Za w' pm qm M N (Q5 c i) h (by omega)
 have HAF:=hid fun w' h=>Vd w' s 13 0 hs (by omega) (by omega) (by omega) h
 rw [hld] at HLD
 rw [show ((13:Nat):Int)=13 from rfl,hn] at HAF
 rw [show Q04 (some u)=u.enc from rfl,Option.isSome_some] at HAF
 have HST:=hid fun w' h=>Vz w' pm qm M (N+1) (Q5 c i) u.enc h (by omega)
 rw [Jh hpos hin] at HST
 have B:Bag [pm,qm] w [tRo false pM _ _,tM pm qm M N,tF] w:=Bag.of (by simp only [List.forall_mem_cons];exact ⟨hMB,hM,hG,by simp⟩) (by have:=hM.ne;simp;omega) (by have:=Q6 hMB;have:=hM.plt;have:=hM.qlt;simp;omega) (by simp)
 generalize s.enc=en at HLD HAF
 generalize u.enc=ue at HST HAF ⊢
 generalize Q5 c i=cell at*
 clear hs hn
 clear hMB hM hG hne
 have m:=B.q 0
 go_in
 go_wp2_with fail
 clear m
 refine (HSL.out _).mono ?_
 rintro e w1 ⟨rfl,f1⟩
 replace B:=B.tm f1
 have hnn:¬cell<0:=by omega
 have m:=B.q 0
 go_wp2_with fail
 clear m
 refine (HLD.out _ (B.g 1)).mono ?_
 rintro e w2 ⟨rfl,h2,f2⟩
 replace B:=B.up 1 (T':=tM pm qm _ _) h2 f2
 go_wp2_with fail
 refine (HAF.out _ (B.g 2)).mono ?_
 rintro e w3 ⟨rfl,f3⟩
 replace B:=B.tm f3
 have m:=B.q 0
 go_wp2_with fail
 clear m
 refine (HST.out _ (B.g 1)).mono ?_
 rintro e w4 ⟨rfl,h4,f4⟩
 replace B:=B.up 1 (T':=tM pm qm _ _) h4 f4
 go_wp2
 go_ret
 exact ⟨rfl,Ql.mono (B.g 1) (by omega),B.fr⟩
theorem EK (hMB:QB w pM pW pm pc pw n ve c ent mat) (hW:QA w pW n (upd f who (k.cells v))) (hk:who<n) (hne:pM≠pW) (gb pb:Bool) (HGR:∀w',Fr [] w w'→Calls Tryz.prog 53 #[.pointer (some ⟨pM,0,none⟩),.int .i64 who] w' fun e w2=>e=.returned (.bool gb)∧Fr [] w' w2) (HPA:∀w',Fr [] w w'→Calls Tryz.prog 54 #[.pointer (some ⟨pc,0,none⟩),.int .i64 k.ask.dl] w' fun e w2=>e=.returned (.bool pb)∧Fr [] w' w2) (hg:gb=true):
 Calls Tryz.prog 39 #[.pointer (some ⟨pM,0,none⟩),.int .i64 who] w fun e w'=>e=.returned (.bool true)∧Fr [] w w':=by
 subst hg
 have B:Bag [pW] w [tRo false pM _ _,tW pW n f who _] w:=Zn hMB hW hne
 dsimp only [Qa.cells] at B
 have HGX:=hid HGR;have HPX:=hid HPA
 clear hMB hW hne HGR HPA
 have ha1:∀j:Nat,who*35+1+j=who*35+(1+j):=fun j=>Nat.add_assoc _ _ _
 have m:=B.q 0
 go_in
 go_wp2_with fail
 clear m
 refine rgf B fun _ fc B=> ?_
 refine tj 0 ?_
 refine tj 1 ?_
 refine tc 2 fun K hK=> ?_
 go_simp
 refine (HGX.out _ fc).mono ?_
 rintro e w1 ⟨rfl,f1⟩
 replace B:=B.tm f1
 go_wp2_with fail
 refine bk hK ?_
 clear hK K
 try go_frame
 repeat first|refine tb ?_|refine tv ?_
 refine wpAnyH_done (by decide+kernel) ?_ _
 go_wp2
 go_ret
 exact ⟨rfl,fc.trans f1⟩
theorem Q19 (hMB:QB w pM pW pm pc pw n ve c ent mat) (hW:QA w pW n (upd f who (k.cells v))) (hk:who<n) (hne:pM≠pW) (gb pb:Bool) (HGR:∀w',Fr [] w w'→Calls Tryz.prog 53 #[.pointer (some ⟨pM,0,none⟩),.int .i64 who] w' fun e w2=>e=.returned (.bool gb)∧Fr [] w' w2) (HPA:∀w',Fr [] w w'→Calls Tryz.prog 54 #[.pointer (some ⟨pc,0,none⟩),.int .i64 k.ask.dl] w' fun e w2=>e=.returned (.bool pb)∧Fr [] w' w2) (hg:gb=false) (ht:k.timed=false):
 Calls Tryz.prog 39 #[.pointer (some ⟨pM,0,none⟩),.int .i64 who] w fun e w'=>e=.returned (.bool false)∧Fr [] w w':=by
 subst hg
 have B:Bag [pW] w [tRo false pM _ _,tW pW n f who _] w:=Zn hMB hW hne
 rw [Qa.cells,ht] at B
 dsimp only [Qa.cells] at B
 have HGX:=hid HGR;have HPX:=hid HPA
 clear hMB hW hne HGR HPA
 have ha1:∀j:Nat,who*35+1+j=who*35+(1+j):=fun j=>Nat.add_assoc _ _ _
 have m:=B.q 0
 go_in
 go_wp2_with fail
 clear m
 refine rgf B fun _ fc B=> ?_
 refine tj 0 ?_
 refine tj 1 ?_
 refine tc 2 fun K hK=> ?_
 go_simp
 refine (HGX.out _ fc).mono ?_
 rintro e w1 ⟨rfl,f1⟩
 replace B:=B.tm f1
 go_wp2_with fail
 refine bk hK ?_
 clear hK K
 try go_frame
 repeat first|refine tb ?_|refine tv ?_
 refine wpAnyH_done (by decide+kernel) ?_ _
 go_wp2
 go_ret
 exact ⟨rfl,fc.trans f1⟩
theorem Dc (hMB:QB w pM pW pm pc pw n ve c ent mat) (hW:QA w pW n (upd f who (k.cells v))) (hk:who<n) (hne:pM≠pW) (gb pb:Bool) (HGR:∀w',Fr [] w w'→Calls Tryz.prog 53 #[.pointer (some ⟨pM,0,none⟩),.int .i64 who] w' fun e w2=>e=.returned (.bool gb)∧Fr [] w' w2) (HPA:∀w',Fr [] w w'→Calls Tryz.prog 54 #[.pointer (some ⟨pc,0,none⟩),.int .i64 k.ask.dl] w' fun e w2=>e=.returned (.bool pb)∧Fr [] w' w2) (hg:gb=false) (ht:k.timed=true):
 Calls Tryz.prog 39 #[.pointer (some ⟨pM,0,none⟩),.int .i64 who] w fun e w'=>e=.returned (.bool pb)∧Fr [] w w':=by
 subst hg
 have B:Bag [pW] w [tRo false pM _ _,tW pW n f who _] w:=Zn hMB hW hne
 rw [Qa.cells,ht] at B
 dsimp only [Qa.cells] at B
 have HGX:=hid HGR;have HPX:=hid HPA
 clear hMB hW hne HGR HPA
 have ha1:∀j:Nat,who*35+1+j=who*35+(1+j):=fun j=>Nat.add_assoc _ _ _
 have m:=B.q 0
 go_in
 go_wp2_with fail
 clear m
 refine rgf B fun _ fc B=> ?_
 refine tj 0 ?_
 refine tj 1 ?_
 refine tc 2 fun K hK=> ?_
 go_simp
 refine (HGX.out _ fc).mono ?_
 rintro e w1 ⟨rfl,f1⟩
 replace B:=B.tm f1
 go_wp2_with fail
 refine bk hK ?_
 clear hK K
 try go_frame
 repeat first|refine tb ?_|refine tv ?_
 refine tc 18 fun K hK=> ?_
 go_simp
 refine (HPX.out _ (fc.trans f1)).mono ?_
 rintro e w2 ⟨rfl,f2⟩
 replace B:=B.tm f2
 go_wp2_with fail
 refine bk hK ?_
 clear hK K
 try go_frame
 repeat first|refine tb ?_|refine tv ?_
 refine wpAnyH_done (by decide+kernel) ?_ _
 go_wp2
 go_ret
 exact ⟨rfl,(fc.trans f1).trans f2⟩
theorem Db (hMB:QB w pM pW pm pc pw n ve c ent mat) (hW:QA w pW n (upd f who (k.cells v))) (hk:who<n) (hne:pM≠pW) (HGR:Calls Tryz.prog 53 #[.pointer (some ⟨pM,0,none⟩),.int .i64 who] w fun e w2=>e=.returned (.bool true)∧Fr [] w w2) (X:World→Prop) (HNX:∀w',QB w' pM pW pm pc pw n ve c ent mat→QA w' pW n (upd f who (({k with st:=7}:Qa).cells v))→Fr [pW] w w'→Calls Tryz.prog 62 #[.pointer (some ⟨pM,0,none⟩),.int .i64 who] w' fun e w2=>e=.returned (.tuple #[])∧X w2):
 Calls Tryz.prog 61 #[.pointer (some ⟨pM,0,none⟩),.int .i64 who] w fun e w'=>e=.returned (.tuple #[])∧X w':=by
 have B:Bag [pW] w [tRo false pM _ _,tW pW n f who _] w:=Zn hMB hW hne
 dsimp only [Qa.cells] at B
 have HNY:=hid HNX
 clear hMB hW hne HNX
 have m:=B.q 0
 go_in
 go_wp2_with fail
 clear m
 refine HGR.mono ?_
 rintro e w1 ⟨rfl,f1⟩
 replace B:=B.tm f1
 have q:=B.wq 1 hk;have q0:=B.wq0 1 hk;have u:=B.wu 1;have m:=B.q 0
 go_wp2_with fail
 clear q q0 u m
 generalize hw:World.setCell _ _ _=w3
 replace B:=((B.ws0 1 hk)).e hw
 refine (HNY.out _ (B.g 0) (B.g 1) B.fr).mono ?_
 rintro e w9 ⟨rfl,hX⟩
 go_wp2_with fail
 try simp only [Exit.inBlock,Exit.then]
 refine bodyPost_ret (results_none rfl _ _ _) rfl ?_
 exact ⟨rfl,hX⟩
theorem Uq (hMB:QB w pM pW pm pc pw n ve c ent mat) (hW:QA w pW n (upd f who (k.cells v))) (hk:who<n) (hne:pM≠pW) (HGR:Calls Tryz.prog 53 #[.pointer (some ⟨pM,0,none⟩),.int .i64 who] w fun e w2=>e=.returned (.bool false)∧Fr [] w w2) (X:World→Prop) (HNX:∀w' q,w.heap.size≤q→J9 w' q c (Jc who)→QB w' pM pW pm pc pw n ve c ent mat→QA w' pW n (upd f who (({k with qu:=some (Jc who),st:=8}:Qa).cells {v with vq:=.pointer (some ⟨q,0,none⟩)}))→Fr [pW] w w'→Calls Tryz.prog 63 #[.pointer (some ⟨pM,0,none⟩),.int .i64 who] w' fun e w2=>e=.returned (.tuple #[])∧X w2):
 Calls Tryz.prog 61 #[.pointer (some ⟨pM,0,none⟩),.int .i64 who] w fun e w'=>e=.returned (.tuple #[])∧X w':=by
 have HY:=hid fun w'=>Q5k w' c who
 unfold Q0.val at HY
 have B:Bag [pW] w [tRo false pM _ _,tW pW n f who _] w:=Zn hMB hW hne
 dsimp only [Qa.cells] at B
 have HNY:=hid HNX
 clear hMB hW hne HNX
 have m:=B.q 0
 go_in
 go_wp2_with fail
 clear m
 refine HGR.mono ?_
 rintro e w1 ⟨rfl,f1⟩
 replace B:=B.tm f1
 have m:=B.q 0
 go_wp2_with fail
 clear m
 refine (HY.out _).mono ?_
 rintro e w2 ⟨q,rfl,hq,ht,f2⟩
 have hs:=B.fr.size
 replace B:=B.nw (T':=tQu q c _) ht f2 (fun x hx=>by simp at hx;subst hx;exact ⟨hq,Q6 ht⟩)
 replace hq:=Nat.le_trans hs hq
 have q:=B.wq 1 hk;have q0:=B.wq0 1 hk;have u:=B.wu 1;have m:=B.q 0
 go_wp2_with fail
 clear q q0 u m
 generalize hw:World.setCell _ _ _=w3
 replace B:=(((B.ws 1 hk).ws0 1 hk)).e hw
 refine (HNY.out _ q hq (B.g 2) (B.g 0) (B.g 1) B.fr).mono ?_
 rintro e w9 ⟨rfl,hX⟩
 go_wp2_with fail
 go_end0
 exact ⟨rfl,hX⟩
end
section
open Go.RowKit Go.Shelf Go.Lib
attribute [local go_sem] Oper.semAt_some
variable (w:World) (pM pW pm pc pw n who:Nat) (ve:Value) (c:Q0) (ent mat:Int) (f:Nat→List Value) (k:Qa) (v:Ja)
theorem Xl (hMB:QB w pM pW pm pc pw n ve c ent mat) (hW:QA w pW n (upd f who (k.cells v))) (hk:who<n) (hne:pM≠pW) (fn:FuncId) (bt bm bw:Nat) (hv:v.vw=.func (.func fn) #[] #[.pointer (some ⟨bt,0,none⟩),.pointer (some ⟨bm,0,none⟩),.pointer (some ⟨bw,0,none⟩)]) (hcf:∀(args:Array Value) (wx:World),(callFunc fn args).run Tryz.prog wx=.ok (.enter fn args) wx) (X:World→Prop) (HC:Calls Tryz.prog fn #[.pointer (some ⟨bt,0,none⟩),.pointer (some ⟨bm,0,none⟩),.pointer (some ⟨bw,0,none⟩)] w fun e w2=>e=.returned (.tuple #[])∧X w2):
 Calls Tryz.prog 57 #[.pointer (some ⟨pM,0,none⟩),.int .i64 who] w fun e w'=>e=.returned (.tuple #[])∧X w':=by
 have B:Bag [pW] w [tRo false pM _ _,tW pW n f who _] w:=Zn hMB hW hne
 rw [Qa.cells,hv] at B
 clear hMB hW hne hv
 have q:=B.wq 1 hk;have m:=B.q 0
 go_in
 go_wp2_with fail
 refine HC.mono ?_
 rintro e w9 ⟨rfl,hX⟩
 go_wp2_with fail
 go_end0
 exact ⟨rfl,hX⟩
theorem GU (hMB:QB w pM pW pm pc pw n ve c ent mat) (hW:QA w pW n (upd f who (k.cells v))) (hk:who<n) (hne:pM≠pW) (fn:FuncId) (bt bm bw bf:Nat) (hv:v.vw=.func (.func fn) #[] #[.pointer (some ⟨bt,0,none⟩),.pointer (some ⟨bm,0,none⟩),.pointer (some ⟨bw,0,none⟩),.pointer (some ⟨bf,0,none⟩)]) (hcf:∀(args:Array Value) (wx:World),(callFunc fn args).run Tryz.prog wx=.ok (.enter fn args) wx) (X:World→Prop) (HC:Calls Tryz.prog fn #[.pointer (some ⟨bt,0,none⟩),.pointer (some ⟨bm,0,none⟩),.pointer (some ⟨bw,0,none⟩),.pointer (some ⟨bf,0,none⟩)] w fun e w2=>e=.returned (.tuple #[])∧X w2):
 Calls Tryz.prog 57 #[.pointer (some ⟨pM,0,none⟩),.int .i64 who] w fun e w'=>e=.returned (.tuple #[])∧X w':=by
 have B:Bag [pW] w [tRo false pM _ _,tW pW n f who _] w:=Zn hMB hW hne
 rw [Qa.cells,hv] at B
 clear hMB hW hne hv
 have q:=B.wq 1 hk;have m:=B.q 0
 go_in
 go_wp2_with fail
 refine HC.mono ?_
 rintro e w9 ⟨rfl,hX⟩
 go_wp2_with fail
 go_end0
 exact ⟨rfl,hX⟩
theorem Q2Z (hMB:QB w pM pW pm pc pw n ve c ent mat) (hW:QA w pW n (upd f who (k.cells v))) (hk:who<n) (hne:pM≠pW):Calls Tryz.prog 10 #[.pointer (some ⟨pM,0,none⟩),.int .i64 who] w fun e w'=>e=.returned (.int .i64 k.st)∧Fr [] w w':=by
 have HHA:=hid (Zm w pM pW pm pc pw n ve c ent mat hMB who)
 rw [decide_eq_true (by omega),decide_eq_true (by omega)] at HHA
 have B:Bag [pW] w [tRo false pM _ _,tW pW n f who _] w:=Zn hMB hW hne
 dsimp only [Qa.cells] at B
 clear hMB hW hne
 go_in
 go_wp2_with fail
 refine HHA.out.mono ?_
 rintro e w1 ⟨rfl,f1⟩
 replace B:=B.tm f1
 have q0:=B.wq0 1 hk;have m:=B.q 0
 go_wp2
 go_ret
 exact ⟨rfl,f1⟩
end
end Go.Proofs.YtgjklfmnmljilaaGreatDoor

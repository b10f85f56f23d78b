/- A part of the proof. -/
import Derived.Test.YtgjklfmnmljilaaGreatDoorZR39
namespace Go.Proofs.YtgjklfmnmljilaaGreatDoor
set_option linter.unusedVariables false
set_option linter.unusedSimpArgs false
set_option linter.unusedSectionVars false
set_option linter.unnecessarySimpa false
set_option maxRecDepth 100000
set_option maxHeartbeats 8000000
section
open Go.RowKit Go.Shelf Go.Lib
attribute [local go_sem] Oper.semAt_some
structure YA where
 kd:Int
 wh:Int
 op:Int
 sl:Int
 gn:Int
 nn:Int
structure YA.ok (t:YA):Prop where
 a:u8s t.kd
 b:u8s t.wh
 c:u8s t.op
 d:u8s t.sl
 e:u8s t.gn
 f:u8s t.nn
structure YA.at (t:YA) (w:World) (b o:Nat):Prop where
 q0:w.cell? ⟨b,o,none⟩=some (.int .u8 t.kd)
 q1:w.cell? ⟨b,o+1,none⟩=some (.int .u8 t.wh)
 q2:w.cell? ⟨b,o+2,none⟩=some (.int .u8 t.op)
 q3:w.cell? ⟨b,o+3,none⟩=some (.int .u8 t.sl)
 q4:w.cell? ⟨b,o+4,none⟩=some (.int .u8 t.gn)
 q5:w.cell? ⟨b,o+5,none⟩=some (.int .u8 t.nn)
theorem YA.at.fr {t:YA} {w w':World} {b o:Nat} (h:t.at w b o) (f:Fr [] w w'):t.at w' b o:=
 ⟨f.cell h.q0 Lc,f.cell h.q1 Lc,f.cell h.q2 Lc,f.cell h.q3 Lc,f.cell h.q4 Lc,f.cell h.q5 Lc⟩
def W9 (w:World) (g:Option Addr) (L:List YA):Prop:=(∀t∈L,t.ok)∧∀(j:Nat) (t:YA),L[j]?=some t→∃b o,g=some ⟨b,o,none⟩∧t.at w b (o+j*6)
theorem W9.fr {w w':World} {g:Option Addr} {L:List YA} (h:W9 w g L) (f:Fr [] w w'):W9 w' g L:=⟨h.1,fun j t ht=>let ⟨b,o,e,a⟩:=h.2 j t ht;⟨b,o,e,a.fr f⟩⟩
def Vd (c:Q0) (xs:List QD):Qa:=xs.foldl (fun m x=>(doV m x).1) (J5 c)
theorem Q4G (c:Q0) (xs:List QD) (x:QD):Vd c (xs++[x])=(doV (Vd c xs) x).1:=by unfold Vd;rw [List.foldl_append];rfl
theorem K3 (c:Q0) (xs:List QD):(Vd c xs).entries=xs.length:=by
 unfold Vd
 suffices h:∀(xs:List QD) (m:Qa),(xs.foldl (fun m x=>(doV m x).1) m).entries=m.entries+xs.length by have:=h xs (J5 c);rw [this];show (0:Int)+_=_;omega
 intro xs
 induction xs with
 |nil=>intro m;simp
 |cons x xs ih=>intro m;rw [List.foldl_cons,ih,Z7];simp;omega
theorem Ue {J:Qa→Prop} (c:Q0) (h0:J (J5 c)) (h:∀m x,J m→J (doV m x).1):∀xs:List QD,J (Vd c xs):=by
 intro xs
 unfold Vd
 suffices H:∀(xs:List QD) (m:Qa),J m→J (xs.foldl (fun m x=>(doV m x).1) m) from H xs _ h0
 intro xs
 induction xs with
 |nil=>intro m hm;exact hm
 |cons x xs ih=>intro m hm;rw [List.foldl_cons];exact ih _ (h m x hm)
theorem Q3m {c:Q0} (hc:c.fits) (xs:List QD) (hl:xs.length≤100000000):GI c (Vd c xs):=by
 have:=Ue (J:=fun m=>m.entries≤100000000→GI c m) c (fun _=>GI.new hc) (fun m x h he=>by
  have:=Z7 m x
  exact ((h Lb).do_ Lb x).1) xs
 exact this (by rw [K3];omega)
theorem MM.do2 {w:World} {F:List Nat} {b:Bs} {m:Qa} {w0:World} {F0:List Nat} {q:Nat} {c:Q0} (H:MM w F b m w0 F0 q c) {n:Int} (hI:MInv n m) (hn:n≤1000000000) (h0:0≤m.entries) (hE:m.entries≤40000000) (x:QD):
 Calls Tryz.prog 11 #[pt b.pM,x.val] w fun e w'=>e=.returned (.bool (doV m x).2)∧∃F',MM w' F' b (doV m x).1 w0 F0 q c∧Fr F w w'∧∀y∈F',y∈F∨w.heap.size≤y:=by
 obtain ⟨A,f,hF,hq,hc⟩:=H
 refine (A.do_ hI Lb hn h0 Lb x).mono ?_
 rintro e w' ⟨e1,F',A',g,hF'⟩
 have hlt:=Q9 hc
 refine ⟨e1,F',⟨?_,f.then g fun y hy=>hF y hy,fun y hy=> ?_,fun hm=> ?_,g.at hc hq⟩,g,hF'⟩
 · have e2:=Z7 m x
   rw [e2,show 2*(m.entries+1)=2*m.entries+2 by omega];exact A'
 · rcases hF' y hy with a|a
   · exact hF y a
   · exact .inr (Nat.le_trans f.size a)
 · rcases hF' q hm with a|a
   · exact hq a
   · omega
theorem keep6 {w w5 w6:World} {F F':List Nat} {p:Nat} {o:Obj} (h:w.heap[p]?=some o) (hp:p∉F) (f:Fr [] w w5) (g:Fr F w5 w6) (hF:∀y∈F',y∈F∨w5.heap.size≤y):p∉F'∧w6.heap[p]?=some o:=by
 have l:=Q9 h
 have:=f.size
 refine ⟨fun hm=> ?_,g.at (f.at h Lc) hp⟩
 rcases hF p hm with a|a
 · exact hp a
 · omega
theorem Q6K (w:World) (h3:3≤w.heap.size) (hfl:Qe w 0 Qc) (hdb:Yj w) (ga gb gc gd ge:Int) (ha:u8s ga) (hb:u8s gb) (hc:u8s gc) (hd:u8s gd) (he:u8s ge) (g:Option Addr) (cap:Nat) (L:List YA) (hT:W9 w g L) (hL:L.length≤200):
 Calls Tryz.prog 8 #[.agg #[.int .u8 ga,.int .u8 gb,.int .u8 gc,.int .u8 gd,.int .u8 ge],.slice g L.length cap] w fun e w'=>∃(cv:Q0) (b:Bs) (F:List Nat) (xs:List QD),e=.returned (.tuple #[pt b.pM,cv.val])∧cv.small∧xs.length=L.length∧MAt w' F b (Vd cv xs) (2*(Vd cv xs).entries)∧(∀x∈F,w.heap.size≤x)∧Fr [] w w':=by
 have HFL:=hid hfl;have HDB:=hid hdb;have HT:=hid hT
 have HC:=hid fun (wx:World)=>Q4p wx ga gb gc gd ge ha hb hc hd he
 obtain ⟨len,hlen⟩:∃len,L.length=len:=⟨_,rfl⟩
 rw [hlen] at hL ⊢
 have HLN:=hid hlen
 clear hfl hdb hT hlen
 go_in
 go_wp2_with fail
 have fW:=((Fr.refl [] w).alloc (.cells #[.int .u8 ga,.int .u8 gb,.int .u8 gc,.int .u8 gd,.int .u8 ge] 23)).alloc (.cells #[.int .i64 0,.int .i64 0,.int .i64 0,.int .i64 0,.int .i64 0] 30)
 have hp5:=heap_alloc_new (w.alloc (.cells #[.int .u8 ga,.int .u8 gb,.int .u8 gc,.int .u8 gd,.int .u8 ge] 23)) (.cells #[.int .i64 0,.int .i64 0,.int .i64 0,.int .i64 0,.int .i64 0] 30)
 rw [World.size_alloc] at hp5
 generalize (w.alloc (.cells #[.int .u8 ga,.int .u8 gb,.int .u8 gc,.int .u8 gd,.int .u8 ge] 23)).alloc (.cells #[.int .i64 0,.int .i64 0,.int .i64 0,.int .i64 0,.int .i64 0] 30)=W0 at fW hp5 ⊢
 obtain ⟨p5,hp⟩:∃p5,w.heap.size+1=p5:=⟨_,rfl⟩
 rw [hp] at hp5 ⊢
 have h5:w.heap.size≤p5:=Lb
 clear hp
 refine (HC.out W0).mono ?_
 rintro e w1 ⟨cv,rfl,hsm,f1⟩
 have hfit:=hsm.fits
 have F1:=fW.trans f1
 have hp5':=f1.at hp5 Lc
 have l5:=Q9 hp5'
 have hq:=heap_alloc_new w1 (ZR cv)
 have fq:=(Fr.refl [] w1).alloc (ZR cv)
 have F2:=F1.trans fq
 have hnew:=r_new (w1.alloc (ZR cv)) cv hfit (by have:=F2.size;omega) (HFL.out.fr F2 Lc) (HDB.out.fr F2 Lc)
 have hp2:=fq.at hp5' Lc
 have hq5:w1.heap.size≠p5:=Lb
 have hsz:w.heap.size≤w1.heap.size:=F1.size
 unfold ZR at hq hnew F2 hp2
 unfold Q0.val at hnew ⊢
 have HN:=hid hnew;have HQ:=hid hq;have HF2:=hid F2;have HP:=hid hp2;have HSM:=hid hsm;have HFIT:=hid hfit
 clear hnew hq F2 hp2 hsm fq hp5' hp5 fW f1 hfit F1
 go_wp2_with fail
 generalize w1.alloc (.cells #[.int .i64 cv.wo,.int .i64 cv.sl,.int .i64 cv.st,.int .i64 cv.wa,.int .i64 cv.us] 30)=w2 at HN HQ HF2 HP ⊢
 generalize w1.heap.size=q at hq5 hsz l5 HQ ⊢
 refine (HN.out).mono ?_
 rintro e w3 ⟨b,F,rfl,A,hFn,f3⟩
 have hlq:=Q9 HQ.out;have hlp:=Q9 HP.out
 have M0:MM w3 F b (Vd cv []) w [] q cv:=⟨by rw [K3];exact A,HF2.out.then f3 Lc,fun x hx=>.inr (by have:=hFn x hx;have:=HF2.out.size;omega),fun hx=>by have:=hFn _ hx;omega,f3.at HQ.out Lc⟩
 have HM0:=hid M0
 have HP3:=hid (f3.at HP.out Lc)
 have HPF:=hid (show p5∉F from fun hx=>by have:=hFn _ hx;omega)
 have HQP:=hid hq5
 clear M0 A hFn f3 hlq hlp HN HQ HF2 HP hq5 l5
 unfold pt
 go_wp2_with fail
 go_loopw [9] (fun s9 wr=>∃(i:Nat) (xs:List QD) (F1:List Nat),i≤len∧s9=.int .i64 i∧xs.length=i∧MM wr F1 b (Vd cv xs) w [] q cv∧p5∉F1∧wr.heap[p5]?=some (.cells #[.int .i64 0,.int .i64 0,.int .i64 0,.int .i64 0,.int .i64 0] 30 (0,0))) (fun s9 _=>((len:Int) - intOf s9).toNat)
 case atStart=>exact ⟨0,[],F,Lb,rfl,rfl,HM0.out,HPF.out,HP3.out⟩
 case round=>
  obtain ⟨i,xs,F1,hi,rfl,hxs,hM1,hpf,hp5⟩:=hrel
  have q0:=cl 0 hM1.2.2.2.2;have q1:=cl 1 hM1.2.2.2.2;have q2:=cl 2 hM1.2.2.2.2;have q3:=cl 3 hM1.2.2.2.2;have q4:=cl 4 hM1.2.2.2.2
  have hgi:=Q3m HFIT.out xs Lb
  have hen:=K3 cv xs
  have HM1:=hid hM1;have HI1:=hid hgi;have HEN:=hid (show (Vd cv xs).entries≤40000000 by omega)
  have HEL:=hid (show (Vd cv xs).evs.length≤100000 by have:=hgi.i.ev;have:=Z8 (Vd cv xs).ws;omega)
  have HP5:=hid hp5;have HPF1:=hid hpf;have HXS:=hid hxs
  by_cases hlt:i<len
  · obtain ⟨t,ht⟩:∃t,L[i]?=some t:=⟨_,List.getElem?_eq_getElem (by have:=HLN.out;omega)⟩
    obtain ⟨ub,uo,rfl,hta⟩:=HT.out.2 i t ht
    have HOK:=hid (HT.out.1 t (List.mem_of_getElem? ht))
    have hTn:=hta
    have hta:=hta.fr hM1.2.1
    have y0:=hta.q0;have y1:=hta.q1;have y2:=hta.q2;have y3:=hta.q3;have y4:=hta.q4;have y5:=hta.q5
    have FD:=hid ((Fr.refl [] wr).drew)
    have hlt2:(i:Int)<(len:Int):=Lb
    have hi0:(0:Int)≤(i:Int):=Lb
    clear hM1 hgi hen hxs hpf hp5 ht hta
    go_wp2_with fail
    refine wp_region_held_drew (S:=fun w'=>w'.cell? ⟨ub,uo+i*6,none⟩=some (.int .u8 t.kd)∧w'.cell? ⟨ub,uo+i*6+1,none⟩=some (.int .u8 t.wh)∧w'.cell? ⟨ub,uo+i*6+2,none⟩=some (.int .u8 t.op)∧w'.cell? ⟨ub,uo+i*6+3,none⟩=some (.int .u8 t.sl)∧w'.cell? ⟨ub,uo+i*6+4,none⟩=some (.int .u8 t.gn)∧w'.cell? ⟨ub,uo+i*6+5,none⟩=some (.int .u8 t.nn)∧w'.cell? ⟨q,0,none⟩=some (.int .i64 cv.wo)∧w'.cell? ⟨q,1,none⟩=some (.int .i64 cv.sl)∧w'.cell? ⟨q,2,none⟩=some (.int .i64 cv.st)∧w'.cell? ⟨q,3,none⟩=some (.int .i64 cv.wa)∧w'.cell? ⟨q,4,none⟩=some (.int .i64 cv.us)) (by kernel_rfl) ⟨y0,y1,y2,y3,y4,y5,q0,q1,q2,q3,q4⟩ (fun hHeld=> ?_)
    refine tk 0 ?_
    refine tk 1 ?_
    refine tk 2 ?_
    refine tk 3 ?_
    refine tk 4 ?_
    refine tk 5 ?_
    refine tk 6 ?_
    refine tc 7 (fun K hK=> ?_)
    go_simp
    refine (((HM1.out.fr FD.out).1.events HI1.out.i)).mono ?_
    rintro e w4 ⟨v',rfl,E, -,f4⟩
    obtain ⟨ea,ecap,hve⟩:=J3.form E
    subst hve
    have F4:=hid (FD.out.trans f4)
    have HE4:=hid E
    clear E
    go_wp2_with fail
    refine hK.out _ _ ⟨F4.out.cell y0 Lc,F4.out.cell y1 Lc,F4.out.cell y2 Lc,F4.out.cell y3 Lc,F4.out.cell y4 Lc,F4.out.cell y5 Lc,F4.out.cell q0 Lc,F4.out.cell q1 Lc,F4.out.cell q2 Lc,F4.out.cell q3 Lc,F4.out.cell q4 Lc⟩ (fun hHeld=> ?_)
    clear hK K
    try go_frame
    refine tc 8 (fun K hK=> ?_)
    go_simp
    refine ((Q5e w4 t.kd t.wh t.op t.sl t.gn t.nn HOK.out.a HOK.out.b HOK.out.c HOK.out.d HOK.out.e HOK.out.f cv HSM.out ea ecap (Vd cv xs).evs HE4.out HEL.out)).mono ?_
    rintro e w5 ⟨x,rfl,f5⟩
    have F5:=hid (F4.out.trans f5)
    go_wp2_with fail
    refine hK.out _ _ ⟨F5.out.cell y0 Lc,F5.out.cell y1 Lc,F5.out.cell y2 Lc,F5.out.cell y3 Lc,F5.out.cell y4 Lc,F5.out.cell y5 Lc,F5.out.cell q0 Lc,F5.out.cell q1 Lc,F5.out.cell q2 Lc,F5.out.cell q3 Lc,F5.out.cell q4 Lc⟩ (fun hHeld=> ?_)
    clear hK K
    try go_frame
    refine tc 9 (fun K hK=> ?_)
    go_simp
    refine (((HM1.out.fr F5.out).do2 HI1.out.i (by have:=HEN.out;omega) HI1.out.e HEN.out x)).mono ?_
    rintro e w6 ⟨rfl,F6,M6,g6,hF6⟩
    have hp6:=keep6 HP5.out HPF1.out F5.out g6 hF6
    have HP6:=hid hp6
    clear hp6 g6 hF6
    have HM6:=hid M6
    have z0:=cl 0 M6.2.2.2.2;have z1:=cl 1 M6.2.2.2.2;have z2:=cl 2 M6.2.2.2.2;have z3:=cl 3 M6.2.2.2.2;have z4:=cl 4 M6.2.2.2.2
    have hyt:=(hTn.fr M6.2.1)
    go_wp2_with fail
    refine hK.out _ _ ⟨hyt.q0,hyt.q1,hyt.q2,hyt.q3,hyt.q4,hyt.q5,z0,z1,z2,z3,z4⟩ (fun hHeld=> ?_)
    clear hK K
    try go_frame
    refine wpAnyH_done (by kernel_rfl) ?_ _
    go_wp2
    exact ⟨⟨i+1,xs++[x],F6,Lb,rfl,by rw [List.length_append,HXS.out];rfl,by rw [Q4G];exact HM6.out,HP6.out.1,HP6.out.2⟩,by simp [intOf]<;>omega⟩
  · obtain rfl:i=len:=Lb
    have z5:=HP5.out
    clear hM1 hgi hen hxs hpf hp5
    go_wp2_with fail
    refine wp_region_held_drew (S:=fun w'=>w'.cell? ⟨q,0,none⟩=some (.int .i64 cv.wo)∧w'.cell? ⟨q,1,none⟩=some (.int .i64 cv.sl)∧w'.cell? ⟨q,2,none⟩=some (.int .i64 cv.st)∧w'.cell? ⟨q,3,none⟩=some (.int .i64 cv.wa)∧w'.cell? ⟨q,4,none⟩=some (.int .i64 cv.us)) (by kernel_rfl) ⟨q0,q1,q2,q3,q4⟩ (fun hHeld=> ?_)
    refine tk 0 ?_
    refine tk 1 ?_
    refine tk 2 ?_
    refine tc 3 (fun K hK=> ?_)
    obtain ⟨w4,hrun,hp4,fs⟩:=Yd (P:=Tryz.prog) (Q3B z5) [.int .i64 cv.wo,.int .i64 cv.sl,.int .i64 cv.st,.int .i64 cv.wa,.int .i64 cv.us] 30 rfl rfl (by simp [Value.oneCell'])
    have hqp:=HQP.out
    refine Yp _ _ _ rfl _ _ rfl rfl hrun ?_
    refine hK.out _ _ ⟨fs.cell hHeld.1 (by simp;omega),fs.cell hHeld.2.1 (by simp;omega),fs.cell hHeld.2.2.1 (by simp;omega),fs.cell hHeld.2.2.2.1 (by simp;omega),fs.cell hHeld.2.2.2.2 (by simp;omega)⟩ (fun hHeld=> ?_)
    clear hrun hK K hHeld
    refine wpAnyH_done (by kernel_rfl) ?_ _
    have fd:=(Fr.refl [] wr).drew.mono (S':=[p5]) Lc
    have fr4:=fd.trans fs
    have HF:=hid fr4
    have m0:=cl 0 hp4;have m1:=cl 1 hp4;have m2:=cl 2 hp4;have m3:=cl 3 hp4;have m4:=cl 4 hp4
    clear hp4 fs fd fr4 z5 q0 q1 q2 q3 q4
    go_wp2
    refine bodyPost_ret (v:=.tuple #[pt b.pM,cv.val]) ?_ rfl ⟨cv,b,F1,xs,rfl,HSM.out,by rw [HXS.out], ?_, ?_, ?_⟩
    · simp [results,Tryz.f8,go_sem,m0,m1,m2,m3,m4]
      exact ⟨rfl,rfl⟩
    · exact HM1.out.1.fr HF.out (fun x hx hm=>by rw [List.mem_singleton.1 hm] at hx;exact HPF1.out hx) (by simp;omega) (by simp;omega)
    · exact fun x hx=>(HM1.out.2.2.1 x hx).resolve_left Lc
    · exact HM1.out.2.1.then HF.out (fun x hx=>.inr (by rw [List.mem_singleton.1 hx];exact h5))
theorem Q96 (w:World) (g g':Option Addr) (n n' cap cap':Nat):Calls Tryz.prog 7 #[.slice g n cap,.slice g' n' cap'] w fun e w'=>e=.returned (.bool (decide ((n:Int)≤200)&&decide ((n':Int)≤20)))∧w'=w:=by
 by_cases h:(n:Int)≤200
 · by_cases h':(n':Int)≤20
   · rw [decide_eq_true h,decide_eq_true h']
     go_in
     go_wp2
     go_ret
     exact ⟨rfl,rfl⟩
   · rw [decide_eq_true h,decide_eq_false h']
     go_in
     go_wp2
     go_ret
     exact ⟨rfl,rfl⟩
 · rw [decide_eq_false h]
   go_in
   go_wp2
   go_ret
   exact ⟨rfl,rfl⟩
theorem YL.lt {w:World} {g:Option Addr} {L:List Int} (h:YL w g L) (a:Addr) (ha:g=some a) (hL:L≠[]):a.block<w.heap.size:=by
 obtain ⟨y,hy⟩:∃y,L[0]?=some y:=⟨_,List.getElem?_eq_getElem (List.length_pos_iff.2 hL)⟩
 obtain ⟨b,o,hg,hc⟩:=h.2.2 0 y hy
 rw [hg] at ha
 cases ha
 exact World.block_lt_of_cell? w _ hc
end
section
open Go.RowKit Go.Shelf Go.Lib
attribute [local go_sem] Oper.semAt_some
section
variable {w w' w0:World} {b:Bs} {c:Q0} {S F:List Nat} {m:Qa} {N n:Int} {L:List Th}
theorem MAt.fr2 (A:MAt w F b m N) (f:Fr S w w') (hF:∀x∈F,x∉S) (h0:Qe w' 0 Qc) (h2:Yj w'):MAt w' F b m N:=by
 obtain ⟨ve,vr,v,L,A⟩:=A
 have hs:=f.size
 have B:∀x∈b.l,x∉S:=fun x hx=>hF x (A.bl x hx).2.2
 refine ⟨ve,vr,v,L,A.mb.fr f (B _ (by simp [Bs.l])),A.wr.fr f (B _ (by simp [Bs.l])),A.me.fr f (B _ (by simp [Bs.l])) (B _ (by simp [Bs.l])),A.ck.fr f (B _ (by simp [Bs.l])),A.wl.ov f (B _ (by simp [Bs.l])) (B _ (by simp [Bs.l])) fun x hx=>hF x (A.e2 x hx).1.2.2,J3.fr A.ev f fun x hx=>hF x (A.e1 x hx).1.2.2,
  h0,h2,A.nd,fun x hx=> ?_,fun x hx=> ?_,fun x hx=> ?_,fun k hk=>(A.th k hk).fr f fun x hx=>hF x (A.l1 k hk x hx).1.2.2,A.ln,fun k hk x hx=> ?_,A.l2⟩
 · have:=A.bl x hx;exact ⟨this.1,Lb,this.2.2⟩
 · have:=A.e1 x hx;exact ⟨⟨this.1.1,Lb,this.1.2.2⟩,this.2⟩
 · have:=A.e2 x hx;exact ⟨⟨this.1.1,Lb,this.1.2.2⟩,this.2⟩
 · have:=A.l1 k hk x hx;exact ⟨⟨this.1.1,Lb,this.1.2.2⟩,this.2⟩
abbrev YI (F:List Nat) (b:Bs) (m:Qa):Th:=⟨true,F,fun w=>∃w1 S,Fr S w1 w∧(∀x∈F,x∉S)∧MAt w1 F b m (2*m.entries),fun {S} _ _ f h ⟨w1,S1,g,hS,A⟩=>⟨w1,S1++S,(g.mono fun x hx=>List.mem_append.2 (.inl hx)).trans (f.mono fun x hx=>List.mem_append.2 (.inr hx)),fun x hx hm=>(List.mem_append.1 hm).elim (hS x hx) (h x hx),A⟩⟩
theorem Bag.mac (B:Bag [] w0 (YI F b m::L) w) (hfl:Qe w0 0 Qc) (hdb:Yj w0):MAt w F b m (2*m.entries):=by
 obtain ⟨w1,S,g,hS,A⟩:=B.g 0
 exact A.fr2 g hS (hfl.fr B.fr Lc) (hdb.fr B.fr Lc)
abbrev tWd (g:Nat) (M:List Int):Th:=⟨true,[g],fun w=>g<w.heap.size∧∀j u,M[j]?=some u→w.cell? ⟨g,j,none⟩=some (.int .i64 u),fun f h ⟨k1,k2⟩=>⟨Nat.lt_of_lt_of_le k1 f.size,fun j u e=>f.cell (k2 j u e) (h g Lc)⟩⟩
theorem Bag.Q2p (B:Bag [] w0 (YI F b m::L) w) (hfl:Qe w0 0 Qc) (hdb:Yj w0) (I:MInv n m):
 Calls Tryz.prog 14 #[pt b.pM] w fun e w'=>∃g cp,e=.returned (.slice (some ⟨g,0,none⟩) m.M.length cp)∧Bag [] w0 ((YI F b m::L)++[tWd g m.M]) w':=by
 refine ((B.mac hfl hdb).words I).mono ?_
 rintro e w' ⟨g,cp,rfl,o,f⟩
 obtain ⟨r1,r2⟩:=Dr o Lc
 have l:=J3.lt r1 g rfl
 refine ⟨g,cp,rfl,B.nw (T':=tWd g m.M) ⟨l,fun j u hj=> ?_⟩ f (fun x hx=>by simp at hx;subst hx;exact ⟨r2 x rfl,l⟩) rfl rfl⟩
 have:=J3.cell r1 (j:=j) (u:=.int .i64 u) (by rw [List.getElem?_map,hj];rfl)
 simpa using this
theorem Bag.mstate (B:Bag [] w0 (YI F b m::L) w) (hfl:Qe w0 0 Qc) (hdb:Yj w0) {who:Nat} (hw:who<m.ws.length):
 Calls Tryz.prog 10 #[pt b.pM,.int .i64 who] w fun e w'=>e=.returned (.int .i64 (m.wk who).st)∧Bag [] w0 (YI F b m::L) w':=
 ((B.mac hfl hdb).state hw).mono fun e w' ⟨h,f⟩=>⟨h,B.tm f⟩
end
end
section
open Go.RowKit Go.Shelf Go.Lib
attribute [local go_sem] Oper.semAt_some
theorem Q5c (w:World) (x y:Int) (h0:0≤x) (h1:x≤y):Calls Tryz.prog 52 #[.int .i64 x,.int .i64 y] w fun e w'=>e=.returned (.bool true)∧w'=w:=by
 go_in
 go_wp2
 go_ret
 exact ⟨rfl,rfl⟩
theorem Z00 {P:Prop} (h:P:=by
 clear strL mkI brL usL epL ownE ownL
 go_in
 go_wp2_with fail
 refine (HF.out _ _ _ Lb Lb).mono ?_;rintro e w1 ⟨rfl,rfl⟩;go_wp2_with fail
 refine (HF.out _ _ _ Lb Lb).mono ?_;rintro e w1 ⟨rfl,rfl⟩;go_wp2_with fail
 refine (HF.out _ _ _ Lb Lb).mono ?_;rintro e w1 ⟨rfl,rfl⟩;go_wp2_with fail
 refine (HF.out _ _ _ Lb Lb).mono ?_;rintro e w1 ⟨rfl,rfl⟩;go_wp2_with fail
 refine (HF.out _ _ _ Lb Lb).mono ?_;rintro e w1 ⟨rfl,rfl⟩;go_wp2_with fail
 refine (HF.out _ _ _ Lb Lb).mono ?_;rintro e w1 ⟨rfl,rfl⟩;go_wp2_with fail
 refine (HF.out _ _ _ Lb Lb).mono ?_;rintro e w1 ⟨rfl,rfl⟩;go_wp2_with fail
 all_goals go_ret
 all_goals exact ⟨rfl,FF.out _⟩):P:=h
theorem Q29 (w:World) (s:Q7) (h:s.right):Calls Tryz.prog 38 #[s.val] w fun e w'=>e=.returned (.bool true)∧Fr [] w w':=by
 have HF:=hid fun (w':World) (x y:Int) (a:0≤x) (b:x≤y)=>Q5c w' x y a b
 obtain ⟨st,own,str,br,mkd,us,gen,ep,ver⟩:=s
 obtain ⟨st0,st1,own0,own1,str0,str1,us0,us1,gen0,gen1,ep0,ep1,ver0,ver1,strL,mkI,brL,usL,epL,ownE,ownL⟩:=h
 dsimp only at*
 unfold Q7.val
 have FF:=hid fun (o:Obj)=>(Fr.refl [] w).alloc o
 have hs:st=0∨st=1∨st=2∨st=3∨st=4∨st=5∨st=6:=Lb
 rcases hs with rfl|rfl|rfl|rfl|rfl|rfl|rfl
 · obtain rfl:=strL Lb;obtain rfl:=mkI Lb;obtain rfl:=brL Lb Lb Lb;obtain rfl:=usL Lb Lb Lb;obtain rfl:=epL Lb;obtain rfl:=ownE Lb
   exact Z00
 · obtain rfl:=strL Lb;obtain rfl:=mkI Lb;obtain rfl:=brL Lb Lb Lb;obtain rfl:=usL Lb Lb Lb;obtain rfl:=epL Lb
   exact Z00
 · obtain rfl:=strL Lb;obtain rfl:=epL Lb
   exact Z00
 · obtain rfl:=mkI Lb;obtain rfl:=epL Lb
   exact Z00
 · obtain rfl:=strL Lb;obtain rfl:=mkI Lb;obtain rfl:=epL Lb
   exact Z00
 · obtain rfl:=strL Lb;obtain rfl:=mkI Lb;obtain rfl:=brL Lb Lb Lb;obtain rfl:=usL Lb Lb Lb;obtain rfl:=epL Lb
   exact Z00
 · obtain rfl:=strL Lb;obtain rfl:=mkI Lb;obtain rfl:=brL Lb Lb Lb;obtain rfl:=usL Lb Lb Lb;obtain rfl:=ownL Lb
   exact Z00
theorem Q0B (w:World) (s:Q7) (h:s.right):Calls Tryz.prog 23 #[.int .i64 s.enc] w fun e w'=>e=.returned (.tuple #[s.val,.bool true])∧Fr [] w w':=by
 have HR:=hid fun (w':World)=>Q29 w' s h
 obtain ⟨p1,p2,p3,p4,p5,p6,p7,p8,p9⟩:=Gc h
 have e0:=Ho h
 have e1:=Q7f h
 obtain ⟨en,hen⟩:∃en,s.enc=en:=⟨_,rfl⟩
 rw [hen] at p1 p2 p3 p4 p5 p6 p7 p8 p9 e0 e1 ⊢
 clear hen h
 obtain ⟨st,own,str,br,mkd,us,gen,ep,ver⟩:=s
 unfold Q7.val at HR ⊢
 dsimp only at*
 have P:=hid (And.intro p1 (And.intro p2 (And.intro p3 (And.intro p4 (And.intro p5 (And.intro p6 (And.intro p7 (And.intro p8 p9))))))))
 clear p1 p2 p3 p4 p5 p6 p7 p8 p9
 go_in
 go_wp2_with fail
 have e4:(en / 32768 % 2==1)=br:=by have:=Hq _ _ P.out.2.2.2.1;rw [←this];rfl
 have e5:(en / 65536 % 2==1)=mkd:=by have:=Hq _ _ P.out.2.2.2.2.1;rw [←this];rfl
 rw [P.out.1,P.out.2.1,P.out.2.2.1,e4,e5,P.out.2.2.2.2.2.1,P.out.2.2.2.2.2.2.1,P.out.2.2.2.2.2.2.2.1,P.out.2.2.2.2.2.2.2.2]
 have hb0:=heap_alloc_new w (.cells #[.int .i64 0,.int .i64 0,.int .i64 0,.bool false,.bool false,.int .i64 0,.int .i64 0,.int .i64 0,.int .i64 0] 54)
 have f0:=(Fr.refl [] w).alloc (.cells #[.int .i64 0,.int .i64 0,.int .i64 0,.bool false,.bool false,.int .i64 0,.int .i64 0,.int .i64 0,.int .i64 0] 54)
 have hs0:(w.alloc (.cells #[.int .i64 0,.int .i64 0,.int .i64 0,.bool false,.bool false,.int .i64 0,.int .i64 0,.int .i64 0,.int .i64 0] 54)).heap.size=w.heap.size+1:=World.size_alloc _ _
 generalize w.alloc (.cells #[.int .i64 0,.int .i64 0,.int .i64 0,.bool false,.bool false,.int .i64 0,.int .i64 0,.int .i64 0,.int .i64 0] 54)=w1 at hb0 f0 hs0 ⊢
 have hb1:=heap_alloc_new w1 (.cells #[.int .i64 st,.int .i64 own,.int .i64 str,.bool br,.bool mkd,.int .i64 us,.int .i64 gen,.int .i64 ep,.int .i64 ver] 54)
 have g1:=(Fr.refl [] w1).alloc (.cells #[.int .i64 st,.int .i64 own,.int .i64 str,.bool br,.bool mkd,.int .i64 us,.int .i64 gen,.int .i64 ep,.int .i64 ver] 54)
 rw [hs0] at hb1
 generalize w1.alloc (.cells #[.int .i64 st,.int .i64 own,.int .i64 str,.bool br,.bool mkd,.int .i64 us,.int .i64 gen,.int .i64 ep,.int .i64 ver] 54)=w2 at hb1 g1 ⊢
 replace hb0:=g1.at hb0 Lc
 replace f0:=f0.trans g1
 clear g1 hs0
 refine (HR.out _).mono ?_
 rintro e w3 ⟨rfl,f3⟩
 replace hb0:=f3.at hb0 Lc
 replace hb1:=f3.at hb1 Lc
 replace f0:=f0.trans f3
 clear f3
 have F0:=hid f0
 obtain ⟨p0,hp0⟩:∃p,w.heap.size=p:=⟨_,rfl⟩
 have hp1:¬p0=p0+1:=Lb
 have hp2:¬p0+1=p0:=Lb
 rw [hp0] at hb0 hb1 ⊢
 have q0:=cl 0 hb1;have q1:=cl 1 hb1;have q2:=cl 2 hb1;have q3:=cl 3 hb1;have q4:=cl 4 hb1;have q5:=cl 5 hb1;have q6:=cl 6 hb1;have q7:=cl 7 hb1;have q8:=cl 8 hb1
 have HB:=hid hb0;have HP0:=hid hp0
 clear hb0 hb1 f0 hp0
 obtain ⟨w4,hr4,hb4,f4⟩:=Yd (P:=Tryz.prog) HB.out [.int .i64 st,.int .i64 own,.int .i64 str,.bool br,.bool mkd,.int .i64 us,.int .i64 gen,.int .i64 ep,.int .i64 ver] 54 rfl rfl (by intro v hv;simp only [List.mem_cons,List.not_mem_nil,or_false] at hv;rcases hv with h|h|h|h|h|h|h|h|h<;>rw [h]<;>rfl)
 have HR4:=hid hr4
 have HB4:=hid hb4
 have HF4:=hid ((F0.out).then f4 (by intro x hx;right;simp at hx;have:=HP0.out;omega))
 clear hr4 hb4 f4
 go_wp2_with (first|(refine X8 rfl _ _ _ rfl _ _ rfl rfl HR4.out ?_)|fail)
 have m0:=cl 0 HB4.out;have m1:=cl 1 HB4.out;have m2:=cl 2 HB4.out;have m3:=cl 3 HB4.out;have m4:=cl 4 HB4.out;have m5:=cl 5 HB4.out;have m6:=cl 6 HB4.out;have m7:=cl 7 HB4.out;have m8:=cl 8 HB4.out
 refine bodyPost_ret (v:=.tuple #[.agg #[.int .i64 st,.int .i64 own,.int .i64 str,.bool br,.bool mkd,.int .i64 us,.int .i64 gen,.int .i64 ep,.int .i64 ver],.bool true]) ?_ rfl ⟨rfl,HF4.out⟩
 simp [results,Tryz.f23,go_sem,m0,m1,m2,m3,m4,m5,m6,m7,m8]
theorem Q4e:(Tryz.prog.info? 54).map (fun i=>(i.zero,i.size,i.bytes))=some (some (.agg #[.int .i64 0,.int .i64 0,.int .i64 0,.bool false,.bool false,.int .i64 0,.int .i64 0,.int .i64 0,.int .i64 0]),9,64):=by kernel_rfl
abbrev tSl (v:Value) (n:Nat) (C:List Value):Th:=⟨true,v.ownBlock.toList,fun w=>J3 54 9 w v n C,fun f h k=>k.fr f fun b hb=>h b (by simp [hb])⟩
def slC (c:Q0) (M:List Int) (n:Nat):List Value:=(List.range n).flatMap fun i:Nat=>(SL c M (i:Int)).cells
theorem WC (c:Q0) (M:List Int):∀n,(slC c M n).length=n*9
 |0=>by simp [slC]
 |n+1=>by
  have:=WC c M n
  unfold slC at*
  rw [List.range_succ,List.flatMap_append,List.length_append,this];simp [Q7.cells];omega
theorem Q0v (c:Q0) (M:List Int) (n:Nat):slC c M (n+1)=slC c M n++(SL c M n).cells:=by unfold slC;rw [List.range_succ,List.flatMap_append];simp
theorem slC_at (c:Q0) (M:List Int) {n k j:Nat} (h:k<n) (hj:j<9):(slC c M n)[k*9+j]?=(SL c M k).cells[j]?:=by
 induction n with
 |zero=>omega
 |succ n ih=>
  rw [Q0v]
  by_cases hk:k<n
  · rw [List.getElem?_append_left (by rw [WC];omega)];exact ih hk
  · obtain rfl:k=n:=Lb
    rw [List.getElem?_append_right (by rw [WC];omega),WC,show k*9+j - k*9=j by omega]
theorem Bag.nl {S0:List Nat} {w0 w:World} {L L':List Th} (B:Bag S0 w0 L w) (hL:L=L':=by (try simp only [List.nil_append,List.cons_append]);exact rfl):Bag S0 w0 L' w:=hL▸B
theorem Bag.slots {S0:List Nat} {w0 w:World} {L:List Th} (B:Bag S0 w0 L w) (i j:Nat) {ve:Value} {N:Nat} {C:List Value} {b:Nat} {t:TypeId} {o:Bool} (es:List Value) (hlen:N≤100000) (hi:gt L i=tSl ve N C:=by exact rfl) (hj:gt L j=tRo o b es.toArray t:=by exact rfl) (hes:es.length=9:=by rfl) (h1:∀u∈es,u.oneCell'=true:=by simp [Value.oneCell'])
 (hil:i<L.length:=by exact Nat.lt_of_sub_ne_zero (by intro h;cases h)):
  ∃g off cap w',(Builtin.append_ #[42,42] 42 #[ve,.slice (some ⟨b,0,none⟩) 1 1]).run Tryz.prog w=.ok (.slice (some ⟨g,off,none⟩) (N+1) cap) w'∧Bag S0 w0 (L.set i (tSl (.slice (some ⟨g,off,none⟩) (N+1) cap) (N+1) (C++es))) w':=by
 have k:=B.g i
 rw [hi] at k
 have q:=B.q j hj
 obtain ⟨i0,hi0,hz0,hz1,hz2⟩:=info_parts Q4e
 obtain ⟨g,off,cap2,w5,hrun,hr2,fa,hg,hlt⟩:=Yq (P:=Tryz.prog) w 42 42 54 i0 _ 9 Tryz.underlying42 hi0 hz0 hz1 Lb rfl ve _ _ k ⟨b,0,none⟩ 1 es hes (fun j u hj=>by rw [Addr.add_lit,Nat.zero_add,q j];simpa using hj) h1 hlen
 refine ⟨g,off,cap2,w5,hrun,B.up' i (T':=tSl _ _ _) hr2 fa (fun x hx=>⟨by rw [hi],by rw [hi];exact hx⟩) (fun x hx=> ?_) hil⟩
 simp [Value.ownBlock] at hx
 subst hx
 refine ⟨hlt,hg.elim (fun h=>.inl ⟨fun _=>by rw [hi],by rw [hi];simp [h]⟩) (fun h=>.inr (Nat.le_of_eq h.symm))⟩
theorem U9 (w:World) (cv:Q0) (hs:cv.small) (M:List Int) (g cap:Nat) (hN:(M.length:Int)=cv.cells) (hM:∀j u,M[j]?=some u→w.cell? ⟨g,j,none⟩=some (.int .i64 u)) (hsl:∀i,0≤i→i<cv.sl→(SL cv M i).right∧Q6 M (cv.slot i)=(SL cv M i).enc):
 Calls Tryz.prog 13 #[cv.val,.slice (some ⟨g,0,none⟩) M.length cap] w fun e w'=>∃a c,e=.returned (.slice a cv.sl.toNat c)∧J3 54 9 w' (.slice a cv.sl.toNat c) cv.sl.toNat (slC cv M cv.sl.toNat)∧(∀b,(Value.slice a cv.sl.toNat c).ownBlock=some b→w.heap.size≤b)∧Fr [] w w':=by
 obtain ⟨N,hNN⟩:∃N,M.length=N:=⟨_,rfl⟩
 have HM:=hid hM;have HSL:=hid hsl;have HSM:=hid hs;have HN:=hid hNN
 have HCE:=hid fun wx=>Ua wx cv hs
 rw [hNN] at hN ⊢
 rw [←hN] at HCE
 have HNC:=hid hN
 have H0:=hid fun (wx:World)=>J3.nil 54 9 wx
 obtain ⟨⟨o0,o1⟩,⟨l0,l1⟩, -⟩:=hs
 obtain ⟨wo,sl,st,wa,us⟩:=cv
 dsimp only at o0 o1 l0 l1
 obtain ⟨sl,rfl⟩:∃n:Nat,sl=n:=⟨sl.toNat,Lb⟩
 obtain ⟨cv,hcv⟩:∃cv,(⟨wo,sl,st,wa,us⟩:Q0)=cv:=⟨_,rfl⟩
 rw [hcv] at HSM HSL HNC ⊢
 have HCV:=hid hcv
 have hsl2:cv.sl.toNat=sl:=by rw [←hcv];simp
 rw [hsl2]
 have HS2:=hid hsl2
 unfold Q0.val at HCE ⊢
 rw [←hcv]
 dsimp only at HCE ⊢
 rw [hcv]
 clear hM hsl hNN hN hcv hsl2
 go_in
 go_wp2_with fail
 generalize hb:(World.heap _).size=q,hw:World.alloc _ _=w1
 have B:=(Bag.nil [] w).al hw hb
 clear hb hw
 have HB:=hid ((B.add (tSl (.slice none 0 0) 0 []) (H0.out _) (fun x hx=>by simp [Value.ownBlock] at hx) (fun i x hx=>by simp [Value.ownBlock] at hx) (fun _ x hx=>by simp [Value.ownBlock] at hx)).nl)
 clear B H0
 go_loopw [5,6,7,8] (fun s5 s6 _ _ wr=>∃(i:Nat) (a:Option Addr) (c:Nat),i≤sl∧s5=.slice a i c∧s6=.int .i64 i∧Bag [] w [tR q #[.int .i64 wo,.int .i64 sl,.int .i64 st,.int .i64 wa,.int .i64 us] 30,tSl (.slice a i c) i (slC cv M i)] wr) (fun _ s6 _ _ _=>((sl:Int) - intOf s6).toNat)
 case atStart=>exact ⟨0,none,0,Nat.zero_le _,rfl,rfl,by unfold slC;exact HB.out⟩
 case round=>
  obtain ⟨i,a,c,hi,rfl,rfl,B⟩:=hrel
  clear HB
  by_cases hlt:i<sl
  · have hlt2:(i:Int)<(sl:Int):=Lb
    have hi0:(0:Int)≤(i:Int):=Lb
    obtain ⟨hr,hl⟩:=HSL.out i hi0 (by rw [←HCV.out];exact hlt2)
    have HS:=hid fun wx=>Dl wx cv i HSM.out hi0 (by rw [←HCV.out];exact hlt2)
    obtain ⟨s,hs⟩:∃s:Nat,cv.slot i=s:=⟨(cv.slot i).toNat,by rw [←HCV.out];unfold Q0.slot;dsimp only;omega⟩
    have hsN:s<N:=by have a:=HNC.out;rw [←HCV.out] at a hs;unfold Q0.slot at hs;unfold Q0.cells at a;dsimp only at a hs;omega
    rw [hs] at hl HS
    rw [←HCV.out] at HS
    unfold Q0.val at HS
    dsimp only at HS
    obtain ⟨z,hz⟩:∃z,SL cv M i=z:=⟨_,rfl⟩
    rw [hz] at hr hl
    have HZ:=hid hz
    have HDE:=hid fun wx=>Q0B wx z hr
    unfold Q7.val at HDE
    have HMS:=hid (show M[s]?=some z.enc from by
     rw [←hl,List.getElem?_eq_getElem (by rw [HN.out];exact hsN)]
     unfold Q6 isIn
     have h1:decide (0≤(s:Int)∧(s:Int)<M.length)=true:=by simp;rw [HN.out];exact hsN
     rw [if_pos h1]
     simp [List.getD_eq_getElem?_getD,List.getElem?_eq_getElem (show s<M.length by rw [HN.out];exact hsN)])
    clear hr hl hs hz
    have qc:=B.q 0
    go_wp2_with fail
    refine (HCE.out _).mono ?_
    rintro e w2 ⟨rfl,f⟩
    replace B:=B.tm f
    clear f qc
    have qc:=B.q 0
    go_wp2_with fail
    refine (HS.out _).mono ?_
    rintro e w3 ⟨rfl,f⟩
    replace B:=B.tm f
    clear f qc HS
    have c2:=B.fr.cell (HM.out s _ HMS.out) Lc
    have hs1:(s:Int)<(N:Int):=Lb
    have hs0:(0:Int)≤(s:Int):=Lb
    go_wp2_with fail
    refine (HDE.out _).mono ?_
    rintro e w4 ⟨rfl,f⟩
    replace B:=B.tm f
    clear f c2 HDE
    go_upto_region 6 with fail
    generalize hb:(World.heap _).size=bz,hw:World.alloc _ _=w5
    replace B:=B.al hw hb
    clear hw hb
    have qz:=B.q 2;have uz:=B.u 2
    have B5:=B.al (w':=w5.alloc (.cells #[.int .i64 z.st,.int .i64 z.own,.int .i64 z.str,.bool z.br,.bool z.mkd,.int .i64 z.us,.int .i64 z.gen,.int .i64 z.ep,.int .i64 z.ver] 54)) rfl rfl
    obtain ⟨g',off,cap',w6,hrun,B6⟩:=B5.slots 1 3 (ve:=.slice a i c) (N:=i) (C:=slC cv M i) z.cells Lb (h1:=by simp [Value.oneCell',Q7.cells])
    have HB6:=hid (show Bag [] w [tR q #[.int .i64 wo,.int .i64 sl,.int .i64 st,.int .i64 wa,.int .i64 us] 30,tSl (.slice (some ⟨g',off,none⟩) (i+1) cap') (i+1) (slC cv M (i+1))] w6 from by rw [Q0v,HZ.out];exact B6.tk 2)
    clear B6 B5
    go_wp2_with (first|(at_builtin;refine wpList_append_run _ rfl _ _ _ _ rfl _ _ rfl rfl hrun ?_)|fail)
    exact ⟨⟨i+1,_,_,Lb,rfl,by go_num,HB6.out⟩,by simp [intOf]<;>omega⟩
  · obtain rfl:i=sl:=Lb
    have qc:=B.q 0
    go_wp2_with fail
    go_ret
    exact ⟨a,c,rfl,B.g 1,fun b hb=>B.new 1 (by simp [hb]),B.fr⟩
end
end Go.Proofs.YtgjklfmnmljilaaGreatDoor

/- A part of the proof. -/
import Derived.Test.YtgjklfmnmljilaaGreatDoorZR32
namespace Go.Proofs.YtgjklfmnmljilaaGreatDoor
set_option linter.unusedVariables false
set_option linter.unusedSimpArgs false
set_option linter.unusedSectionVars false
set_option linter.unnecessarySimpa false
set_option maxRecDepth 100000
set_option maxHeartbeats 8000000
section
open Go.RowKit Go.Shelf Go.Lib
attribute [local go_sem] Oper.semAt_some
variable (w:World) (pM pW pm pc pw n who:Nat) (ve:Value) (c:Q0) (ent mat:Int) (f:Nat→List Value) (k:Q8) (v:Je)
theorem Q2I (w:World) (pM pW pm pc pw n qm:Nat) (ve:Value) (c:Q0) (ent mat:Int) (M:List Int) (N:Int) (hMB:QG w pM pW pm pc pw n ve c ent mat) (hM:Qm w pm qm M N) (hN:N≤100000000) (hc:c.fits) (hG:Qe w 0 Qc) (hne:pm≠pM∧qm≠pM∧0<pM∧0<pm∧0<qm) (i:Int) (hneg:Q5 c i<0):
 Calls Tryz.prog 29 #[.pointer (some ⟨pM,0,none⟩),.int .i64 i] w fun e w'=>e=.returned (.bool false)∧Qm w' pm qm M (N+2)∧Fr [pm,qm] w w':=by
 have HSL:=hid fun w'=>J9 w' c i hc
 unfold Q0.val at HSL
 generalize Q5 c i=cell at*
 have B:Bag [pm,qm] w [tRo false pM _ _,tM pm qm M N,tF] w:=Bag.of (by simp only [List.forall_mem_cons];exact ⟨hMB,hM,hG,Lc⟩) (by have:=hM.ne;simp;omega) (by have:=Q9 hMB;have:=hM.plt;have:=hM.qlt;simp;omega) Lc
 clear hMB hM hG hne
 have m:=B.q 0
 go_in
 go_wp2_with fail
 clear m
 refine (HSL.out _).mono ?_
 rintro e w1 ⟨rfl,f1⟩
 replace B:=B.tm f1
 go_wp2
 go_ret
 exact ⟨rfl,Qm.mono (B.g 1) Lb,B.fr⟩
theorem Q14 (w:World) (pM pW pm pc pw n qm:Nat) (ve:Value) (c:Q0) (ent mat:Int) (M:List Int) (N:Int) (hMB:QG w pM pW pm pc pw n ve c ent mat) (hM:Qm w pm qm M N) (hN:N≤100000000) (hc:c.fits) (hG:Qe w 0 Qc) (hne:pm≠pM∧qm≠pM∧0<pM∧0<pm∧0<qm) (i:Int) (s:Q7) (hpos:0≤Q5 c i) (hs:s.right) (hld:Q6 M (Q5 c i)=s.enc) (hn:Qk s 13 0 0=none):
 Calls Tryz.prog 29 #[.pointer (some ⟨pM,0,none⟩),.int .i64 i] w fun e w'=>e=.returned (.bool false)∧Qm w' pm qm M (N+2)∧Fr [pm,qm] w w':=by
 have HSL:=hid fun w'=>J9 w' c i hc
 unfold Q0.val at HSL
 have HLD:=hid fun w' h=>Za w' pm qm M N (Q5 c i) h Lb
 have HAF:=hid fun w' h=>Vf w' s 13 0 hs Lb Lb Lb h
 rw [hld] at HLD
 rw [show ((13:Nat):Int)=13 from rfl,hn] at HAF
 rw [show ET none=0 from rfl,Option.isSome_none] at HAF
 have B:Bag [pm,qm] w [tRo false pM _ _,tM pm qm M N,tF] w:=Bag.of (by simp only [List.forall_mem_cons];exact ⟨hMB,hM,hG,Lc⟩) (by have:=hM.ne;simp;omega) (by have:=Q9 hMB;have:=hM.plt;have:=hM.qlt;simp;omega) Lc
 generalize s.enc=en at HLD HAF
 generalize Q5 c i=cell at*
 clear hs hn
 clear hMB hM hG hne
 have m:=B.q 0
 go_in
 go_wp2_with fail
 clear m
 refine (HSL.out _).mono ?_
 rintro e w1 ⟨rfl,f1⟩
 replace B:=B.tm f1
 have hnn:¬cell<0:=Lb
 have m:=B.q 0
 go_wp2_with fail
 clear m
 refine (HLD.out _ (B.g 1)).mono ?_
 rintro e w2 ⟨rfl,h2,f2⟩
 replace B:=B.up 1 (T':=tM pm qm _ _) h2 f2
 go_wp2_with fail
 refine (HAF.out _ (B.g 2)).mono ?_
 rintro e w3 ⟨rfl,f3⟩
 replace B:=B.tm f3
 go_wp2
 go_ret
 exact ⟨rfl,Qm.mono (B.g 1) Lb,B.fr⟩
theorem Q13 (w:World) (pM pW pm pc pw n qm:Nat) (ve:Value) (c:Q0) (ent mat:Int) (M:List Int) (N:Int) (hMB:QG w pM pW pm pc pw n ve c ent mat) (hM:Qm w pm qm M N) (hN:N≤100000000) (hc:c.fits) (hG:Qe w 0 Qc) (hne:pm≠pM∧qm≠pM∧0<pM∧0<pm∧0<qm) (i:Int) (s:Q7) (hpos:0≤Q5 c i) (hs:s.right) (hld:Q6 M (Q5 c i)=s.enc) (u:Q7) (hin:Q5 c i<(M.length:Int)) (hn:Qk s 13 0 0=some u):
 Calls Tryz.prog 29 #[.pointer (some ⟨pM,0,none⟩),.int .i64 i] w fun e w'=>e=.returned (.bool true)∧Qm w' pm qm (Qp M (Q5 c i) u.enc) (N+2)∧Fr [pm,qm] w w':=by
 have HSL:=hid fun w'=>J9 w' c i hc
 unfold Q0.val at HSL
 have HLD:=hid fun w' h=>Za w' pm qm M N (Q5 c i) h Lb
 have HAF:=hid fun w' h=>Vf w' s 13 0 hs Lb Lb Lb h
 rw [hld] at HLD
 rw [show ((13:Nat):Int)=13 from rfl,hn] at HAF
 rw [show ET (some u)=u.enc from rfl,Option.isSome_some] at HAF
 have HST:=hid fun w' h=>Vx w' pm qm M (N+1) (Q5 c i) u.enc h Lb
 rw [Jf hpos hin] at HST
 have B:Bag [pm,qm] w [tRo false pM _ _,tM pm qm M N,tF] w:=Bag.of (by simp only [List.forall_mem_cons];exact ⟨hMB,hM,hG,Lc⟩) (by have:=hM.ne;simp;omega) (by have:=Q9 hMB;have:=hM.plt;have:=hM.qlt;simp;omega) Lc
 generalize s.enc=en at HLD HAF
 generalize u.enc=ue at HST HAF ⊢
 generalize Q5 c i=cell at*
 clear hs hn
 clear hMB hM hG hne
 have m:=B.q 0
 go_in
 go_wp2_with fail
 clear m
 refine (HSL.out _).mono ?_
 rintro e w1 ⟨rfl,f1⟩
 replace B:=B.tm f1
 have hnn:¬cell<0:=Lb
 have m:=B.q 0
 go_wp2_with fail
 clear m
 refine (HLD.out _ (B.g 1)).mono ?_
 rintro e w2 ⟨rfl,h2,f2⟩
 replace B:=B.up 1 (T':=tM pm qm _ _) h2 f2
 go_wp2_with fail
 refine (HAF.out _ (B.g 2)).mono ?_
 rintro e w3 ⟨rfl,f3⟩
 replace B:=B.tm f3
 have m:=B.q 0
 go_wp2_with fail
 clear m
 refine (HST.out _ (B.g 1)).mono ?_
 rintro e w4 ⟨rfl,h4,f4⟩
 replace B:=B.up 1 (T':=tM pm qm _ _) h4 f4
 go_wp2
 go_ret
 exact ⟨rfl,Qm.mono (B.g 1) Lb,B.fr⟩
theorem Ez (hMB:QG w pM pW pm pc pw n ve c ent mat) (hW:QL w pW n (upd f who (k.cells v))) (hk:who<n) (hne:pM≠pW) (gb pb:Bool) (HGR:∀w',Fr [] w w'→Calls Tryz.prog 53 #[.pointer (some ⟨pM,0,none⟩),.int .i64 who] w' fun e w2=>e=.returned (.bool gb)∧Fr [] w' w2) (HPA:∀w',Fr [] w w'→Calls Tryz.prog 54 #[.pointer (some ⟨pc,0,none⟩),.int .i64 k.ask.dl] w' fun e w2=>e=.returned (.bool pb)∧Fr [] w' w2) (hg:gb=true):
 Calls Tryz.prog 39 #[.pointer (some ⟨pM,0,none⟩),.int .i64 who] w fun e w'=>e=.returned (.bool true)∧Fr [] w w':=by
 subst hg
 have B:Bag [pW] w [tRo false pM _ _,tW pW n f who _] w:=Zn hMB hW hne
 dsimp only [Q8.cells] at B
 have HGX:=hid HGR;have HPX:=hid HPA
 clear hMB hW hne HGR HPA
 have ha1:∀j:Nat,who*35+1+j=who*35+(1+j):=fun j=>Nat.add_assoc _ _ _
 have m:=B.q 0
 go_in
 go_wp2_with fail
 clear m
 refine rgf B fun _ fc B=> ?_
 refine tj 0 ?_
 refine tj 1 ?_
 refine tc 2 fun K hK=> ?_
 go_simp
 refine (HGX.out _ fc).mono ?_
 rintro e w1 ⟨rfl,f1⟩
 replace B:=B.tm f1
 go_wp2_with fail
 refine bk hK ?_
 clear hK K
 try go_frame
 repeat first|refine tb ?_|refine tv ?_
 refine wpAnyH_done (by decide+kernel) ?_ _
 go_wp2
 go_ret
 exact ⟨rfl,fc.trans f1⟩
theorem Q0Y (hMB:QG w pM pW pm pc pw n ve c ent mat) (hW:QL w pW n (upd f who (k.cells v))) (hk:who<n) (hne:pM≠pW) (gb pb:Bool) (HGR:∀w',Fr [] w w'→Calls Tryz.prog 53 #[.pointer (some ⟨pM,0,none⟩),.int .i64 who] w' fun e w2=>e=.returned (.bool gb)∧Fr [] w' w2) (HPA:∀w',Fr [] w w'→Calls Tryz.prog 54 #[.pointer (some ⟨pc,0,none⟩),.int .i64 k.ask.dl] w' fun e w2=>e=.returned (.bool pb)∧Fr [] w' w2) (hg:gb=false) (ht:k.timed=false):
 Calls Tryz.prog 39 #[.pointer (some ⟨pM,0,none⟩),.int .i64 who] w fun e w'=>e=.returned (.bool false)∧Fr [] w w':=by
 subst hg
 have B:Bag [pW] w [tRo false pM _ _,tW pW n f who _] w:=Zn hMB hW hne
 rw [Q8.cells,ht] at B
 dsimp only [Q8.cells] at B
 have HGX:=hid HGR;have HPX:=hid HPA
 clear hMB hW hne HGR HPA
 have ha1:∀j:Nat,who*35+1+j=who*35+(1+j):=fun j=>Nat.add_assoc _ _ _
 have m:=B.q 0
 go_in
 go_wp2_with fail
 clear m
 refine rgf B fun _ fc B=> ?_
 refine tj 0 ?_
 refine tj 1 ?_
 refine tc 2 fun K hK=> ?_
 go_simp
 refine (HGX.out _ fc).mono ?_
 rintro e w1 ⟨rfl,f1⟩
 replace B:=B.tm f1
 go_wp2_with fail
 refine bk hK ?_
 clear hK K
 try go_frame
 repeat first|refine tb ?_|refine tv ?_
 refine wpAnyH_done (by decide+kernel) ?_ _
 go_wp2
 go_ret
 exact ⟨rfl,fc.trans f1⟩
theorem UU (hMB:QG w pM pW pm pc pw n ve c ent mat) (hW:QL w pW n (upd f who (k.cells v))) (hk:who<n) (hne:pM≠pW) (gb pb:Bool) (HGR:∀w',Fr [] w w'→Calls Tryz.prog 53 #[.pointer (some ⟨pM,0,none⟩),.int .i64 who] w' fun e w2=>e=.returned (.bool gb)∧Fr [] w' w2) (HPA:∀w',Fr [] w w'→Calls Tryz.prog 54 #[.pointer (some ⟨pc,0,none⟩),.int .i64 k.ask.dl] w' fun e w2=>e=.returned (.bool pb)∧Fr [] w' w2) (hg:gb=false) (ht:k.timed=true):
 Calls Tryz.prog 39 #[.pointer (some ⟨pM,0,none⟩),.int .i64 who] w fun e w'=>e=.returned (.bool pb)∧Fr [] w w':=by
 subst hg
 have B:Bag [pW] w [tRo false pM _ _,tW pW n f who _] w:=Zn hMB hW hne
 rw [Q8.cells,ht] at B
 dsimp only [Q8.cells] at B
 have HGX:=hid HGR;have HPX:=hid HPA
 clear hMB hW hne HGR HPA
 have ha1:∀j:Nat,who*35+1+j=who*35+(1+j):=fun j=>Nat.add_assoc _ _ _
 have m:=B.q 0
 go_in
 go_wp2_with fail
 clear m
 refine rgf B fun _ fc B=> ?_
 refine tj 0 ?_
 refine tj 1 ?_
 refine tc 2 fun K hK=> ?_
 go_simp
 refine (HGX.out _ fc).mono ?_
 rintro e w1 ⟨rfl,f1⟩
 replace B:=B.tm f1
 go_wp2_with fail
 refine bk hK ?_
 clear hK K
 try go_frame
 repeat first|refine tb ?_|refine tv ?_
 refine tc 18 fun K hK=> ?_
 go_simp
 refine (HPX.out _ (fc.trans f1)).mono ?_
 rintro e w2 ⟨rfl,f2⟩
 replace B:=B.tm f2
 go_wp2_with fail
 refine bk hK ?_
 clear hK K
 try go_frame
 repeat first|refine tb ?_|refine tv ?_
 refine wpAnyH_done (by decide+kernel) ?_ _
 go_wp2
 go_ret
 exact ⟨rfl,(fc.trans f1).trans f2⟩
theorem UR (hMB:QG w pM pW pm pc pw n ve c ent mat) (hW:QL w pW n (upd f who (k.cells v))) (hk:who<n) (hne:pM≠pW) (HGR:Calls Tryz.prog 53 #[.pointer (some ⟨pM,0,none⟩),.int .i64 who] w fun e w2=>e=.returned (.bool true)∧Fr [] w w2) (X:World→Prop) (HNX:∀w',QG w' pM pW pm pc pw n ve c ent mat→QL w' pW n (upd f who (({k with st:=7}:Q8).cells v))→Fr [pW] w w'→Calls Tryz.prog 62 #[.pointer (some ⟨pM,0,none⟩),.int .i64 who] w' fun e w2=>e=.returned (.tuple #[])∧X w2):
 Calls Tryz.prog 61 #[.pointer (some ⟨pM,0,none⟩),.int .i64 who] w fun e w'=>e=.returned (.tuple #[])∧X w':=by
 have B:Bag [pW] w [tRo false pM _ _,tW pW n f who _] w:=Zn hMB hW hne
 dsimp only [Q8.cells] at B
 have HNY:=hid HNX
 clear hMB hW hne HNX
 have m:=B.q 0
 go_in
 go_wp2_with fail
 clear m
 refine HGR.mono ?_
 rintro e w1 ⟨rfl,f1⟩
 replace B:=B.tm f1
 have q:=B.wq 1 hk;have q0:=B.wq0 1 hk;have u:=B.wu 1;have m:=B.q 0
 go_wp2_with fail
 clear q q0 u m
 generalize hw:World.setCell _ _ _=w3
 replace B:=((B.ws0 1 hk)).e hw
 refine (HNY.out _ (B.g 0) (B.g 1) B.fr).mono ?_
 rintro e w9 ⟨rfl,hX⟩
 go_wp2_with fail
 try simp only [Exit.inBlock,Exit.then]
 refine bodyPost_ret (results_none rfl _ _ _) rfl ?_
 exact ⟨rfl,hX⟩
theorem Ug (hMB:QG w pM pW pm pc pw n ve c ent mat) (hW:QL w pW n (upd f who (k.cells v))) (hk:who<n) (hne:pM≠pW) (HGR:Calls Tryz.prog 53 #[.pointer (some ⟨pM,0,none⟩),.int .i64 who] w fun e w2=>e=.returned (.bool false)∧Fr [] w w2) (X:World→Prop) (HNX:∀w' q,w.heap.size≤q→Jd w' q c (QX who)→QG w' pM pW pm pc pw n ve c ent mat→QL w' pW n (upd f who (({k with qu:=some (QX who),st:=8}:Q8).cells {v with vq:=.pointer (some ⟨q,0,none⟩)}))→Fr [pW] w w'→Calls Tryz.prog 63 #[.pointer (some ⟨pM,0,none⟩),.int .i64 who] w' fun e w2=>e=.returned (.tuple #[])∧X w2):
 Calls Tryz.prog 61 #[.pointer (some ⟨pM,0,none⟩),.int .i64 who] w fun e w'=>e=.returned (.tuple #[])∧X w':=by
 have HY:=hid fun w'=>Q50 w' c who
 unfold Q0.val at HY
 have B:Bag [pW] w [tRo false pM _ _,tW pW n f who _] w:=Zn hMB hW hne
 dsimp only [Q8.cells] at B
 have HNY:=hid HNX
 clear hMB hW hne HNX
 have m:=B.q 0
 go_in
 go_wp2_with fail
 clear m
 refine HGR.mono ?_
 rintro e w1 ⟨rfl,f1⟩
 replace B:=B.tm f1
 have m:=B.q 0
 go_wp2_with fail
 clear m
 refine (HY.out _).mono ?_
 rintro e w2 ⟨q,rfl,hq,ht,f2⟩
 have hs:=B.fr.size
 replace B:=B.nw (T':=tQu q c _) ht f2 (fun x hx=>by simp at hx;subst hx;exact ⟨hq,Q9 ht⟩)
 replace hq:=Nat.le_trans hs hq
 have q:=B.wq 1 hk;have q0:=B.wq0 1 hk;have u:=B.wu 1;have m:=B.q 0
 go_wp2_with fail
 clear q q0 u m
 generalize hw:World.setCell _ _ _=w3
 replace B:=(((B.ws 1 hk).ws0 1 hk)).e hw
 refine (HNY.out _ q hq (B.g 2) (B.g 0) (B.g 1) B.fr).mono ?_
 rintro e w9 ⟨rfl,hX⟩
 go_wp2_with fail
 go_end0
 exact ⟨rfl,hX⟩
end
section
open Go.RowKit Go.Shelf Go.Lib
attribute [local go_sem] Oper.semAt_some
variable (w:World) (pM pW pm pc pw n who:Nat) (ve:Value) (c:Q0) (ent mat:Int) (f:Nat→List Value) (k:Q8) (v:Je)
theorem Xo (hMB:QG w pM pW pm pc pw n ve c ent mat) (hW:QL w pW n (upd f who (k.cells v))) (hk:who<n) (hne:pM≠pW) (fn:FuncId) (bt bm bw:Nat) (hv:v.vw=.func (.func fn) #[] #[.pointer (some ⟨bt,0,none⟩),.pointer (some ⟨bm,0,none⟩),.pointer (some ⟨bw,0,none⟩)]) (hcf:∀(args:Array Value) (wx:World),(callFunc fn args).run Tryz.prog wx=.ok (.enter fn args) wx) (X:World→Prop) (HC:Calls Tryz.prog fn #[.pointer (some ⟨bt,0,none⟩),.pointer (some ⟨bm,0,none⟩),.pointer (some ⟨bw,0,none⟩)] w fun e w2=>e=.returned (.tuple #[])∧X w2):
 Calls Tryz.prog 57 #[.pointer (some ⟨pM,0,none⟩),.int .i64 who] w fun e w'=>e=.returned (.tuple #[])∧X w':=by
 have B:Bag [pW] w [tRo false pM _ _,tW pW n f who _] w:=Zn hMB hW hne
 rw [Q8.cells,hv] at B
 clear hMB hW hne hv
 have q:=B.wq 1 hk;have m:=B.q 0
 go_in
 go_wp2_with fail
 refine HC.mono ?_
 rintro e w9 ⟨rfl,hX⟩
 go_wp2_with fail
 go_end0
 exact ⟨rfl,hX⟩
theorem GA (hMB:QG w pM pW pm pc pw n ve c ent mat) (hW:QL w pW n (upd f who (k.cells v))) (hk:who<n) (hne:pM≠pW) (fn:FuncId) (bt bm bw bf:Nat) (hv:v.vw=.func (.func fn) #[] #[.pointer (some ⟨bt,0,none⟩),.pointer (some ⟨bm,0,none⟩),.pointer (some ⟨bw,0,none⟩),.pointer (some ⟨bf,0,none⟩)]) (hcf:∀(args:Array Value) (wx:World),(callFunc fn args).run Tryz.prog wx=.ok (.enter fn args) wx) (X:World→Prop) (HC:Calls Tryz.prog fn #[.pointer (some ⟨bt,0,none⟩),.pointer (some ⟨bm,0,none⟩),.pointer (some ⟨bw,0,none⟩),.pointer (some ⟨bf,0,none⟩)] w fun e w2=>e=.returned (.tuple #[])∧X w2):
 Calls Tryz.prog 57 #[.pointer (some ⟨pM,0,none⟩),.int .i64 who] w fun e w'=>e=.returned (.tuple #[])∧X w':=by
 have B:Bag [pW] w [tRo false pM _ _,tW pW n f who _] w:=Zn hMB hW hne
 rw [Q8.cells,hv] at B
 clear hMB hW hne hv
 have q:=B.wq 1 hk;have m:=B.q 0
 go_in
 go_wp2_with fail
 refine HC.mono ?_
 rintro e w9 ⟨rfl,hX⟩
 go_wp2_with fail
 go_end0
 exact ⟨rfl,hX⟩
theorem Q2K (hMB:QG w pM pW pm pc pw n ve c ent mat) (hW:QL w pW n (upd f who (k.cells v))) (hk:who<n) (hne:pM≠pW):Calls Tryz.prog 10 #[.pointer (some ⟨pM,0,none⟩),.int .i64 who] w fun e w'=>e=.returned (.int .i64 k.st)∧Fr [] w w':=by
 have HHA:=hid (Zm w pM pW pm pc pw n ve c ent mat hMB who)
 rw [decide_eq_true Lb,decide_eq_true Lb] at HHA
 have B:Bag [pW] w [tRo false pM _ _,tW pW n f who _] w:=Zn hMB hW hne
 dsimp only [Q8.cells] at B
 clear hMB hW hne
 go_in
 go_wp2_with fail
 refine HHA.out.mono ?_
 rintro e w1 ⟨rfl,f1⟩
 replace B:=B.tm f1
 have q0:=B.wq0 1 hk;have m:=B.q 0
 go_wp2
 go_ret
 exact ⟨rfl,f1⟩
end
section
open Go.RowKit Go.Shelf Go.Lib
attribute [local go_sem] Oper.semAt_some
structure Q06 (w:World) (jm jw jc ja pM:Nat) (who:Int) (c:Q0) (a:Kh):Prop where
 fm:w.heap[jm]?=some (.cells #[.pointer (some ⟨pM,0,none⟩)] 28 (0,0))
 fw:w.heap[jw]?=some (.cells #[.int .i64 who] 3 (0,0))
 fc:w.heap[jc]?=some (.cells #[.int .i64 c.wo,.int .i64 c.sl,.int .i64 c.st,.int .i64 c.wa,.int .i64 c.us] 30 (0,0))
 fa:w.heap[ja]?=some (.cells #[.int .i64 a.op,.int .i64 a.dl,.bool a.wait,.bool a.force,.int .i64 a.slot,.int .i64 a.gen,.int .i64 a.stream] 37 (0,0))
def Yi (w:World) (fn:FuncId) (pM:Nat) (who:Int) (ty:TypeId) (X:World→World→Nat→Prop) (e:Ending) (w':World):Prop:=∃w1 p bt bm bw,e=.returned (.func (.func fn) #[] #[.pointer (some ⟨bt,0,none⟩),.pointer (some ⟨bm,0,none⟩),.pointer (some ⟨bw,0,none⟩)])∧
 X w w1 p∧Fr [] w w1∧(w1.heap.size≤bt∧w1.heap.size≤bm∧w1.heap.size≤bw)∧Y1 w' bt bm bw pM p who ty∧Fr [] w1 w'
def Q1C (c:Q0) (g:QN) (w w1:World) (p:Nat):Prop:=∃b1 b2 fn,(w.heap.size≤p∧w.heap.size≤b1∧w.heap.size≤b2∧p≠b1∧p≠b2∧b1≠b2)∧Vn w1 p b1 b2 fn c g∧Gl w1 b1 b2 fn c g
theorem Q06.bag {w:World} {jm jw jc ja pM:Nat} {who:Int} {c:Q0} {a:Kh} (X:Q06 w jm jw jc ja pM who c a):Bag [] w [tRo false jm #[.pointer (some ⟨pM,0,none⟩)] 28,tRo false jw #[.int .i64 who] 3,tRo false jc #[.int .i64 c.wo,.int .i64 c.sl,.int .i64 c.st,.int .i64 c.wa,.int .i64 c.us] 30,tRo false ja #[.int .i64 a.op,.int .i64 a.dl,.bool a.wait,.bool a.force,.int .i64 a.slot,.int .i64 a.gen,.int .i64 a.stream] 37] w:=by
 refine Bag.of (by simp only [List.forall_mem_cons];exact ⟨X.fm,X.fw,X.fc,X.fa,Lc⟩) ?_ (by have:=Q9 X.fm;have:=Q9 X.fw;have:=Q9 X.fc;have:=Q9 X.fa;simp;omega) Lc
 simp
 refine ⟨⟨?_, ?_, ?_⟩,⟨?_, ?_⟩, ?_⟩
 · rintro rfl;have h:=X.fm.symm.trans X.fw;simp at h
 · rintro rfl;have h:=X.fm.symm.trans X.fc;simp at h
 · rintro rfl;have h:=X.fm.symm.trans X.fa;simp at h
 · rintro rfl;have h:=X.fw.symm.trans X.fc;simp at h
 · rintro rfl;have h:=X.fw.symm.trans X.fa;simp at h
 · rintro rfl;have h:=X.fc.symm.trans X.fa;simp at h
theorem Q55 {P:Prop} (h:P:=by
 refine rgf B fun _ fc B=> ?_
 repeat refine tb ?_
 refine to fun K hK=> ?_
 go_simp
 try rw [hwr.out]
 refine (HNW.out _ fc).mono ?_
 rintro e w1 ⟨p,rfl,hx,f1⟩
 replace B:=B.tm f1
 go_wp2_with fail
 refine bk hK ?_
 clear hK K
 try go_frame
 refine to fun K hK=> ?_
 go_simp
 refine (HMK.out _ _).mono ?_
 rintro e w2 ⟨bt,bm,bw,rfl,h1,h2,h3,hb,f2⟩
 replace B:=B.tm f2
 go_wp2_with fail
 refine bk hK ?_
 clear hK K
 try go_frame
 refine tb ?_
 refine wpAnyH_done (by decide+kernel) ?_ _
 go_wp2
 go_ret
 exact ⟨_,_,bt,bm,bw,rfl,hx,fc.trans f1,⟨h1,h2,h3⟩,hb,f2⟩):P:=h
theorem Z0q {P:Prop} (h:P:=by
 unfold Q0.val at HNW
 have B:=B.bag
 obtain ⟨aop,adl,awt,afc,asl,agn,ast⟩:=a
 go_in
 go_wp2_with fail
 exact Q55):P:=h
theorem Q4Q (w:World) (jm jw jc ja pM:Nat) (who:Int) (c:Q0) (a:Kh) (B:Q06 w jm jw jc ja pM who c a):Calls Tryz.prog 95 #[.pointer (some ⟨jm,0,none⟩),.pointer (some ⟨jw,0,none⟩),.pointer (some ⟨jc,0,none⟩),.pointer (some ⟨ja,0,none⟩)] w (Yi w 146 pM who 156 (fun w w1 p=>w.heap.size≤p∧Xf w1 p none c (JD who a.slot a.gen false))):=by
 have HNW:=hid fun w' (f:Fr [] w w')=>(Q1f w' c who a.slot a.gen false).mono (R':=fun e w1=>∃p,e=.returned (.pointer (some ⟨p,0,none⟩))∧(w.heap.size≤p∧Xf w1 p none c (JD who a.slot a.gen false))∧Fr [] w' w1) (by
  rintro e w1 ⟨p,rfl,hp,ht,f1⟩
  exact ⟨p,rfl,⟨Nat.le_trans f.size hp,ht⟩,f1⟩)
 have HMK:=hid fun w' p=>Dw w' pM p who
 exact Z0q
theorem Q4P (w:World) (jm jw jc ja pM:Nat) (who:Int) (c:Q0) (a:Kh) (B:Q06 w jm jw jc ja pM who c a):Calls Tryz.prog 98 #[.pointer (some ⟨jm,0,none⟩),.pointer (some ⟨jw,0,none⟩),.pointer (some ⟨jc,0,none⟩),.pointer (some ⟨ja,0,none⟩)] w (Yi w 146 pM who 156 (fun w w1 p=>w.heap.size≤p∧Xf w1 p none c (JD who a.slot a.gen true))):=by
 have HNW:=hid fun w' (f:Fr [] w w')=>(Q1f w' c who a.slot a.gen true).mono (R':=fun e w1=>∃p,e=.returned (.pointer (some ⟨p,0,none⟩))∧(w.heap.size≤p∧Xf w1 p none c (JD who a.slot a.gen true))∧Fr [] w' w1) (by
  rintro e w1 ⟨p,rfl,hp,ht,f1⟩
  exact ⟨p,rfl,⟨Nat.le_trans f.size hp,ht⟩,f1⟩)
 have HMK:=hid fun w' p=>Dw w' pM p who
 exact Z0q
theorem Q4O (w:World) (jm jw jc ja pM:Nat) (who:Int) (c:Q0) (a:Kh) (B:Q06 w jm jw jc ja pM who c a):Calls Tryz.prog 99 #[.pointer (some ⟨jm,0,none⟩),.pointer (some ⟨jw,0,none⟩),.pointer (some ⟨jc,0,none⟩),.pointer (some ⟨ja,0,none⟩)] w (Yi w 149 pM who 159 (Q1C c (JI true who a.slot a.gen 0))):=by
 have HNW:=hid fun w' (f:Fr [] w w')=>(Q4d w' c who a.slot a.gen 0).mono (R':=fun e w1=>∃p,e=.returned (.pointer (some ⟨p,0,none⟩))∧Q1C c (JI true who a.slot a.gen 0) w w1 p∧Fr [] w' w1) (by
  rintro e w1 ⟨p,b1,b2,fn,rfl,h1,h2,h3,h4,h5,h6,h7,h8,f1⟩
  exact ⟨p,rfl,⟨b1,b2,fn,⟨Nat.le_trans f.size h1,Nat.le_trans f.size h2,Nat.le_trans f.size h3,h4,h5,h6⟩,h7,h8⟩,f1⟩)
 have HMK:=hid fun w' p=>GH w' pM p who
 exact Z0q
theorem Q4N (w:World) (jm jw jc ja pM:Nat) (who:Int) (c:Q0) (a:Kh) (B:Q06 w jm jw jc ja pM who c a):Calls Tryz.prog 102 #[.pointer (some ⟨jm,0,none⟩),.pointer (some ⟨jw,0,none⟩),.pointer (some ⟨jc,0,none⟩),.pointer (some ⟨ja,0,none⟩)] w (Yi w 149 pM who 159 (Q1C c (JI false who a.slot a.gen a.stream))):=by
 have HNW:=hid fun w' (f:Fr [] w w')=>(Q4b w' c who a.slot a.gen a.stream).mono (R':=fun e w1=>∃p,e=.returned (.pointer (some ⟨p,0,none⟩))∧Q1C c (JI false who a.slot a.gen a.stream) w w1 p∧Fr [] w' w1) (by
  rintro e w1 ⟨p,b1,b2,fn,rfl,h1,h2,h3,h4,h5,h6,h7,h8,f1⟩
  exact ⟨p,rfl,⟨b1,b2,fn,⟨Nat.le_trans f.size h1,Nat.le_trans f.size h2,Nat.le_trans f.size h3,h4,h5,h6⟩,h7,h8⟩,f1⟩)
 have HMK:=hid fun w' p=>GH w' pM p who
 exact Z0q
theorem Q4M (w:World) (pM pW pm pc pw n:Nat) (ve:Value) (c:Q0) (ent mat:Int) (hMB:QG w pM pW pm pc pw n ve c ent mat) (who:Int) (jm jw:Nat) (bjm:w.heap[jm]?=some (.cells #[.pointer (some ⟨pM,0,none⟩)] 28 (0,0))) (bjw:w.heap[jw]?=some (.cells #[.int .i64 who] 3 (0,0))):Calls Tryz.prog 104 #[.pointer (some ⟨jm,0,none⟩),.pointer (some ⟨jw,0,none⟩)] w (Q04 w pM c who):=by
 have HMK:=hid (Q4I w pM pW pm pc pw n ve c ent mat hMB who)
 have q0:=cl 0 bjm;have q1:=cl 0 bjw
 clear hMB bjm bjw
 go_in
 go_wp2_with fail
 refine HMK.out.mono ?_
 rintro e w1 ⟨bt,bm,bw,q,pf,rfl,hr⟩
 have HR:=hid hr
 clear hr
 go_wp2
 go_ret
 exact ⟨bt,bm,bw,q,pf,rfl,HR.out⟩
theorem Q4K (w:World) (pM pW pm pc pw n:Nat) (ve:Value) (c:Q0) (ent mat:Int) (hMB:QG w pM pW pm pc pw n ve c ent mat) (who:Int) (jm jw:Nat) (bjm:w.heap[jm]?=some (.cells #[.pointer (some ⟨pM,0,none⟩)] 28 (0,0))) (bjw:w.heap[jw]?=some (.cells #[.int .i64 who] 3 (0,0))):Calls Tryz.prog 108 #[.pointer (some ⟨jm,0,none⟩),.pointer (some ⟨jw,0,none⟩)] w (UH w pM c who):=by
 have HMK:=hid (Q2u w pM pW pm pc pw n ve c ent mat hMB who)
 have q0:=cl 0 bjm;have q1:=cl 0 bjw
 clear hMB bjm bjw
 go_in
 go_wp2_with fail
 refine HMK.out.mono ?_
 rintro e w1 ⟨bt,bm,bw,p,rfl,hr⟩
 have HR:=hid hr
 clear hr
 go_wp2
 go_ret
 exact ⟨bt,bm,bw,p,rfl,HR.out⟩
theorem Q4L (w:World) (pM:Nat) (who:Int) (jm jw ja:Nat) (a:Kh) (bjm:w.heap[jm]?=some (.cells #[.pointer (some ⟨pM,0,none⟩)] 28 (0,0))) (bjw:w.heap[jw]?=some (.cells #[.int .i64 who] 3 (0,0))) (bja:w.heap[ja]?=some (.cells #[.int .i64 a.op,.int .i64 a.dl,.bool a.wait,.bool a.force,.int .i64 a.slot,.int .i64 a.gen,.int .i64 a.stream] 37 (0,0))):Calls Tryz.prog 106 #[.pointer (some ⟨jm,0,none⟩),.pointer (some ⟨jw,0,none⟩),.pointer (some ⟨ja,0,none⟩)] w fun e w'=>∃bt bm bw bf,e=.returned (.func (.func 163) #[] #[.pointer (some ⟨bt,0,none⟩),.pointer (some ⟨bm,0,none⟩),.pointer (some ⟨bw,0,none⟩),.pointer (some ⟨bf,0,none⟩)])∧
 w.heap.size≤bt∧w.heap.size≤bm∧w.heap.size≤bw∧w.heap.size≤bf∧Wu w' bt bm bw bf pM who a.force (.pointer none)∧Fr [] w w':=by
 have HMK:=hid (Q2H w pM who a.force)
 have q0:=cl 0 bjm;have q1:=cl 0 bjw;have q3:=cl 3 bja
 clear bjm bjw bja
 generalize a.force=fc at*
 go_in
 go_wp2_with fail
 refine HMK.out.mono ?_
 rintro e w1 ⟨bt,bm,bw,bf,rfl,hr⟩
 have HR:=hid hr
 clear hr
 go_wp2
 go_ret
 exact ⟨bt,bm,bw,bf,rfl,HR.out⟩
theorem jbag1 {w:World} {pM pW n who jk jm jw jc:Nat} {c:Q0} {f:Nat→List Value} {k:Q8} {v:Je} (hW:QL w pW n (upd f who (k.cells v))) (bjk:w.heap[jk]?=some (.cells #[.pointer (some ⟨pW,who*35,none⟩)] 98 (0,0))) (bjm:w.heap[jm]?=some (.cells #[.pointer (some ⟨pM,0,none⟩)] 28 (0,0))) (bjw:w.heap[jw]?=some (.cells #[.int .i64 who] 3 (0,0))) (bjc:w.heap[jc]?=some (.cells #[.int .i64 c.wo,.int .i64 c.sl,.int .i64 c.st,.int .i64 c.wa,.int .i64 c.us] 30 (0,0))):
 Bag [pW] w [tRo false jk #[.pointer (some ⟨pW,who*35,none⟩)] 98,tW pW n f who (k.cells v),tRo false jm #[.pointer (some ⟨pM,0,none⟩)] 28,tRo false jw #[.int .i64 who] 3,tRo false jc #[.int .i64 c.wo,.int .i64 c.sl,.int .i64 c.st,.int .i64 c.wa,.int .i64 c.us] 30] w:=by
 obtain ⟨W,hb, -⟩:=id hW
 refine Bag.of (by simp only [List.forall_mem_cons];exact ⟨bjk,hW,bjm,bjw,bjc,Lc⟩) ?_ (by have:=Q9 bjm;have:=Q9 bjw;have:=Q9 bjc;have:=Q9 bjk;have:=Q9 hb;simp;omega) Lc
 simp
 refine ⟨⟨?_, ?_, ?_, ?_⟩,⟨?_, ?_, ?_⟩,⟨?_, ?_⟩, ?_⟩
 · rintro rfl;have h:=bjk.symm.trans hb;simp at h
 · rintro rfl;have h:=bjk.symm.trans bjm;simp at h
 · rintro rfl;have h:=bjk.symm.trans bjw;simp at h
 · rintro rfl;have h:=bjk.symm.trans bjc;simp at h
 · rintro rfl;have h:=hb.symm.trans bjm;simp at h
 · rintro rfl;have h:=hb.symm.trans bjw;simp at h
 · rintro rfl;have h:=hb.symm.trans bjc;simp at h
 · rintro rfl;have h:=bjm.symm.trans bjw;simp at h
 · rintro rfl;have h:=bjm.symm.trans bjc;simp at h
 · rintro rfl;have h:=bjw.symm.trans bjc;simp at h
theorem Z0C {P:Prop} (h:P:=by
 have B:=jbag1 hW bjk bjm bjw bjc
 dsimp only [Q8.cells] at B
 clear hW bjk bjm bjw bjc
 have ha1:∀j:Nat,who*35+1+j=who*35+(1+j):=fun j=>Nat.add_assoc _ _ _
 have q:=B.q 0;have q1:=B.wq 1 hk
 go_in
 go_wp2_with fail
 clear q q1
 exact Q55):P:=h
theorem UW (w:World) (pM pW n who:Nat) (c:Q0) (f:Nat→List Value) (k:Q8) (v:Je) (hW:QL w pW n (upd f who (k.cells v))) (hk:who<n) (jk jm jw jc:Nat) (bjk:w.heap[jk]?=some (.cells #[.pointer (some ⟨pW,who*35,none⟩)] 98 (0,0))) (bjm:w.heap[jm]?=some (.cells #[.pointer (some ⟨pM,0,none⟩)] 28 (0,0))) (bjw:w.heap[jw]?=some (.cells #[.int .i64 who] 3 (0,0))) (bjc:w.heap[jc]?=some (.cells #[.int .i64 c.wo,.int .i64 c.sl,.int .i64 c.st,.int .i64 c.wa,.int .i64 c.us] 30 (0,0))) (hg:0<k.grant) (hg1:k.grant≤1000000000):Calls Tryz.prog 93 #[.pointer (some ⟨jk,0,none⟩),.pointer (some ⟨jm,0,none⟩),.pointer (some ⟨jw,0,none⟩),.pointer (some ⟨jc,0,none⟩)] w (Yi w 113 pM who 134 (fun w w1 p=>w.heap.size≤p∧Xh w1 p none none c (QU who (k.grant - 1)))):=by
 have HNW:=hid fun w' (f:Fr [] w w')=>(En w' c who (k.grant - 1)).mono (R':=fun e w1=>∃p,e=.returned (.pointer (some ⟨p,0,none⟩))∧(w.heap.size≤p∧Xh w1 p none none c (QU who (k.grant - 1)))∧Fr [] w' w1) (by
  rintro e w1 ⟨p,rfl,hp,ht,f1⟩
  exact ⟨p,rfl,⟨Nat.le_trans f.size hp,ht⟩,f1⟩)
 have HMK:=hid fun w' p=>Uh w' pM p who
 unfold Q0.val at HNW
 have hwr:=hid (show IntKind.i64.wrap (k.grant - 1)=k.grant - 1 by rw [IntKind.wrap_i64];omega)
 exact Z0C
theorem Q4R (w:World) (pM pW n who:Nat) (c:Q0) (f:Nat→List Value) (k:Q8) (v:Je) (hW:QL w pW n (upd f who (k.cells v))) (hk:who<n) (jk jm jw jc:Nat) (bjk:w.heap[jk]?=some (.cells #[.pointer (some ⟨pW,who*35,none⟩)] 98 (0,0))) (bjm:w.heap[jm]?=some (.cells #[.pointer (some ⟨pM,0,none⟩)] 28 (0,0))) (bjw:w.heap[jw]?=some (.cells #[.int .i64 who] 3 (0,0))) (bjc:w.heap[jc]?=some (.cells #[.int .i64 c.wo,.int .i64 c.sl,.int .i64 c.st,.int .i64 c.wa,.int .i64 c.us] 30 (0,0))) (hg:¬0<k.grant):Calls Tryz.prog 93 #[.pointer (some ⟨jk,0,none⟩),.pointer (some ⟨jm,0,none⟩),.pointer (some ⟨jw,0,none⟩),.pointer (some ⟨jc,0,none⟩)] w (Yi w 113 pM who 134 (fun w w1 p=>w.heap.size≤p∧Xh w1 p none none c (Jc who))):=by
 have HNW:=hid fun w' (f:Fr [] w w')=>(Q0q w' c who).mono (R':=fun e w1=>∃p,e=.returned (.pointer (some ⟨p,0,none⟩))∧(w.heap.size≤p∧Xh w1 p none none c (Jc who))∧Fr [] w' w1) (by
  rintro e w1 ⟨p,rfl,hp,ht,f1⟩
  exact ⟨p,rfl,⟨Nat.le_trans f.size hp,ht⟩,f1⟩)
 have HMK:=hid fun w' p=>Uh w' pM p who
 unfold Q0.val at HNW
 exact Z0C
end
section
open Go.RowKit Go.Shelf Go.Lib
attribute [local go_sem] Oper.semAt_some
variable (w:World) (pM pW pm pc pw n who:Nat) (ve:Value) (c:Q0) (ent mat:Int) (f:Nat→List Value) (k:Q8) (v:Je)
theorem Q2J (w:World) (pM pW pm pc pw n qm:Nat) (ve:Value) (c:Q0) (ent mat:Int) (M:List Int) (N:Int) (hMB:QG w pM pW pm pc pw n ve c ent mat) (hM:Qm w pm qm M N) (hmb:M.length≤10000):
 Calls Tryz.prog 14 #[.pointer (some ⟨pM,0,none⟩)] w fun e w'=>∃g cp,e=.returned (.slice (some ⟨g,0,none⟩) M.length cp)∧w'.ownsRow w.heap.size 3 1 (.slice (some ⟨g,0,none⟩) M.length cp) M.length (M.map (Value.int .i64))∧Fr [] w w':=by
 have HWD:=hid (by obtain ⟨t,h,_⟩:=hM;exact Dc w pm qm M t h hmb:Calls Tryz.prog 30 #[.pointer (some ⟨pm,0,none⟩)] w _)
 have q5:=cl 5 hMB
 clear hMB hM
 go_in
 go_wp2_with fail
 refine HWD.out.mono ?_
 rintro e w1 ⟨g,cp,rfl,h1,h2⟩
 have H1:=hid h1;have H2:=hid h2
 clear h1 h2
 go_wp2
 go_ret
 exact ⟨g,cp,rfl,H1.out,H2.out⟩
theorem Q2y (hMB:QG w pM pW pm pc pw n ve c ent mat) (hW:QL w pW n (upd f who (k.cells v))) (hk:who<n) (hne:pM≠pW) (qm:Nat) (M:List Int) (N:Int) (hM:Qm w pm qm M N) (hN:N≤1000000000) (hne2:pm≠pM∧pm≠pW∧qm≠pM∧qm≠pW) (hhf:k.half=false):
 Calls Tryz.prog 56 #[.pointer (some ⟨pM,0,none⟩),.int .i64 who] w fun e w'=>e=.returned (.tuple #[])∧QZ w' pM pW pm pc pw n who ve c ent mat f {k with word:=Q6 M 2,half:=true} v∧Qm w' pm qm M (N+1)∧Fr [pW,pm,qm] w w':=by
 have HLD:=hid fun w' h=>Za w' pm qm M N 2 h hN
 generalize Q6 M 2=lv at HLD ⊢
 have B:Bag [pW,pm,qm] w [tRo false pM _ _,tW pW n f who _,tM pm qm M N] w:=Q15 hMB hW hne hM hne2
 dsimp only [Q8.cells] at B
 clear hMB hW hne hM hne2
 have q:=B.wq 1 hk;have m:=B.q 0
 go_in
 go_wp2_with fail
 clear q m
 refine (HLD.out _ (B.g 2)).mono ?_
 rintro e w1 ⟨rfl,h,f1⟩
 replace B:=B.up 2 (T':=tM pm qm _ _) h f1
 have q:=B.wq 1 hk;have q0:=B.wq0 1 hk;have u:=B.wu 1;have m:=B.q 0
 go_wp2_with fail
 clear q q0 u m
 generalize hw:World.setCell _ _ _=w3
 replace B:=(((B.ws 1 hk).ws 1 hk)).e hw
 first
  |go_end0
  |(try simp only [Exit.inBlock,Exit.then]
    refine bodyPost_ret (results_none rfl _ _ _) rfl ?_)
 exact ⟨rfl,⟨B.g 0,B.g 1⟩,B.g 2,B.fr⟩
end
section
open Go.RowKit Go.Shelf Go.Lib
attribute [local go_sem] Oper.semAt_some
variable (w:World) (pM pW pm pc pw n who:Nat) (ve:Value) (c:Q0) (ent mat:Int) (f:Nat→List Value) (k:Q8) (v:Je)
def Q6T (jk jm jw jc ja:Nat):Array MapEntry:=#[⟨.int .i64 0,.func (.func 93) #[] #[.pointer (some ⟨jk,0,none⟩),.pointer (some ⟨jm,0,none⟩),.pointer (some ⟨jw,0,none⟩),.pointer (some ⟨jc,0,none⟩)],0⟩,
 ⟨.int .i64 1,.func (.func 95) #[] #[.pointer (some ⟨jm,0,none⟩),.pointer (some ⟨jw,0,none⟩),.pointer (some ⟨jc,0,none⟩),.pointer (some ⟨ja,0,none⟩)],1⟩,
 ⟨.int .i64 2,.func (.func 98) #[] #[.pointer (some ⟨jm,0,none⟩),.pointer (some ⟨jw,0,none⟩),.pointer (some ⟨jc,0,none⟩),.pointer (some ⟨ja,0,none⟩)],2⟩,
 ⟨.int .i64 3,.func (.func 99) #[] #[.pointer (some ⟨jm,0,none⟩),.pointer (some ⟨jw,0,none⟩),.pointer (some ⟨jc,0,none⟩),.pointer (some ⟨ja,0,none⟩)],3⟩,
 ⟨.int .i64 4,.func (.func 102) #[] #[.pointer (some ⟨jm,0,none⟩),.pointer (some ⟨jw,0,none⟩),.pointer (some ⟨jc,0,none⟩),.pointer (some ⟨ja,0,none⟩)],4⟩,
 ⟨.int .i64 5,.func (.func 104) #[] #[.pointer (some ⟨jm,0,none⟩),.pointer (some ⟨jw,0,none⟩)],5⟩,
 ⟨.int .i64 6,.func (.func 106) #[] #[.pointer (some ⟨jm,0,none⟩),.pointer (some ⟨jw,0,none⟩),.pointer (some ⟨ja,0,none⟩)],6⟩,
 ⟨.int .i64 7,.func (.func 108) #[] #[.pointer (some ⟨jm,0,none⟩),.pointer (some ⟨jw,0,none⟩)],7⟩]
def Q1E (w:World) (pM pW who:Nat) (c:Q0) (a:Kh) (e:Ending) (w':World):Prop:=∃jk jm jw jc ja bm,e=.returned (.map (some bm))∧w'.heap[bm]?=some (.map (Q6T jk jm jw jc ja) 8)∧
 w'.heap[jk]?=some (.cells #[.pointer (some ⟨pW,who*35,none⟩)] 98 (0,0))∧Q06 w' jm jw jc ja pM who c a∧Fr [] w w'
theorem Q1c {w w0:World} {b:Nat} {es:Array MapEntry} {clock:Nat} (hb:w.heap[b]?=some (.map es clock)) (g:Fr [b] w0 w) (key:Int) (v:Value) (hw:(Lit.int .i64 key).wf=true:=by decide) (hnew:Instr.findNow (.int .i64) (.int .i64 key) es.toList 0=some none:=by rfl):
 ∃w',(Instr.mapUpdate 129 (.map (some b)) (.int .i64 key) v).run Tryz.prog w=.ok () w'∧w'.heap[b]?=some (.map (es.push {key:=.int .i64 key,val:=v,born:=clock}) (clock+1))∧Fr [b] w0 w':=
 ⟨_,U8 Tryz.underlying129 Tryz.underlying3 w b es clock key v hw hb hnew,ChangeMaps.heap_setBlock_same hb _,g.trans ⟨rfl,rfl,rfl,by simp [ChangeMaps.setBlock],fun i _ hi=>ChangeMaps.heap_setBlock_other hb _ (fun e=>hi (by simp [e]))⟩⟩
theorem Q4J (hMB:QG w pM pW pm pc pw n ve c ent mat) (hW:QL w pW n (upd f who (k.cells v))) (hk:who<n) (hne:pM≠pW):Calls Tryz.prog 75 #[.pointer (some ⟨pM,0,none⟩),.int .i64 who] w (Q1E w pM pW who c k.ask):=by
 have hmm:=@run_makeMap Tryz.prog
 have B:=mbag0 hMB hW hne
 clear hMB hW hne
 obtain ⟨kst,⟨aop,adl,awt,afc,asl,agn,ast⟩,khf,kwd,kgr,kwork,ktw,kqu,kti,kpk,ktm,kan⟩:=k
 dsimp only [Q8.cells] at B
 go_in
 go_wp2_with fail
 generalize hw:World.alloc w _=w1,hb:(World.heap w).size=jm
 generalize hw2:World.alloc w1 _=w2
 replace B:=B.al2 hw hb hw2
 clear hw hb hw2
 generalize jm+1=jw at B ⊢
 refine rg B fun _ B=> ?_
 iterate 10 refine tb ?_
 refine wpAnyH_ready (rs:=[10,11]) (by decide+kernel) Lc ?_
 refine AllReadyH.cons (o:=_) rfl (fun K hK=> ?_) (AllReadyH.cons (o:=_) rfl (fun K hK=> ?_) AllReadyH.nil)
 all_goals try simp only [List.getElem_toArray,List.getElem_cons_succ,List.getElem_cons_zero]
 go_simp
 generalize hb:(World.heap _).size=jk,hw:World.alloc _ _=w4
 replace B:=B.al hw hb
 refine bk hK ?_
 clear hK K hw hb
 try go_frame
 refine tc 11 fun K hK=> ?_
 go_simp
 generalize hb:(World.heap _).size=jc,hw:World.alloc _ _=w5
 replace B:=B.al hw hb
 refine bk hK ?_
 clear hK K hw hb
 try go_frame
 rotate_left
 go_simp
 generalize hb:(World.heap _).size=jc,hw:World.alloc _ _=w4
 replace B:=B.al hw hb
 refine bk hK ?_
 clear hK K hw hb
 try go_frame
 refine tc 10 fun K hK=> ?_
 go_simp
 generalize hb:(World.heap _).size=jk,hw:World.alloc _ _=w5
 replace B:=B.al hw hb
 refine bk hK ?_
 clear hK K hw hb
 try go_frame
 replace B:=B.sel [0,1,2,3,5,4]
 all_goals
  have u:=B.u 4;have q:=B.q 4
  refine tc 12 fun K hK=> ?_
  go_simp
  clear u q
  generalize hw:World.setCell _ _ _=w6
  replace B:=(B.s 4).e hw
  refine bk hK ?_
  clear hK K
  try go_frame
  have u:=B.u 5;have q:=B.q 5
  refine tc 13 fun K hK=> ?_
  go_simp
  clear u q
  generalize hw:World.setCell _ _ _=w7
  replace B:=(((((B.s 5).s 5).s 5).s 5).s 5).e hw
  refine bk hK ?_
  clear hK K
  try go_frame
  refine wpAnyH_done (by decide+kernel) ?_ _
  obtain ⟨wA,hrun,hb2,fs⟩:=Yd (P:=Tryz.prog) (heap_alloc_new w7 (.cells #[.int .i64 0,.int .i64 0,.bool false,.bool false,.int .i64 0,.int .i64 0,.int .i64 0] 37 (0,0))) [.int .i64 aop,.int .i64 adl,.bool awt,.bool afc,.int .i64 asl,.int .i64 agn,.int .i64 ast] 37 (by kernel_rfl) rfl (by simp [Value.oneCell'])
  have hLD:=QL.ld (P:=Tryz.prog) (B.g 1) hk 1 [.int .i64 aop,.int .i64 adl,.bool awt,.bool afc,.int .i64 asl,.int .i64 agn,.int .i64 ast] 37
  have q:=B.q 4;have m:=B.q 0
  go_wp2_with (first|(refine ZM rfl _ _ rfl _ _ rfl hLD ?_)|(refine X8 rfl _ _ _ rfl _ _ rfl rfl hrun ?_))
  clear q m hLD hrun
  replace B:=B.nw (T':=tR _ _ _) hb2 (((Fr.refl [] w7).alloc _).then fs (fun x hx=>by simp at hx;exact .inr Lb)) (fun x hx=>by simp at hx;subst hx;exact ⟨Nat.le_refl _,Q9 hb2⟩)
  generalize w7.heap.size=ja at B ⊢
  have hm:=heap_alloc_new wA (.map #[] 0)
  have fx:=(Fr.refl [wA.heap.size] wA).alloc (.map #[] 0)
  obtain ⟨wi0,hr0,hm,fx⟩:=Q1c hm fx 0 (.func (.func 93) #[] #[.pointer (some ⟨jk,0,none⟩),.pointer (some ⟨jm,0,none⟩),.pointer (some ⟨jw,0,none⟩),.pointer (some ⟨jc,0,none⟩)])
  obtain ⟨wi1,hr1,hm,fx⟩:=Q1c hm fx 1 (.func (.func 95) #[] #[.pointer (some ⟨jm,0,none⟩),.pointer (some ⟨jw,0,none⟩),.pointer (some ⟨jc,0,none⟩),.pointer (some ⟨ja,0,none⟩)])
  obtain ⟨wi2,hr2,hm,fx⟩:=Q1c hm fx 2 (.func (.func 98) #[] #[.pointer (some ⟨jm,0,none⟩),.pointer (some ⟨jw,0,none⟩),.pointer (some ⟨jc,0,none⟩),.pointer (some ⟨ja,0,none⟩)])
  obtain ⟨wi3,hr3,hm,fx⟩:=Q1c hm fx 3 (.func (.func 99) #[] #[.pointer (some ⟨jm,0,none⟩),.pointer (some ⟨jw,0,none⟩),.pointer (some ⟨jc,0,none⟩),.pointer (some ⟨ja,0,none⟩)])
  obtain ⟨wi4,hr4,hm,fx⟩:=Q1c hm fx 4 (.func (.func 102) #[] #[.pointer (some ⟨jm,0,none⟩),.pointer (some ⟨jw,0,none⟩),.pointer (some ⟨jc,0,none⟩),.pointer (some ⟨ja,0,none⟩)])
  obtain ⟨wi5,hr5,hm,fx⟩:=Q1c hm fx 5 (.func (.func 104) #[] #[.pointer (some ⟨jm,0,none⟩),.pointer (some ⟨jw,0,none⟩)])
  obtain ⟨wi6,hr6,hm,fx⟩:=Q1c hm fx 6 (.func (.func 106) #[] #[.pointer (some ⟨jm,0,none⟩),.pointer (some ⟨jw,0,none⟩),.pointer (some ⟨ja,0,none⟩)])
  obtain ⟨wi7,hr7,hm,fx⟩:=Q1c hm fx 7 (.func (.func 108) #[] #[.pointer (some ⟨jm,0,none⟩),.pointer (some ⟨jw,0,none⟩)])
  replace B:=B.nw (T':=tMap _ _ _) hm (fx.drop (fun x hx=>by simp at hx;exact .inr Lb)) (fun x hx=>by simp at hx;subst hx;exact ⟨Nat.le_refl _,(Array.getElem?_eq_some_iff.1 hm).1⟩)
  go_wp2
  rw [hr0]
  go_wp2
  go_ret
  exact ⟨jk,jm,jw,jc,ja,wA.heap.size,rfl,B.g 7,B.g 4,⟨B.g 2,B.g 3,B.g 5,B.g 6⟩,B.fr⟩
end
section
open Go.RowKit Go.Shelf Go.Lib
attribute [local go_sem] Oper.semAt_some
variable (w:World) (pM pW pm pc pw n who:Nat) (ve:Value) (c:Q0) (ent mat:Int) (f:Nat→List Value) (k:Q8) (v:Je)
theorem Wi {P:Program} {t kt vt:TypeId} (ht:P.underlying t=some (.map kt vt)) (hkt:P.underlying kt=some (.int .i64)) (w:World) (b:Nat) (es:Array MapEntry) (clock:Nat) (key:Int)
 (hw:(Lit.int .i64 key).wf=true) (hb:w.heap[b]?=some (.map es clock)) (i:Nat) (v:Value) (hf:Instr.findNow (.int .i64) (.int .i64 key) es.toList 0=some (some (i,v))) (hne:es.isEmpty=false):
 (Instr.lookup t (.map (some b)) (.int .i64 key) false).run P w=.ok v w:=by
 have hc:(Instr.checkKey es.isEmpty 10000 kt (.int .i64 key)).run P w=.ok () w:=(Maps.int_keyed hkt).check w _ (Maps.keyOf_int_mk hkt hw)
 have hf:(Instr.findKey kt (.int .i64 key) es.toList).run P w=.ok (some (i,v)) w:=by
  simp [Instr.findKey,run_underlying hkt,hf]
 simp [Instr.lookup,run_underlying ht,MapKept.run_getObj_map hb,hc,hf,Result.andThen]
theorem Q0V (hMB:QG w pM pW pm pc pw n ve c ent mat) (hW:QL w pW n (upd f who (k.cells v))) (hk:who<n) (hne:pM≠pW) (qm:Nat) (M:List Int) (N:Int) (hM:Qm w pm qm M N) (hN:N≤1000000000) (hne2:pm≠pM∧pm≠pW∧qm≠pM∧qm≠pW) (hhf:k.half=true) (hc:c.fits) (hwo:(who:Int)<c.wo) (hw0: -4611686018427387904≤k.word) (hw1:k.word≤4611686018427387904) (job:Yh) (J:World→Value→Prop) (hJS:∀(L:List Nat) (w1 w2:World) (x:Value),Fr L w1 w2→(∀b∈L,b=pW)→J w1 x→J w2 x)
 (HJ:∀w' jk jm jw jc ja,Fr [pW,pm,qm] w w'→QG w' pM pW pm pc pw n ve c ent mat→QL w' pW n (upd f who (({k with half:=false}:Q8).cells v))→w'.heap[jk]?=some (.cells #[.pointer (some ⟨pW,who*35,none⟩)] 98 (0,0))→Q06 w' jm jw jc ja pM who c k.ask→
   ∃fn caps i,(Lit.int .i64 k.ask.op).wf=true∧Instr.findNow (.int .i64) (.int .i64 k.ask.op) (Q6T jk jm jw jc ja).toList 0=some (some (i,.func (.func fn) #[] caps))∧(∀(args:Array Value) (wx:World),(callFunc fn args).run Tryz.prog wx=.ok (.enter fn args) wx)∧
    Calls Tryz.prog fn caps w' fun e w2=>∃fw bs cs,e=.returned (.func fw bs cs)∧J w2 (.func fw bs cs)∧Fr [] w' w2):
 Calls Tryz.prog 56 #[.pointer (some ⟨pM,0,none⟩),.int .i64 who] w fun e w'=>e=.returned (.tuple #[])∧∃fw bs cs,QZ w' pM pW pm pc pw n who ve c ent mat f {k with half:=false,work:=job,st:=2} {v with vw:=.func fw bs cs}∧J w' (.func fw bs cs)∧Qm w' pm qm (Qp M (3+who) (k.word+1)) (N+1)∧Fr [pW,pm,qm] w w':=by
 have HPN:=hid fun w'=>He w' c who hc
 rw [show Y8 c who=3+who from if_pos ⟨Lb,hwo⟩] at HPN
 unfold Q0.val at HPN
 have HPW:=hid fun w'=>Dp w' k.word hw0 hw1
 have HST:=hid fun w' h=>Vx w' pm qm M N (3+who) (k.word+1) h hN
 generalize Qp M (3+who) (k.word+1)=M2 at HST ⊢
 generalize k.word+1=kw1 at*
 have HJB:=hid fun w' h1 h2=>Q4J w' pM pW pm pc pw n who ve c ent mat f {k with half:=false} v h1 h2 hk hne
 unfold Q1E at HJB
 have HJX:=hid HJ
 have B:Bag [pW,pm,qm] w [tRo false pM _ _,tW pW n f who _,tM pm qm M N] w:=Q15 hMB hW hne hM hne2
 rw [Q8.cells,hhf] at B
 clear hMB hW hne hM hne2 HJ
 have q:=B.wq 1 hk;have q0:=B.wq0 1 hk;have u:=B.wu 1;have m:=B.q 0
 go_in
 go_wp2_with fail
 clear q q0 u m
 generalize hw:World.setCell _ _ _=w1
 replace B:=((B.ws 1 hk)).e hw
 refine rgx [0,1] B fun _ B=> ?_
 iterate 9 refine tb ?_
 refine tj 10 ?_
 refine tj 11 ?_
 refine tj 12 ?_
 refine tj 13 ?_
 refine tc 9 fun K hK=> ?_
 go_simp
 refine (HPN.out _).mono ?_
 rintro e w2 ⟨rfl,f2⟩
 replace B:=B.tm f2
 go_wp2_with fail
 refine bk hK ?_
 clear hK K
 try go_frame
 refine tc 14 fun K hK=> ?_
 go_simp
 refine (HPW.out _).mono ?_
 rintro e w3 ⟨rfl,f3⟩
 replace B:=B.tm f3
 go_wp2_with fail
 refine bk hK ?_
 clear hK K
 try go_frame
 refine tc 15 fun K hK=> ?_
 go_simp
 refine (HST.out _ (B.g 2)).mono ?_
 rintro e w4 ⟨rfl,h4,f4⟩
 replace B:=B.up 2 (T':=tM pm qm _ _) h4 f4
 go_wp2_with fail
 refine bk hK ?_
 clear hK K
 try go_frame
 refine wpAnyH_done (by decide+kernel) ?_ _
 go_wp2_with fail
 refine rgw 1 11 B fun _ B=> ?_
 iterate 3 refine tb ?_
 refine tj 4 ?_
 refine tj 5 ?_
 refine tj 6 ?_
 refine tj 7 ?_
 refine tj 8 ?_
 refine tc 3 fun K hK=> ?_
 go_simp
 refine (HJB.out _ (B.g 0) (B.g 1)).mono ?_
 rintro e w6 ⟨jk,jm,jw,jc,ja,bm,rfl,hm,hjk,hjb,f6⟩
 replace B:=B.tm f6
 go_wp2_with fail
 refine bk hK ?_
 clear hK K
 try go_frame
 obtain ⟨fn,caps,ix,hwf,hfd,hcf,HCX⟩:=HJX.out _ jk jm jw jc ja B.fr (B.g 0) (B.g 1) hjk hjb
 have hlk:=Wi (P:=Tryz.prog) Tryz.underlying129 Tryz.underlying3 w6 bm _ 8 k.ask.op hwf hm ix _ hfd rfl
 refine tc 9 fun K hK=> ?_
 go_simp
 refine bk hK ?_
 clear hK K
 try go_frame
 refine tc 10 fun K hK=> ?_
 go_simp
 refine HCX.mono ?_
 rintro e w7 ⟨fw,bs,cs,rfl,hj,f7⟩
 replace B:=B.tm f7
 go_wp2_with fail
 refine bk hK ?_
 clear hK K
 try go_frame
 refine tb ?_
 refine tb ?_
 have u:=B.wu 1;have q:=B.wq 1 hk
 refine tc 13 fun K hK=> ?_
 go_simp
 clear u q
 generalize hw:World.setCell _ _ _=w8
 replace hj:=hJS [pW] _ _ _ (hw▸(Fr.refl [pW] w7).sc pW _ _) Lc hj
 replace B:=(B.ws 1 hk).e hw
 refine bk hK ?_
 clear hK K
 try go_frame
 refine wpAnyH_done (by decide+kernel) ?_ _
 have q:=B.wq 1 hk;have q0:=B.wq0 1 hk;have u:=B.wu 1
 go_wp2_with fail
 clear q q0 u
 generalize hw:World.setCell _ _ _=w9
 replace hj:=hJS [pW] _ _ _ (hw▸(Fr.refl [pW] w8).sc pW _ _) Lc hj
 replace B:=(B.ws0 1 hk).e hw
 go_end0
 exact ⟨rfl,fw,bs,cs,⟨B.g 0,B.g 1⟩,hj,B.g 2,B.fr⟩
end
end Go.Proofs.YtgjklfmnmljilaaGreatDoor

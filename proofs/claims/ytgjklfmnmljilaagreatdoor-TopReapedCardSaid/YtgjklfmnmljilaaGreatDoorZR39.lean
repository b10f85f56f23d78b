/- A part of the proof. -/
import Derived.Test.YtgjklfmnmljilaaGreatDoorZR38
import Derived.Deep.CutBlock
namespace Go.Proofs.YtgjklfmnmljilaaGreatDoor
set_option linter.unusedVariables false
set_option linter.unusedSimpArgs false
set_option linter.unusedSectionVars false
set_option linter.unnecessarySimpa false
set_option maxRecDepth 100000
set_option maxHeartbeats 8000000
section
open Go.RowKit Go.Shelf Go.Lib
attribute [local go_sem] Oper.semAt_some
def ZR (c:Q0):Obj:=.cells #[.int .i64 c.wo,.int .i64 c.sl,.int .i64 c.st,.int .i64 c.wa,.int .i64 c.us] 30 (0,0)
def MM (w:World) (F:List Nat) (b:Bs) (m:Qa) (w0:World) (F0:List Nat) (q:Nat) (c:Q0):Prop:=MAt w F b m (2*m.entries)∧Fr F0 w0 w∧(∀x∈F,x∈F0∨w0.heap.size≤x)∧q∉F∧w.heap[q]?=some (ZR c)
structure InvA (c:Q0) (E:Int) (Inv:Qa→Prop):Prop where
 i:∀m,Inv m→MInv m.entries m∧0≤m.entries∧m.c=c
 s:∀m w,Inv m→m.entries<E→0≤w→w<c.wo→Inv (doV m (JB w)).1
 e:E≤40000000
theorem MM.do_ {w:World} {F:List Nat} {b:Bs} {m:Qa} {w0:World} {F0:List Nat} {q:Nat} {c:Q0} (H:MM w F b m w0 F0 q c) {n:Int} (hI:MInv n m) (hn:n≤1000000000) (h0:0≤m.entries) (hE:m.entries≤40000000) (x:QD):
 Calls Tryz.prog 11 #[pt b.pM,x.val] w fun e w'=>e=.returned (.bool (doV m x).2)∧∃F',MM w' F' b (doV m x).1 w0 F0 q c:=by
 obtain ⟨A,f,hF,hq,hc⟩:=H
 refine (A.do_ hI Lb hn h0 Lb x).mono ?_
 rintro e w' ⟨e1,F',A',g,hF'⟩
 have hlt:=Q9 hc
 refine ⟨e1,F', ?_,f.then g fun y hy=>hF y hy,fun y hy=> ?_,fun hm=> ?_,g.at hc hq⟩
 · have e2:=Z7 m x
   rw [e2,show 2*(m.entries+1)=2*m.entries+2 by omega];exact A'
 · rcases hF' y hy with a|a
   · exact hF y a
   · exact .inr (Nat.le_trans f.size a)
 · rcases hF' q hm with a|a
   · exact hq a
   · omega
theorem MM.fr {w w':World} {F:List Nat} {b:Bs} {m:Qa} {w0:World} {F0:List Nat} {q:Nat} {c:Q0} (H:MM w F b m w0 F0 q c) (f:Fr [] w w'):MM w' F b m w0 F0 q c:=
 ⟨H.1.fr f Lc Lc Lc,H.2.1.then f Lc,H.2.2.1,H.2.2.2.1,f.at H.2.2.2.2 Lc⟩
theorem YL.frS {S:List Nat} {w w':World} {g:Option Addr} {L:List Int} (h:YL w g L) (f:Fr S w w') (hS:∀a,g=some a→L≠[]→a.block∉S):YL w' g L:=
 ⟨h.1,h.2.1,fun j y hy=>by
   obtain ⟨b,o,hg,hc⟩:=h.2.2 j y hy
   exact ⟨b,o,hg,f.cell hc (hS ⟨b,o,none⟩ hg (fun e=>by rw [e] at hy;simp at hy))⟩⟩
theorem lim_lt {c:Q0} (hc:c.fits):0≤Y2 c∧Y2 c≤2000000:=by
 obtain ⟨⟨a,b⟩,⟨d,e⟩, -⟩:=hc
 unfold Y2
 have h1:0≤c.wo*(c.sl+c.wo):=Int.mul_nonneg Lb Lb
 have h2:c.wo*(c.sl+c.wo)≤8*24:=Int.mul_le_mul Lb Lb Lb Lb
 rw [Int.mul_assoc];omega
theorem Q8m {lim r r2 n n2:Int} (hl:0≤lim) (hn:n≤lim) (hr:r≤24) (n0: -1≤n) (h:(n2= -1∧r2=r+1)∨(n2=n∧r2=r)):((25 - r2)*(lim+2)+(lim+1 - (n2+1))).toNat<((25 - r)*(lim+2)+(lim+1 - n)).toNat:=by
 rcases h with ⟨rfl,rfl⟩|⟨rfl,rfl⟩
 · have e:(25 - (r+1))*(lim+2)=(25 - r)*(lim+2) - (lim+2):=by rw [show (25:Int) - (r+1)=(25 - r) - 1 by omega,Int.sub_mul];omega
   have p:0≤(25 - (r+1))*(lim+2):=Int.mul_nonneg Lb Lb
   rw [e] at p ⊢
   omega
 · have p:0≤(25 - r2)*(lim+2):=Int.mul_nonneg Lb Lb
   omega
theorem Q4h {W who f k:Nat} {m:Qa} {n r:Int} (hk:k<W):m.entries+1≤(JE W who (f+1) m k n r).1.entries:=by
 unfold JE
 have h:=Z7 m (JB (((who+k) % W:Nat):Int))
 rw [if_pos hk]
 simp only
 split
 · split
   · show m.entries+1≤(doV m _).1.entries;omega
   · show m.entries+1≤(doV m _).1.entries;omega
 · have:=U4 W who f (doV m (JB (((who+k) % W:Nat):Int))).1 (k+1) n r
   omega
theorem Q7S {L:List Int} (hL:∀n∈L,0≤n∧n≤255) (i:Nat):Zf L i≤255:=by
 unfold Zf
 split
 · omega
 · rename_i h
   have hi:i % L.length<L.length:=Nat.mod_lt _ Lb
   have:=hL (L.getD (i % L.length) 0) (by rw [List.getD_eq_getElem?_getD,List.getElem?_eq_getElem hi];exact List.getElem_mem hi)
   omega
theorem set_b1 {lim n:Int} (hl:lim≤2000000) (h0: -1≤n) (h1:n≤lim):wrap64 (n+1)=n+1∧0≤n+1∧n+1≤lim+1:=by
 unfold wrap64;omega
theorem set_b2 {a b:Int} {i:Nat} (h:(i:Int)≤a) (h1:a+1≤b) (h2:b≤40000000):wrap64 ((i:Int)+1)=((i+1:Nat):Int)∧((i+1:Nat):Int)≤b:=by
 unfold wrap64;omega
theorem Q3e {k:Nat} {W:Int} (h:(k:Int)<W):(W+1 - intOf (.int .i64 ((k:Int)+1))).toNat<(W+1 - intOf (.int .i64 (k:Int))).toNat:=by
 show (W+1 - ((k:Int)+1)).toNat<(W+1 - (k:Int)).toNat
 omega
theorem set_b6 {n lim:Int} (h: -1≤n∧n≤lim): -1≤n+1∧n+1≤lim+1:=Lb
theorem set_b4 {a b d:Int} (h1:a≤b) (h2:d=b+1):a+1≤d:=Lb
theorem set_b5 {a d:Int} (h1:a+1≤d):a≤d:=Lb
theorem Z0I {P:Prop} (h:P:=by
 have HD3:=hid hd3
 clear hd3
 have HK1:=hid hk1
 clear hk1
 go_wp2
 exact ⟨⟨k+1,m5,F5, -1,r2+1,true,rfl,rfl,rfl,rfl,HM6.out,HIV.out,HK1.out,.inr ⟨rfl,HD3.out.symm,.inl ⟨rfl,rfl⟩,HEN1.out⟩⟩,Q3e hkk⟩):P:=h
theorem Z12 {P:Prop} (h:P:=by
 exact ⟨⟨f,i+1,m2,n2+1,r2,F2,rfl,rfl,rfl,HER.out,HM2.out,HV2.out,HNB.out,HR2B.out,W3.out⟩,HMS.out⟩):P:=h
theorem Gv (w:World) (F:List Nat) (b:Bs) (m:Qa) (A:MAt w F b m (2*m.entries)) (hF:∀x∈F,x<w.heap.size) (c:Q0) (hcf:c.fits) (g:Option Addr) (cap:Nat) (L:List Int) (hU:YL w g L) (hL:L.length≤1000) (hg:∀a,g=some a→L≠[]→a.block∉F)
 (E:Int) (Inv:Qa→Prop) (hI:InvA c E Inv) (h0:Inv m) (fuel:Nat) (R:Qa×Bool) (hR:Zg c.wo.toNat (Y2 c) L fuel m 0 0 0=R) (hR2:R.2=true) (hE:R.1.entries≤E):
 Calls Tryz.prog 9 #[pt b.pM,c.val,.slice g L.length cap] w fun e w'=>e=.returned (.bool true)∧∃F',MAt w' F' b R.1 (2*R.1.entries)∧Inv R.1∧Fr F w w'∧∀x∈F',x∈F∨w.heap.size≤x:=by
 have HI:=hid hI
 have hc:(w.alloc (ZR c)).heap[w.heap.size]?=some (ZR c):=heap_alloc_new w (ZR c)
 have f1:=(Fr.refl [] w).alloc (ZR c)
 have HM0:=hid (show MM (w.alloc (ZR c)) F b m w F w.heap.size c from ⟨A.fr f1 Lc Lc Lc,f1.mono Lc,fun x hx=>.inl hx,fun hx=>by have:=hF _ hx;omega,hc⟩)
 have HU:=hid hU;have HG:=hid hg
 have H0:=hid h0;have HR:=hid hR;have HR2:=hid hR2;have HE:=hid hE
 obtain ⟨hl0,hl1⟩:=lim_lt hcf
 have hfits:=hid hcf
 obtain ⟨⟨wo1,wo2⟩,⟨sl1,sl2⟩, -⟩:=hcf
 have hwr:=hid (show wrap64 (10000*c.wo*(c.sl+c.wo))=Y2 c from by
  show wrap64 (Y2 c)=Y2 c
  unfold wrap64;omega)
 have hw3:=hid (show wrap64 (3*c.wo)=3*c.wo from by unfold wrap64;omega)
 obtain ⟨wo,hwo⟩:∃wo:Nat,c.wo=wo:=⟨c.wo.toNat,Lb⟩
 rw [show c.wo.toNat=wo by omega] at HR
 have HW:=hid hwo
 clear hwo
 clear hc f1 A h0 hR hR2 hE hF hI hU hg
 unfold Q0.val pt
 unfold ZR at HM0
 go_in
 go_wp2_with fail
 rw [hwr.out]
 generalize w.alloc (.cells #[.int .i64 c.wo,.int .i64 c.sl,.int .i64 c.st,.int .i64 c.wa,.int .i64 c.us] 30 (0,0))=w1 at HM0 ⊢
 generalize hq:w.heap.size=q at HM0 ⊢
 have HQ:=hid hq
 clear hq
 generalize hlim:Y2 c=lim at hl0 hl1 HR ⊢
 clear hwr
 have HLIM:=hid hlim
 clear hlim
 go_loopw [8,9,10,11,12,13,14,15] (fun s8 s9 s10 _ _ _ _ _ wr=>∃(f i:Nat) (m1:Qa) (n r:Int) (F1:List Nat),s8=.int .i64 n∧s9=.int .i64 r∧s10=.int .i64 i∧Zg wo lim L f m1 i n r=R∧MM wr F1 b m1 w F q c∧Inv m1∧(-1≤n∧n≤lim+1)∧(0≤r∧r≤25)∧(i:Int)≤m1.entries) (fun s8 s9 _ _ _ _ _ _ _=>((25 - intOf s9)*(lim+2)+(lim+1 - intOf s8)).toNat)
 case atStart=>exact ⟨fuel,0,m,0,0,F,rfl,rfl,rfl,HR.out,HM0.out,H0.out,Lb,Lb,(HI.out.i m H0.out).2.1⟩
 case round=>
  obtain ⟨f,i,m1,n,r,F1,rfl,rfl,rfl,hR,hM,hv,⟨n0,n1⟩,⟨r0,r1⟩,hi⟩:=hrel
  cases f with
  |zero=>exact absurd (by rw [←hR];rfl) (show ¬R.2=false by rw [HR2.out];simp)
  |succ f=>
   by_cases hn:n≤lim∧r≤3*c.wo
   · unfold Zg at hR
     rw [if_pos ⟨hn.1,by rw [←HW.out];exact hn.2⟩] at hR
     simp only at hR
     obtain ⟨hn1,hn2⟩:=hn
     obtain ⟨u,hu⟩:∃u,Zf L i=u:=⟨_,rfl⟩
     rw [hu] at hR
     obtain ⟨D,hD⟩:∃D,JE wo u wo m1 0 n r=D:=⟨_,rfl⟩
     rw [hD] at hR
     have hDR:D.1.entries≤R.1.entries:=by
      rw [←hR];split
      · exact KN _ _ _ _ _ _ _ _
      · exact Int.le_refl _
     have hmE:=HE.out
     have hEE:=HI.out.e
     have hidR:=hid hR;have hDD:=hid hD;have hMM:=hid hM;have hvv:=hid hv
     have q0:=cl 0 hM.2.2.2.2
     have hu8:=Q7S HU.out.2.1 i
     rw [hu] at hu8
     have hUr:=HU.out.frS hM.2.1 HG.out
     clear hR hM hD
     have h3:=hw3.out
     go_upto_if 39 with fail
     go_cut [11] from 39 to 48 (fun v wx=>wx=wr∧v=.int .i64 (u:Int))
     case first=>
      by_cases hl:0<(L.length:Int)
      · have hnl:L.length≠0:=Lb
        obtain ⟨j,hj⟩:∃j,i % L.length=j:=⟨_,rfl⟩
        have hj1:j<L.length:=by rw [←hj];exact Nat.mod_lt _ Lb
        obtain ⟨y,hy⟩:∃y,L[j]?=some y:=⟨_,List.getElem?_eq_getElem hj1⟩
        have hyu:y=(u:Int):=by
         unfold Zf at hu
         rw [if_neg hnl,hj,List.getD_eq_getElem?_getD,hy] at hu
         have:=hUr.2.1 y (List.mem_of_getElem? hy)
         simp only [Option.getD_some] at hu;omega
        obtain ⟨gb,go,hg,hcell⟩:=hUr.2.2 j y hy
        have hjm:(i:Int) % (L.length:Int)=(j:Int):=by rw [←hj];omega
        have hj0:(0:Int)≤(j:Int):=Lb
        have hj2:(j:Int)<(L.length:Int):=Lb
        have hnl':¬(L.length:Int)=0:=Lb
        subst hg
        subst hyu
        clear hj hu hy hUr
        go_wp2_with fail
        go_meet
        case rel=>exact ⟨rfl,rfl⟩
      · have hu0:(0:Int)=(u:Int):=by
         unfold Zf at hu
         rw [if_pos Lb] at hu;omega
        go_wp2_with fail
        go_meet
        case rel=>exact ⟨rfl,by first|rfl|rw [hu0]⟩
     case rest=>
      obtain ⟨hwc,rfl⟩:=hcut
      rw [hwc]
      clear hwc hUr hu
      go_wp2_with fail
      go_loopw [8,9,12,13,14,15] (fun s8 s9 s12 s13 _ _ wz=>∃(k:Nat) (m2:Qa) (F2:List Nat) (n2 r2:Int) (did:Bool),s8=.int .i64 n2∧s9=.int .i64 r2∧s12=.bool did∧s13=.int .i64 k∧MM wz F2 b m2 w F q c∧Inv m2∧(k:Int)≤c.wo∧
       ((did=false∧n2=n∧r2=r∧JE wo u (wo - k) m2 k n r=D∧m1.entries≤m2.entries)∨(did=true∧D=(m2,true,n2,r2)∧((n2= -1∧r2=r+1)∨(n2=n∧r2=r))∧m1.entries+1≤m2.entries))) (fun _ _ _ s13 _ _ _=>(c.wo+1 - intOf s13).toNat)
      case atStart=>exact ⟨0,m1,F1,n,r,false,rfl,rfl,rfl,rfl,hMM.out,hvv.out,Lb,.inl ⟨rfl,rfl,rfl,hDD.out,Int.le_refl _⟩⟩
      case round=>
       obtain ⟨k,m2,F2,n2,r2,did,rfl,rfl,rfl,rfl,hM2,hv2,hk,hcase⟩:=hrel
       have q1:=cl 0 hM2.2.2.2.2
       rcases hcase with ⟨rfl,en2,er2,hD2,hm12⟩|⟨rfl,hD2,hnr,hm12⟩
       · subst en2;subst er2
         by_cases hkk:(k:Int)<c.wo
         · have hkw:k<wo:=by have:=HW.out;omega
           obtain ⟨g,hg⟩:∃g,wo - k=g+1:=⟨wo - k - 1,Lb⟩
           rw [hg] at hD2
           obtain ⟨wn,hwn⟩:∃wn,(u+k) % wo=wn:=⟨_,rfl⟩
           have hwn1:wn<wo:=by rw [←hwn];exact Nat.mod_lt _ Lb
           have hmod:((u:Int)+(k:Int)) % c.wo=(wn:Int):=by rw [HW.out,←hwn];rfl
           have hx1:=Q4h (W:=wo) (who:=u) (f:=g) (k:=k) (m:=m2) (n:=n2) (r:=r2) hkw
           rw [hD2] at hx1
           obtain ⟨i1,i2,i3⟩:=HI.out.i m2 hv2
           have hdo:=hM2.do_ i1 Lb i2 Lb (JB wn)
           have hiv:=HI.out.s m2 wn hv2 Lb Lb (by rw [HW.out];omega)
           have hen:=Z7 m2 (JB wn)
           unfold JE at hD2
           rw [if_pos hkw] at hD2
           simp only [hwn] at hD2
           have hws:=(HI.out.i _ hiv).1.wl
           rw [(HI.out.i _ hiv).2.2,HW.out] at hws
           generalize doV m2 (JB wn)=d at hdo hiv hen hD2 hws
           obtain ⟨m5,did⟩:=d
           dsimp only at hdo hiv hen hD2 hws
           unfold QD.val JB Yy at hdo
           dsimp only at hdo
           have HDO:=hid hdo;have HD2:=hid hD2;have HIV:=hid hiv
           have hwo0:¬c.wo=0:=Lb
           have HG1:=hid hg;have HWN:=hid hwn;have HEN:=hid hen;have HWS:=hid hws;have HM12:=hid hm12
           clear hdo hD2 hiv hM2 hv2 hx1 hg hwn i1 i2 i3 hen hws hm12
           go_wp2_with fail
           refine (HDO.out).mono ?_
           rintro e w5 ⟨rfl,F5,hM5⟩
           have HM5:=hid hM5
           clear hM5
           go_wp2_with fail
           refine (HM5.out.1.state (who:=wn) (by have:=HWS.out;omega)).mono ?_
           rintro e w6 ⟨rfl,f6⟩
           have HM6:=hid (HM5.out.fr f6)
           have q2:=cl 0 HM6.out.2.2.2.2
           clear f6 HM5 q1 HDO
           obtain ⟨st,hst⟩:∃st,(m5.wk wn).st=st:=⟨_,rfl⟩
           have hd3:=HD2.out
           rw [hst] at hd3 ⊢
           clear hst HD2
           have hk1:((k+1:Nat):Int)≤c.wo:=Lb
           have hen1:m1.entries+1≤m5.entries:=set_b4 HM12.out HEN.out
           have HEN1:=hid hen1
           clear hen1
           cases did with
           |false=>
            rw [if_neg Lc] at hd3
            rw [show g=wo - (k+1) by have:=HG1.out;omega] at hd3
            have HD3:=hid hd3
            clear hd3
            have HK1:=hid hk1
            clear hk1
            go_wp2
            exact ⟨⟨k+1,m5,F5,n2,r2,false,rfl,rfl,rfl,rfl,HM6.out,HIV.out,HK1.out,.inl ⟨rfl,rfl,rfl,HD3.out,set_b5 HEN1.out⟩⟩,Q3e hkk⟩
           |true=>
            rw [if_pos rfl] at hd3
            by_cases e0:st=0
            · rw [if_pos (.inl e0)] at hd3
              have d0:(st==0)=true:=by simp [e0]
              clear e0
              exact Z0I
            · by_cases e6:st=6
              · rw [if_pos (.inr e6)] at hd3
                have d0:(st==0)=false:=by simp [e0]
                have d6:(st==6)=true:=by simp [e6]
                clear e0 e6
                exact Z0I
              · rw [if_neg (fun h=>h.elim e0 e6)] at hd3
                have d0:(st==0)=false:=by simp [e0]
                have d6:(st==6)=false:=by simp [e6]
                clear e0 e6
                have HD3:=hid hd3
                clear hd3
                have HK1:=hid hk1
                clear hk1
                go_wp2
                exact ⟨⟨k+1,m5,F5,n2,r2,true,rfl,rfl,rfl,rfl,HM6.out,HIV.out,HK1.out,.inr ⟨rfl,HD3.out.symm,.inr ⟨rfl,rfl⟩,HEN1.out⟩⟩,Q3e hkk⟩
         · have hk2:k=wo:=by have:=HW.out;omega
           have HM2:=hid hM2;have HV2:=hid hv2
           have e:D=(m2,false,n2,r2):=by rw [←hD2,hk2,Nat.sub_self];rfl
           have E1:=hid e
           clear hM2 hD2 hv2 e
           go_wp2
           go_ret
           have eR:=hidR.out
           rw [E1.out] at eR
           have eR2:R=(m2,true):=by rw [←eR];rfl
           rw [eR2]
           exact ⟨rfl,F2,HM2.out.1,HV2.out,HM2.out.2.1,HM2.out.2.2.1⟩
       · have HM2:=hid hM2;have HD2:=hid hD2;have HV2:=hid hv2
         have eR:=hidR.out
         rw [hD2] at eR hDR
         replace hDR:m2.entries≤R.1.entries:=hDR
         replace eR:Zg wo lim L f m2 (i+1) (n2+1) r2=R:=eR
         have hn2b: -1≤n2∧n2≤lim:=Lb
         obtain ⟨w1, -⟩:=set_b1 hl1 hn2b.1 hn2b.2
         obtain ⟨w2,w3⟩:=set_b2 (i:=i) hi hm12 (Int.le_trans hDR (Int.le_trans hmE hEE))
         have hms:=Q8m hl0 hn1 Lb n0 hnr
         have hr2:0≤r2∧r2≤25:=Lb
         have HER:=hid eR;have W1:=hid w1;have W2:=hid w2;have W3:=hid w3;have HMS:=hid hms;have HR2B:=hid hr2;have HNB:=hid (set_b6 hn2b)
         clear hM2 hD2 hv2 hnr eR w1 w2 w3 hms
         by_cases hkk:(k:Int)<c.wo
         · go_wp2
           exact Z12
         · go_wp2
           exact Z12
   · unfold Zg at hR
     rw [if_neg (by rw [←HW.out];exact hn)] at hR
     exact absurd (by rw [←hR]) (show ¬R.2=false by rw [HR2.out];simp)
theorem Yb {w:World} {g off cap:Nat} {evs:List EvV} (h:Xn w (.slice (some ⟨g,off,none⟩) evs.length cap) evs) {k:Nat} {x:EvV} (hx:evs[k]?=some x) {j:Nat} {u:Value} (hj:x.cells[j]?=some u):w.cell? ⟨g,off+k*18+j,none⟩=some u:=by
 have hjl:j<18:=by have:=(List.getElem?_eq_some_iff.1 hj).1;rwa [XQ] at this
 have h2:=J3.cell h (j:=k*18+j) (u:=u) (by rw [ER evs k j x hx hjl];exact hj)
 rw [←Nat.add_assoc] at h2
 exact h2
theorem Z0M {P:Prop} (h:P:=by
 go_wp2
 exact ⟨⟨j,Lb,by go_num,HF.out⟩,by simp [intOf]<;>omega⟩):P:=h
theorem Q51 (w:World) (a:Option Addr) (cap:Nat) (evs:List EvV) (he:Xn w (.slice a evs.length cap) evs) (hn:evs.length≤100000) (who:Int):
 Calls Tryz.prog 35 #[.slice a evs.length cap,.int .i64 who] w fun e w'=>∃s g:Int,e=.returned (.tuple #[.int .i64 s,.int .i64 g])∧Fr [] w w':=by
 obtain ⟨len,hln⟩:∃len,evs.length=len:=⟨_,rfl⟩
 have HE:=hid he;have HLN:=hid hln
 rw [hln] at hn ⊢
 clear he hln
 have hwr:wrap64 ((len:Int) - 1)=(len:Int) - 1:=by unfold wrap64;omega
 go_in
 go_wp2_with fail
 go_loopw [6] (fun s6 wr=>∃i:Nat,i≤len∧s6=.int .i64 ((i:Int) - 1)∧Fr [] w wr) (fun s6 _=>(intOf s6+1).toNat)
 case atStart=>exact ⟨len,Nat.le_refl _,rfl,Fr.refl _ _⟩
 case round=>
  obtain ⟨i,hi,rfl,f4⟩:=hrel
  cases i with
  |zero=>
   go_wp2
   go_ret2
   exact ⟨0,0,rfl,f4⟩
  |succ j=>
   rw [show ((j+1:Nat):Int) - 1=(j:Int) by omega]
   have hj:j<len:=Lb
   have hj0:(0:Int)≤(j:Int):=Lb
   have hj1:(j:Int)<len:=Lb
   obtain ⟨x,hx⟩:∃x,evs[j]?=some x:=⟨_,List.getElem?_eq_getElem (by rw [HLN.out];exact hj)⟩
   have he:=J3.fr HE.out f4 Lc
   have he':=he
   rw [HLN.out] at he'
   rcases he'.2 with ⟨_,h0⟩|⟨g,off,cap',cur,hval,hg, -⟩
   · omega
   simp only [Value.slice.injEq,true_and] at hval
   obtain ⟨rfl, -⟩:=hval
   have q0:=Yb he hx (j:=0) rfl;have q1:=Yb he hx (j:=1) rfl;have q3:=Yb he hx (j:=3) rfl;have q10:=Yb he hx (j:=10) rfl;have q11:=Yb he hx (j:=11) rfl;have q12:=Yb he hx (j:=12) rfl
   rw [Nat.add_zero] at q0
   obtain ⟨ended,xwho,at_,⟨aop,adl,awt,afc,asl,agn,ast⟩,e,slot,gen,stream,cI,cL,cE,cO⟩:=x
   dsimp only at q0 q1 q3 q10 q11 q12
   have HF:=hid f4
   clear he he' hg hx f4
   have hwj:wrap64 ((j:Int) - 1)=(j:Int) - 1:=by unfold wrap64;omega
   cases ended with
   |false=>
    exact Z0M
   |true=>
    by_cases e1:xwho=who
    · have d1:(xwho==who)=true:=by simp [e1]
      clear e1
      by_cases e2:aop=0
      · have d2:(aop==0)=true:=by simp [e2]
        clear e2
        by_cases e3:e=0
        · have d3:(e==0)=true:=by simp [e3]
          clear e3
          go_wp2_with fail
          go_region
          all_goals go_wp2
          all_goals go_ret2
          all_goals exact ⟨slot,gen,rfl,HF.out.drew⟩
        · have d3:(e==0)=false:=by simp [e3]
          clear e3
          exact Z0M
      · have d2:(aop==0)=false:=by simp [e2]
        clear e2
        exact Z0M
    · have d1:(xwho==who)=false:=by simp [e1]
      clear e1
      exact Z0M
end
section
open Go.RowKit Go.Shelf Go.Lib
attribute [local go_sem] Oper.semAt_some
theorem MM.settled {w w':World} {F F':List Nat} {b:Bs} {m R:Qa} {w0:World} {F0:List Nat} {q:Nat} {c:Q0} (H:MM w F b m w0 F0 q c) (A:MAt w' F' b R (2*R.entries)) (f:Fr F w w') (hF:∀x∈F',x∈F∨w.heap.size≤x):MM w' F' b R w0 F0 q c:=by
 obtain ⟨-,g,h1,h2,h3⟩:=H
 have hlt:=Q9 h3
 refine ⟨A,g.then f h1,fun y hy=> ?_,fun hq=> ?_,f.at h3 h2⟩
 · rcases hF y hy with a|a
   · exact h1 y a
   · exact .inr (Nat.le_trans g.size a)
 · rcases hF q hq with a|a
   · exact h2 a
   · omega
theorem KC:JO.fits:=by unfold Q0.fits JO;decide
def aA:Qa×Bool:=doV (J5 JO) ⟨0,0,Yy,0,false⟩
def Db:Qa×Bool:=Zg 2 Ke [] 1000 aA.1 0 0 0
def aB:Qa×Bool:=doV Db.1 ⟨0,1,{Yy with wait:=true,dl:=9},0,false⟩
def Wq:Qa×Bool:=Zg 2 Ke [] 1000 aB.1 0 0 0
def aD:Qa×Bool:=doV Wq.1 ⟨0,0,{Yy with op:=2,gen:=1},0,false⟩
def ZY:Qa×Bool:=Zg 2 Ke [] 1000 aD.1 0 0 0
theorem GY:aA.2=true∧Db.2=true∧aB.2=true∧Wq.2=true∧aD.2=true∧ZY.2=true∧(Wq.1.wk 1).st=6∧(ZY.1.wk 1).st=0∧ZY.1.evs.length=6∧(ZY.1.evs.getD 5 ev0).e=0∧ZY.1.entries≤1000:=by
 have h:=Q1A
 unfold Q7u at h
 simp only [Bool.and_eq_true,decide_eq_true_eq] at h
 obtain ⟨⟨⟨⟨⟨⟨⟨⟨⟨⟨h1,h2⟩,h3⟩,h4⟩,h5⟩,h6⟩,h7⟩,h8⟩,h9⟩,h10⟩,h11⟩:=h
 exact ⟨h1,h4,h2,h5,h3,h6,h7,h8,h9,h10,h11⟩
structure JA (J:Qa→Prop):Prop where
 n:J (J5 JO)
 s:∀m x,J m→m.entries≤1000→J (doV m x).1
 i:∀m,J m→MInv m.entries m∧0≤m.entries∧m.c=JO
variable {J:Qa→Prop}
theorem Q7t (hJ:JA J):J aA.1∧J Db.1∧J aB.1∧J Wq.1∧J aD.1∧J ZY.1∧(J5 JO).entries=0∧aA.1.entries≤1000∧Db.1.entries≤1000∧aB.1.entries≤1000∧Wq.1.entries≤1000∧aD.1.entries≤1000:=by
 have e3:=GY.2.2.2.2.2.2.2.2.2.2
 have d5:aD.1.entries≤ZY.1.entries:=KN _ _ _ _ _ _ _ _
 have d4:aD.1.entries=Wq.1.entries+1:=Z7 _ _
 have d3:aB.1.entries≤Wq.1.entries:=KN _ _ _ _ _ _ _ _
 have d2:aB.1.entries=Db.1.entries+1:=Z7 _ _
 have d1:aA.1.entries≤Db.1.entries:=KN _ _ _ _ _ _ _ _
 have K:∀m:Qa,J m→m.entries≤1000→(∀f,(Zg 2 Ke [] f m 0 0 0).1.entries≤1000→J (Zg 2 Ke [] f m 0 0 0).1):=fun m g he f hf=>by
  have:=Q28 (J:=fun m=>m.entries≤1000→J m) 2 Ke [] Lb (fun m w hw h he=>by
   have:=Z7 m (JB w)
   exact hJ.s m _ (h Lb) Lb) f m 0 0 0 (fun _=>g)
  exact this hf
 have g0:=hJ.n
 have g1:J aA.1:=hJ.s _ _ g0 (by show (0:Int)≤_;omega)
 have g2:J Db.1:=K _ g1 Lb 1000 (by show Db.1.entries≤1000;omega)
 have g3:J aB.1:=hJ.s _ _ g2 Lb
 have g4:J Wq.1:=K _ g3 Lb 1000 (by show Wq.1.entries≤1000;omega)
 have g5:J aD.1:=hJ.s _ _ g4 Lb
 have g6:J ZY.1:=K _ g5 Lb 1000 (by show ZY.1.entries≤1000;omega)
 exact ⟨g1,g2,g3,g4,g5,g6,rfl,Lb,Lb,Lb,Lb,Lb⟩
theorem Q4Y:Y2 JO=Ke:=by decide
theorem YL.nil (w:World) (g:Option Addr):YL w g []:=⟨Lc,Lc,fun j x h=>by simp at h⟩
def lies (w:World) (F:List Nat):List Nat:=F.filter fun x=>decide (x<w.heap.size)
theorem EI {w:World} {F:List Nat}:∀x∈lies w F,x<w.heap.size:=fun x hx=>by unfold lies at hx;rw [List.mem_filter,decide_eq_true_eq] at hx;exact hx.2
theorem WH {w:World} {F:List Nat}:∀x∈lies w F,x∈F:=fun x hx=>by unfold lies at hx;exact (List.mem_filter.1 hx).1
theorem KZ {w:World} {F:List Nat} {x:Nat} (h:2<x∧x<w.heap.size∧x∈F):2<x∧x<w.heap.size∧x∈lies w F:=⟨h.1,h.2.1,List.mem_filter.2 ⟨h.2.2,decide_eq_true h.2.1⟩⟩
theorem MAt.cut {w:World} {F:List Nat} {b:Bs} {m:Qa} {N:Int} (A:MAt w F b m N):MAt w (lies w F) b m N:=by
 obtain ⟨ve,vr,v,L,A⟩:=A
 exact ⟨ve,vr,v,L,A.mb,A.wr,A.me,A.ck,A.wl,A.ev,A.fl,A.db,A.nd,fun x hx=>KZ (A.bl x hx),fun x hx=>⟨KZ (A.e1 x hx).1,(A.e1 x hx).2⟩,fun x hx=>⟨KZ (A.e2 x hx).1,(A.e2 x hx).2⟩,A.th,A.ln,fun k hk x hx=>⟨KZ (A.l1 k hk x hx).1,(A.l1 k hk x hx).2⟩,A.l2⟩
theorem MM.cut {w:World} {F:List Nat} {b:Bs} {m:Qa} {w0:World} {F0:List Nat} {q:Nat} {c:Q0} (H:MM w F b m w0 F0 q c):MM w (lies w F) b m w0 F0 q c:=
 ⟨H.1.cut,H.2.1,fun x hx=>H.2.2.1 x (WH x hx),fun hx=>H.2.2.2.1 (WH _ hx),H.2.2.2.2⟩
theorem Q67 (w:World) (F:List Nat) (b:Bs) (m:Qa) (w0:World) (F0:List Nat) (q:Nat) (H:MM w F b m w0 F0 q JO) (hJ:JA J) (g:J m) (hR2:(Zg 2 Ke [] 1000 m 0 0 0).2=true) (hE:(Zg 2 Ke [] 1000 m 0 0 0).1.entries≤1000):
 Calls Tryz.prog 9 #[pt b.pM,JO.val,.slice none 0 0] w fun e w'=>e=.returned (.bool true)∧∃F',MM w' F' b (Zg 2 Ke [] 1000 m 0 0 0).1 w0 F0 q JO:=by
 have H2:=H.cut
 refine (Gv w (lies w F) b m H2.1 EI JO KC none 0 [] (YL.nil w _) Lc Lc 1000 J ⟨hJ.i,fun m w g he _ _=>hJ.s m _ g Lb,Lb⟩ g 1000 _ (by rw [Q4Y];rfl) hR2 hE).mono ?_
 rintro e w' ⟨rfl,F',A, -,f,hF'⟩
 exact ⟨rfl,F',H2.settled A f hF'⟩
theorem MM.ndo {w:World} {F:List Nat} {b:Bs} {m:Qa} {w0:World} {F0:List Nat} {q:Nat} {c':Q0} (H:MM w F b m w0 F0 q c') (hJ:JA J) (g:J m) (he:m.entries≤40000000) (x:QD) {r:Qa×Bool} (hr:doV m x=r):
 Calls Tryz.prog 11 #[pt b.pM,x.val] w fun e w'=>e=.returned (.bool r.2)∧∃F',MM w' F' b r.1 w0 F0 q c':=by
 obtain ⟨i,e, -⟩:=hJ.i m g
 rw [←hr];exact H.do_ i Lb e he x
theorem Q5B (w:World) (h3:3≤w.heap.size) (hfl:Qe w 0 Qc) (hdb:Yj w) (hJ:JA J):Calls Tryz.prog 6 #[] w fun e w'=>e=.returned (.bool true)∧Fr [] w w':=by
 obtain ⟨t1,t2,t3,t4,t5,t6,t7,t8,t9,t10,t11⟩:=GY
 obtain ⟨g1,g2,g3,g4,g5,g6,z0,e1,e2,e3,e4,e5⟩:=Q7t hJ
 have f1:=(Fr.refl [] w).alloc (ZR JO)
 have hq:(w.alloc (ZR JO)).heap[w.heap.size]?=some (ZR JO):=heap_alloc_new w (ZR JO)
 have hnew:=(r_new (w.alloc (ZR JO)) JO KC (by rw [World.size_alloc];omega) (hfl.fr f1 Lc) (hdb.fr f1 Lc))
 generalize hw1:w.alloc (ZR JO)=w1 at hnew f1 hq
 have hw1':w.alloc (.cells #[.int .i64 2,.int .i64 1,.int .i64 0,.int .i64 1,.int .i64 9] 30 (0,0))=w1:=hw1
 have HN:=hid (show Calls Tryz.prog 17 #[.agg #[.int .i64 2,.int .i64 1,.int .i64 0,.int .i64 1,.int .i64 9]] w1 (Q3G w1 JO) from hnew)
 have HT:=hid (And.intro t1 (And.intro t2 (And.intro t3 (And.intro t4 (And.intro t5 t6)))))
 have HG:=hid (And.intro g1 (And.intro g2 (And.intro g3 (And.intro g4 (And.intro g5 g6)))))
 have HQ:=hid hq;have HF1:=hid f1;have Hz:=hid z0
 have H7:=hid t7;have H8:=hid t8;have H9:=hid t9;have H10:=hid t10;have H11:=hid t11
 have HE:=hid (And.intro e1 (And.intro e2 (And.intro e3 (And.intro e4 e5))))
 have HW1:=hid hw1';have HJ:=hid hJ
 clear hnew t1 t2 t3 t4 t5 t6 t7 t8 t9 t10 t11 g1 g2 g3 g4 g5 g6 hq f1 z0 hfl hdb e1 e2 e3 e4 e5 hw1 hw1' hJ
 have HS:=hid (show ∀(w:World) (F:List Nat) (b:Bs) (m:Qa) (w0:World) (F0:List Nat) (q:Nat),MM w F b m w0 F0 q JO→J m→(Zg 2 Ke [] 1000 m 0 0 0).2=true→(Zg 2 Ke [] 1000 m 0 0 0).1.entries≤1000→
  Calls Tryz.prog 9 #[.pointer (some ⟨b.pM,0,none⟩),.agg #[.int .i64 2,.int .i64 1,.int .i64 0,.int .i64 1,.int .i64 9],.slice none 0 0] w fun e w'=>e=.returned (.bool true)∧∃F',MM w' F' b (Zg 2 Ke [] 1000 m 0 0 0).1 w0 F0 q JO from fun w F b m w0 F0 q H g h1 h2=>Q67 w F b m w0 F0 q H HJ.out g h1 h2)
 go_in
 go_wp2_with fail
 rw [HW1.out]
 refine (HN.out).mono ?_
 rintro e w2 ⟨b,F,rfl,A,hFn,f2⟩
 have hlq:=Q9 HQ.out
 have M0:MM w2 F b (J5 JO) w [] w.heap.size JO:=⟨by rw [Hz.out];exact A,HF1.out.then f2 Lc,fun x hx=>.inr (by have:=hFn x hx;have:=HF1.out.size;omega),fun hx=>by have:=hFn _ hx;omega,f2.at HQ.out Lc⟩
 have HM0:=hid M0
 have q0:=cl 0 M0.2.2.2.2;have q1:=cl 1 M0.2.2.2.2;have q2:=cl 2 M0.2.2.2.2;have q3:=cl 3 M0.2.2.2.2;have q4:=cl 4 M0.2.2.2.2
 have HB:=hid M0.2.2.2.2
 clear M0 A hFn f2 hlq HN HW1
 unfold pt
 have hd:=HM0.out.ndo HJ.out HJ.out.n (by rw [Hz.out];omega) ⟨0,0,Yy,0,false⟩ (show doV (J5 JO) _=aA from rfl)
 have HD:=hid (show Calls Tryz.prog 11 #[.pointer (some ⟨b.pM,0,none⟩),.agg #[.int .i64 0,.int .i64 0,.int .i64 0,.int .i64 0,.bool false,.bool false,.int .i64 0,.int .i64 0,.int .i64 0,.int .i64 0,.bool false]] _ (fun e w'=>e=.returned (.bool aA.2)∧∃F',MM w' F' b aA.1 w [] w.heap.size JO) from hd)
 clear hd
 go_wp2_with fail
 refine (HD.out).mono ?_
 rintro e w3 ⟨he,F1,M1⟩
 rw [HT.out.1] at he
 subst he
 have HM1:=hid M1
 have q0:=cl 0 M1.2.2.2.2;have q1:=cl 1 M1.2.2.2.2;have q2:=cl 2 M1.2.2.2.2;have q3:=cl 3 M1.2.2.2.2;have q4:=cl 4 M1.2.2.2.2
 clear M1 HM0 HD
 have HD:=hid (HS.out _ _ _ _ _ _ _ HM1.out (HG.out.1) (HT.out.2.1) (by have h:=HE.out.2.1;exact h))
 go_wp2_with fail
 refine (HD.out).mono ?_
 rintro e w4 ⟨rfl,F2,M2⟩
 have HM2:=hid (show MM _ F2 b Db.1 w [] w.heap.size JO from M2)
 have q0:=cl 0 M2.2.2.2.2;have q1:=cl 1 M2.2.2.2.2;have q2:=cl 2 M2.2.2.2.2;have q3:=cl 3 M2.2.2.2.2;have q4:=cl 4 M2.2.2.2.2
 clear M2 HM1 HD
 have hd:=HM2.out.ndo HJ.out (HG.out.2.1) (by have:=HE.out.2.1;omega) ⟨0,1,{Yy with wait:=true,dl:=9},0,false⟩ (show doV Db.1 _=aB from rfl)
 have HD:=hid (show Calls Tryz.prog 11 #[.pointer (some ⟨b.pM,0,none⟩),.agg #[.int .i64 0,.int .i64 1,.int .i64 0,.int .i64 9,.bool true,.bool false,.int .i64 0,.int .i64 0,.int .i64 0,.int .i64 0,.bool false]] _ (fun e w'=>e=.returned (.bool aB.2)∧∃F',MM w' F' b aB.1 w [] w.heap.size JO) from hd)
 clear hd
 go_wp2_with fail
 refine (HD.out).mono ?_
 rintro e w5 ⟨he,F3,M3⟩
 rw [HT.out.2.2.1] at he
 subst he
 have HM3:=hid M3
 have q0:=cl 0 M3.2.2.2.2;have q1:=cl 1 M3.2.2.2.2;have q2:=cl 2 M3.2.2.2.2;have q3:=cl 3 M3.2.2.2.2;have q4:=cl 4 M3.2.2.2.2
 clear M3 HM2 HD
 have HD:=hid (HS.out _ _ _ _ _ _ _ HM3.out (HG.out.2.2.1) (HT.out.2.2.2.1) (by have h:=HE.out.2.2.2.1;exact h))
 go_wp2_with fail
 refine (HD.out).mono ?_
 rintro e w6 ⟨rfl,F4,M4⟩
 have HM4:=hid (show MM _ F4 b Wq.1 w [] w.heap.size JO from M4)
 have q0:=cl 0 M4.2.2.2.2;have q1:=cl 1 M4.2.2.2.2;have q2:=cl 2 M4.2.2.2.2;have q3:=cl 3 M4.2.2.2.2;have q4:=cl 4 M4.2.2.2.2
 clear M4 HM3 HD
 have hw2:Wq.1.ws.length=2:=by have h:=HJ.out.i _ HG.out.2.2.2.1;have h2:=h.1.wl;rw [h.2.2] at h2;have:JO.wo=2:=rfl;omega
 have HD:=hid (HM4.out.1.state (who:=1) Lb)
 clear hw2
 go_wp2_with fail
 refine (HD.out).mono ?_
 rintro e w7 ⟨he,f7⟩
 rw [H7.out] at he
 subst he
 have M5:=HM4.out.fr f7
 have HM5:=hid M5
 have q0:=cl 0 M5.2.2.2.2;have q1:=cl 1 M5.2.2.2.2;have q2:=cl 2 M5.2.2.2.2;have q3:=cl 3 M5.2.2.2.2;have q4:=cl 4 M5.2.2.2.2
 clear M5 HM4 HD f7
 have hd:=HM5.out.ndo HJ.out (HG.out.2.2.2.1) (by have:=HE.out.2.2.2.1;omega) ⟨0,0,{Yy with op:=2,gen:=1},0,false⟩ (show doV Wq.1 _=aD from rfl)
 have HD:=hid (show Calls Tryz.prog 11 #[.pointer (some ⟨b.pM,0,none⟩),.agg #[.int .i64 0,.int .i64 0,.int .i64 2,.int .i64 0,.bool false,.bool false,.int .i64 0,.int .i64 1,.int .i64 0,.int .i64 0,.bool false]] _ (fun e w'=>e=.returned (.bool aD.2)∧∃F',MM w' F' b aD.1 w [] w.heap.size JO) from hd)
 clear hd
 go_wp2_with fail
 refine (HD.out).mono ?_
 rintro e w8 ⟨he,F6,M6⟩
 rw [HT.out.2.2.2.2.1] at he
 subst he
 have HM6:=hid M6
 have q0:=cl 0 M6.2.2.2.2;have q1:=cl 1 M6.2.2.2.2;have q2:=cl 2 M6.2.2.2.2;have q3:=cl 3 M6.2.2.2.2;have q4:=cl 4 M6.2.2.2.2
 clear M6 HM5 HD
 have HD:=hid (HS.out _ _ _ _ _ _ _ HM6.out (HG.out.2.2.2.2.1) (HT.out.2.2.2.2.2) (H11.out))
 go_wp2_with fail
 refine (HD.out).mono ?_
 rintro e w9 ⟨rfl,F7,M7⟩
 have HM7:=hid (show MM _ F7 b ZY.1 w [] w.heap.size JO from M7)
 have q0:=cl 0 M7.2.2.2.2;have q1:=cl 1 M7.2.2.2.2;have q2:=cl 2 M7.2.2.2.2;have q3:=cl 3 M7.2.2.2.2;have q4:=cl 4 M7.2.2.2.2
 clear M7 HM6 HD
 have HD:=hid (HM7.out.1.events (HJ.out.i _ HG.out.2.2.2.2.2).1)
 go_wp2_with fail
 refine (HD.out).mono ?_
 rintro e w10 ⟨v',rfl,E, -,f10⟩
 have M8:=HM7.out.fr f10
 have hw2:ZY.1.ws.length=2:=by have h:=HJ.out.i _ HG.out.2.2.2.2.2;have h2:=h.1.wl;rw [h.2.2] at h2;have:JO.wo=2:=rfl;omega
 have HD2:=hid (M8.1.state (who:=1) Lb)
 have E0:=E
 unfold Xn at E0
 rcases E0.2 with ⟨-,h0⟩|⟨g,off,cap,cur,rfl,hg, -⟩
 · exact absurd h0 (by rw [H9.out];omega)
 obtain ⟨x,hx⟩:∃x,ZY.1.evs[5]?=some x:=⟨_,List.getElem?_eq_getElem (by rw [H9.out];omega)⟩
 have hx0:x.e=0:=by have h:=H10.out;rw [List.getD_eq_getElem?_getD,hx] at h;exact h
 have HEV:=hid E;have HX:=hid hx;have HX0:=hid hx0
 have HM8:=hid M8
 clear M8 HM7 HD f10 hw2 E E0 hg hx hx0
 rw [H9.out]
 go_wp2_with fail
 refine (HD2.out).mono ?_
 rintro e w11 ⟨he,f11⟩
 rw [H8.out] at he
 subst he
 have M9:=HM8.out.fr f11
 have qe:=Yb (J3.fr HEV.out f11 Lc) HX.out (j:=10) (u:=.int .i64 0) (by have h:=HX0.out;unfold EvV.cells;rw [h];rfl)
 have HF9:=hid M9.2.1
 clear M9 HM8 HD2 f11
 go_wp2
 go_ret
 exact ⟨rfl,HF9.out⟩
end
section
open Go.RowKit Go.Shelf Go.Lib
attribute [local go_sem] Oper.semAt_some
def EntAt (w:World) (b:Nat) (x:QD):Prop:=w.heap[b]?=some (.cells #[.int .i64 x.kind,.int .i64 x.who,.int .i64 x.ask.op,.int .i64 x.ask.dl,.bool x.ask.wait,.bool x.ask.force,.int .i64 x.ask.slot,.int .i64 x.ask.gen,.int .i64 x.ask.stream,.int .i64 x.n,.bool x.good] 39 (0,0))
theorem Q31 {P:Program} {w:World} {b:Nat} {cur:Array Value} {tt:TypeId} (h:w.heap[b]?=some (.cells cur tt (0,0))) (o:Nat) (vs:List Value) (t:TypeId) (ht:(P.info? t).map (·.size)=some vs.length) (hs:o+vs.length≤cur.size) (h1:∀v∈vs,v.oneCell'=true):
 ∃w',(storeVar t ⟨b,o,none⟩ (.agg vs.toArray)).run P w=.ok () w'∧w'.heap[b]?=some (.cells (cur.toList.take o++vs++cur.toList.drop (o+vs.length)).toArray tt (0,0))∧Fr [b] w w':=
 ⟨_,ZW t b o vs tt cur w ht h Lb h1,setRow_heap w b cur _ _ _ h,(Fr.refl [b] w).setRow' Lc _⟩
def tnVal (kd wh op sl gn nn:Int):Value:=.agg #[.int .u8 kd,.int .u8 wh,.int .u8 op,.int .u8 sl,.int .u8 gn,.int .u8 nn]
def u8s (x:Int):Prop:=0≤x∧x≤255
theorem Q7e {w:World} {b:Nat} {x0 x1 x2 x3 x6 x7 x8 x9:Int} {x4 x5 x10:Bool} (h:w.heap[b]?=some (.cells #[.int .i64 x0,.int .i64 x1,.int .i64 x2,.int .i64 x3,.bool x4,.bool x5,.int .i64 x6,.int .i64 x7,.int .i64 x8,.int .i64 x9,.bool x10] 39 (0,0))):∃x,EntAt w b x:=⟨⟨x0,x1,⟨x2,x3,x4,x5,x6,x7,x8⟩,x9,x10⟩,h⟩
abbrev tEx (b:Nat):Th:=⟨true,[b],fun w=>∃x,EntAt w b x,fun f h ⟨x,k⟩=>⟨x,f.at k (h _ Lc)⟩⟩
theorem Bag.ent {w0 w:World} {A Z:Th} {L:List Th} {b:Nat} {x0 x1 x2 x3 x6 x7 x8 x9:Int} {x4 x5 x10:Bool} (B:Bag [] w0 (A::Z::tR b #[.int .i64 x0,.int .i64 x1,.int .i64 x2,.int .i64 x3,.bool x4,.bool x5,.int .i64 x6,.int .i64 x7,.int .i64 x8,.int .i64 x9,.bool x10] 39::L) w):Bag [] w0 [A,Z,tEx b] w:=
 (B.tk 3).up 2 (T':=tEx b) (Q7e (B.g 2)) (Fr.refl [b] w)
theorem Q5e (w:World) (kd wh op sl gn nn:Int) (h1:u8s kd) (h2:u8s wh) (h3:u8s op) (h4:u8s sl) (h5:u8s gn) (h6:u8s nn) (c:Q0) (hc:c.small) (a:Option Addr) (cap:Nat) (evs:List EvV) (he:Xn w (.slice a evs.length cap) evs) (hn:evs.length≤100000):
 Calls Tryz.prog 18 #[tnVal kd wh op sl gn nn,c.val,.slice a evs.length cap] w fun e w'=>∃x:QD,e=.returned x.val∧Fr [] w w':=by
 obtain ⟨a0,a1⟩:=h1;obtain ⟨b0,b1⟩:=h2;obtain ⟨c0,c1⟩:=h3;obtain ⟨d0,d1⟩:=h4;obtain ⟨e0,e1⟩:=h5;obtain ⟨f0,f1⟩:=h6
 obtain ⟨wo,csl,cst,wa,us⟩:=c
 obtain ⟨⟨o0,o1⟩, -⟩:=hc
 dsimp only at o0 o1
 unfold tnVal Q0.val
 dsimp only
 have HLE:=hid fun w' (he:Xn w' (.slice a evs.length cap) evs) who=>Q51 w' a cap evs he hn who
 have HE:=hid he
 clear he
 generalize evs.length=len at hn HLE HE ⊢
 go_in
 go_wp2_with fail
 have hwo:IntKind.i64.wrap (wo+1)=wo+1:=by rw [IntKind.wrap_i64];omega
 have hwo2:¬wo+1=0:=Lb
 have hwo3:0<wo+1:=Lb
 go_region
 clear hwo hwo2 hwo3
 generalize hw:World.alloc w _=w1,hb:(World.heap w).size=bT
 generalize hw2:World.alloc w1 _=w2
 generalize hw3:World.alloc w2 _=w3
 have B:=(((Bag.nil [] w).al3 hw hb hw2 hw3).sel [0,2]).drew
 clear hw hw2 hw3 hb
 generalize w3.drew=w4 at B ⊢
 generalize wrap64 (wh % (wo+1) - wh / 250)=who
 have k:=B.q 0
 go_upto_block 0 with fail
 generalize hb:(World.heap _).size=bX,hw:World.alloc _ _=w5
 replace B:=B.al hw hb
 clear hw hb k
 go_cut [7] from 33 to 62 (fun s7 wx=>s7=.int .i64 who∧Bag [] w [tR bT #[.int .u8 kd,.int .u8 wh,.int .u8 op,.int .u8 sl,.int .u8 gn,.int .u8 nn] 62,tR (bT+1+1) #[.int .i64 0,.int .i64 0,.int .i64 0,.int .i64 0,.bool false,.bool false,.int .i64 0,.int .i64 0,.int .i64 0,.int .i64 0,.bool false] 39,tEx bX] wx)
 case first=>
  have k:=B.q 0;have x:=B.q 2;have u:=B.u 2
  go_wp2_with fail
  all_goals go_meet
  all_goals
   refine ⟨rfl, ?_⟩
   generalize hw:World.setCell _ _ _=w6
   exact ((B.s 2).e hw).ent
 case rest=>
  obtain ⟨rfl,B⟩:=hcut
  obtain ⟨⟨xk,xwho,⟨xop,xdl,xwt,xfc,xsl,xgn,xst⟩,xn,xgd⟩,hx⟩:=B.g 2
  replace B:=B.up 2 (T':=tR bX _ _) hx (Fr.refl [bX] _)
  clear hx
  try dsimp only at B
  obtain ⟨w3,hr,hX3,f3⟩:=Q31 (P:=Tryz.prog) (B.g 2) 2 [.int .i64 (op % 9),.int .i64 nn,.bool (nn % 2==1),.bool (nn % 5==0),.int .i64 (sl % 6),.int .i64 (gn % 4),.int .i64 (nn % 4)] 37 rfl Lc (by simp [Value.oneCell'])
  simp only [List.take_succ_cons,List.take_zero,List.cons_append,List.nil_append,List.length_cons,List.length_nil,Nat.reduceAdd,List.drop_succ_cons,List.drop_zero] at hX3
  have k:=B.q 0
  go_upto_region 15 with (refine X8 rfl _ _ _ rfl _ _ rfl rfl hr ?_)
  replace B:=B.up 2 (T':=tR bX _ _) hX3 f3
  clear k hr hX3 f3
  have k:=B.q 0
  go_upto_if 94 with fail
  go_cut [] from 94 to 103 (fun wx=>Bag [] w [tR bT #[.int .u8 kd,.int .u8 wh,.int .u8 op,.int .u8 sl,.int .u8 gn,.int .u8 nn] 62,tR (bT+1+1) #[.int .i64 0,.int .i64 0,.int .i64 0,.int .i64 0,.bool false,.bool false,.int .i64 0,.int .i64 0,.int .i64 0,.int .i64 0,.bool false] 39,tEx bX] wx)
  case first=>
   by_cases h100:op<100
   · have d100:decide (100≤op)=false:=decide_eq_false Lb
     go_wp2_with fail
     go_meet
     exact B.ent
   · have d100:decide (100≤op)=true:=decide_eq_true Lb
     have x2:=B.qa 2;have kk2:=B.qa 0;have ux2:=B.ua 2
     have nb1:¬bX=w3.heap.size:=by have:=B.lt 2 bX (by simp [gt]);omega
     have nb2:¬w3.heap.size=bX:=fun e=>nb1 e.symm
     rcases (by omega:op % 5=0∨op % 5=1∨op % 5=2∨op % 5=3∨op % 5=4) with hm|hm|hm|hm|hm
     all_goals
      go_wp2_with fail
      go_meet
      generalize hb:w3.heap.size=b9,hw2:World.alloc w3 _=w7
      generalize hw:World.setCell _ _ _=w6
      exact (((B.al hw2 hb).s 2).e hw).ent
  case rest=>
   clear k B
   replace B:=hcut
   obtain ⟨⟨xk,xwho,⟨xop,xdl,xwt,xfc,xsl,xgn,xst⟩,xn,xgd⟩,hx⟩:=B.g 2
   replace B:=B.up 2 (T':=tR bX _ _) hx (Fr.refl [bX] _)
   clear hx
   try dsimp only at B
   have k:=B.q 0
   go_upto_if 106 with fail
   go_cut [9,10] from 106 to 118 (fun _ _ wx=>Bag [] w [tR bT #[.int .u8 kd,.int .u8 wh,.int .u8 op,.int .u8 sl,.int .u8 gn,.int .u8 nn] 62,tR (bT+1+1) #[.int .i64 0,.int .i64 0,.int .i64 0,.int .i64 0,.bool false,.bool false,.int .i64 0,.int .i64 0,.int .i64 0,.int .i64 0,.bool false] 39,tEx bX] wx)
   case first=>
    by_cases hs60:sl<60
    · have d60:decide (60≤sl)=false:=decide_eq_false Lb
      go_wp2_with fail
      go_meet
      exact B.ent
    · have d60:decide (60≤sl)=true:=decide_eq_true Lb
      go_wp2_with fail
      refine (HLE.out _ (J3.fr HE.out B.fr Lc) _).mono ?_
      rintro e w6 ⟨s,g,rfl,f6⟩
      replace B:=B.tm f6
      clear k
      have x:=B.q 2;have u:=B.u 2
      go_wp2_with fail
      go_meet
      generalize hw:World.setCell _ _ _=w7
      exact (((B.s 2).s 2).e hw).ent
   case rest=>
    clear k B
    replace B:=hcut
    obtain ⟨⟨xk,xwho,⟨xop,xdl,xwt,xfc,xsl,xgn,xst⟩,xn,xgd⟩,hx⟩:=B.g 2
    replace B:=B.up 2 (T':=tR bX _ _) hx (Fr.refl [bX] _)
    clear hx
    try dsimp only at B
    obtain ⟨w8,hr,hb8,f8⟩:=Yd (P:=Tryz.prog) (B.g 1) [.int .i64 xk,.int .i64 xwho,.int .i64 xop,.int .i64 xdl,.bool xwt,.bool xfc,.int .i64 xsl,.int .i64 xgn,.int .i64 xst,.int .i64 xn,.bool xgd] 39 rfl rfl (by simp [Value.oneCell'])
    have x:=B.q 2
    go_wp2_with (refine X8 rfl _ _ _ rfl _ _ rfl rfl hr ?_)
    replace B:=B.up 1 (T':=tR _ _ _) hb8 f8
    have x:=B.q 1
    refine bodyPost_ret (v:=QD.val ⟨xk,xwho,⟨xop,xdl,xwt,xfc,xsl,xgn,xst⟩,xn,xgd⟩) ?_ rfl ?_
    rotate_left
    · first|exact ⟨_,rfl,B.fr⟩|exact ⟨⟨_,rfl⟩,B.fr⟩
    simp [results,Tryz.f18,go_sem,QD.val,x]
end
end Go.Proofs.YtgjklfmnmljilaaGreatDoor

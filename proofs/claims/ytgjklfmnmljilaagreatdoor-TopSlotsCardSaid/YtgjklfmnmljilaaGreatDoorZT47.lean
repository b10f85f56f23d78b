/- A part of the proof: TsI to TqV. -/
import Derived.Test.YtgjklfmnmljilaaGreatDoorZT03
import Derived.Test.YtgjklfmnmljilaaGreatDoorZT46
import Derived.Deep.CutBlock
namespace Go.Proofs.YtgjklfmnmljilaaGreatDoor
set_option linter.unusedVariables false
set_option linter.unusedSimpArgs false
set_option linter.unusedSectionVars false
set_option linter.unnecessarySimpa false
set_option maxRecDepth 100000
set_option maxHeartbeats 8000000
section
open Go.RowKit Go.Shelf Go.Lib
attribute [local go_sem] Oper.semAt_some
def YX (c:Q0):Obj:=.cells #[.int .i64 c.wo,.int .i64 c.sl,.int .i64 c.st,.int .i64 c.wa,.int .i64 c.us] 30 (0,0)
def MM (w:World) (F:List Nat) (b:Bs) (m:Qb) (w0:World) (F0:List Nat) (q:Nat) (c:Q0):Prop:=MAt w F b m (2*m.entries)∧Fr F0 w0 w∧(∀x∈F,x∈F0∨w0.heap.size≤x)∧q∉F∧w.heap[q]?=some (YX c)
structure InvA (c:Q0) (E:Int) (Inv:Qb→Prop):Prop where
 i:∀m,Inv m→MInv m.entries m∧0≤m.entries∧m.c=c
 s:∀m w,Inv m→m.entries<E→0≤w→w<c.wo→Inv (doV m (JY w)).1
 e:E≤40000000
theorem MM.do_ {w:World} {F:List Nat} {b:Bs} {m:Qb} {w0:World} {F0:List Nat} {q:Nat} {c:Q0} (H:MM w F b m w0 F0 q c) {n:Int} (hI:MInv n m) (hn:n≤1000000000) (h0:0≤m.entries) (hE:m.entries≤40000000) (x:QF):
 Calls Tryz.prog 11 #[pt b.pM,x.val] w fun e w'=>e=.returned (.bool (doV m x).2)∧∃F',MM w' F' b (doV m x).1 w0 F0 q c:=by
 obtain ⟨A,f,hF,hq,hc⟩:=H
 refine (A.do_ hI (by omega) hn h0 (by omega) x).mono ?_
 rintro e w' ⟨e1,F',A',g,hF'⟩
 have hlt:=Q6 hc
 refine ⟨e1,F', ?_,f.then g fun y hy=>hF y hy,fun y hy=> ?_,fun hm=> ?_,g.at hc hq⟩
 · have e2:=ZR m x
   rw [e2,show 2*(m.entries+1)=2*m.entries+2 by omega];exact A'
 · rcases hF' y hy with a|a
   · exact hF y a
   · exact .inr (Nat.le_trans f.size a)
 · rcases hF' q hm with a|a
   · exact hq a
   · omega
theorem MM.fr {w w':World} {F:List Nat} {b:Bs} {m:Qb} {w0:World} {F0:List Nat} {q:Nat} {c:Q0} (H:MM w F b m w0 F0 q c) (f:Fr [] w w'):MM w' F b m w0 F0 q c:=
 ⟨H.1.fr f (by simp) (by simp) (by simp),H.2.1.then f (by simp),H.2.2.1,H.2.2.2.1,f.at H.2.2.2.2 (by simp)⟩
theorem WH.frS {S:List Nat} {w w':World} {g:Option Addr} {L:List Int} (h:WH w g L) (f:Fr S w w') (hS:∀a,g=some a→L≠[]→a.block∉S):WH w' g L:=
 ⟨h.1,h.2.1,fun j y hy=>by
   obtain ⟨b,o,hg,hc⟩:=h.2.2 j y hy
   exact ⟨b,o,hg,f.cell hc (hS ⟨b,o,none⟩ hg (fun e=>by rw [e] at hy;simp at hy))⟩⟩
theorem lim_lt {c:Q0} (hc:c.fits):0≤Hg c∧Hg c≤2000000:=by
 obtain ⟨⟨a,b⟩,⟨d,e⟩, -⟩:=hc
 unfold Hg
 have h1:0≤c.wo*(c.sl+c.wo):=Int.mul_nonneg (by omega) (by omega)
 have h2:c.wo*(c.sl+c.wo)≤8*24:=Int.mul_le_mul (by omega) (by omega) (by omega) (by omega)
 rw [Int.mul_assoc];omega
theorem Q8F {lim r r2 n n2:Int} (hl:0≤lim) (hn:n≤lim) (hr:r≤24) (n0: -1≤n) (h:(n2= -1∧r2=r+1)∨(n2=n∧r2=r)):((25 - r2)*(lim+2)+(lim+1 - (n2+1))).toNat<((25 - r)*(lim+2)+(lim+1 - n)).toNat:=by
 rcases h with ⟨rfl,rfl⟩|⟨rfl,rfl⟩
 · have e:(25 - (r+1))*(lim+2)=(25 - r)*(lim+2) - (lim+2):=by rw [show (25:Int) - (r+1)=(25 - r) - 1 by omega,Int.sub_mul];omega
   have p:0≤(25 - (r+1))*(lim+2):=Int.mul_nonneg (by omega) (by omega)
   rw [e] at p ⊢
   omega
 · have p:0≤(25 - r2)*(lim+2):=Int.mul_nonneg (by omega) (by omega)
   omega
theorem Q4A {W who f k:Nat} {m:Qb} {n r:Int} (hk:k<W):m.entries+1≤(Yy W who (f+1) m k n r).1.entries:=by
 unfold Yy
 have h:=ZR m (JY (((who+k) % W:Nat):Int))
 rw [if_pos hk]
 simp only
 split
 · split
   · show m.entries+1≤(doV m _).1.entries;omega
   · show m.entries+1≤(doV m _).1.entries;omega
 · have:=Ug W who f (doV m (JY (((who+k) % W:Nat):Int))).1 (k+1) n r
   omega
theorem Q8e {L:List Int} (hL:∀n∈L,0≤n∧n≤255) (i:Nat):UZ L i≤255:=by
 unfold UZ
 split
 · omega
 · rename_i h
   have hi:i % L.length<L.length:=Nat.mod_lt _ (by omega)
   have:=hL (L.getD (i % L.length) 0) (by rw [List.getD_eq_getElem?_getD,List.getElem?_eq_getElem hi];exact List.getElem_mem hi)
   omega
theorem set_b1 {lim n:Int} (hl:lim≤2000000) (h0: -1≤n) (h1:n≤lim):wrap64 (n+1)=n+1∧0≤n+1∧n+1≤lim+1:=by
 unfold wrap64;omega
theorem set_b2 {a b:Int} {i:Nat} (h:(i:Int)≤a) (h1:a+1≤b) (h2:b≤40000000):wrap64 ((i:Int)+1)=((i+1:Nat):Int)∧((i+1:Nat):Int)≤b:=by
 unfold wrap64;omega
theorem Q3x {k:Nat} {W:Int} (h:(k:Int)<W):(W+1 - intOf (.int .i64 ((k:Int)+1))).toNat<(W+1 - intOf (.int .i64 (k:Int))).toNat:=by
 show (W+1 - ((k:Int)+1)).toNat<(W+1 - (k:Int)).toNat
 omega
theorem set_b6 {n lim:Int} (h: -1≤n∧n≤lim): -1≤n+1∧n+1≤lim+1:=by omega
theorem set_b4 {a b d:Int} (h1:a≤b) (h2:d=b+1):a+1≤d:=by omega
theorem set_b5 {a d:Int} (h1:a+1≤d):a≤d:=by omega
theorem Q0G (w:World) (F:List Nat) (b:Bs) (m:Qb) (A:MAt w F b m (2*m.entries)) (hF:∀x∈F,x<w.heap.size) (c:Q0) (hcf:c.fits) (g:Option Addr) (cap:Nat) (L:List Int) (hU:WH w g L) (hL:L.length≤1000) (hg:∀a,g=some a→L≠[]→a.block∉F)
 (E:Int) (Inv:Qb→Prop) (hI:InvA c E Inv) (h0:Inv m) (fuel:Nat) (R:Qb×Bool) (hR:Y5 c.wo.toNat (Hg c) L fuel m 0 0 0=R) (hR2:R.2=true) (hE:R.1.entries≤E):
 Calls Tryz.prog 9 #[pt b.pM,c.val,.slice g L.length cap] w fun e w'=>e=.returned (.bool true)∧∃F',MAt w' F' b R.1 (2*R.1.entries)∧Inv R.1∧Fr F w w'∧∀x∈F',x∈F∨w.heap.size≤x:=by
 have HI:=hid hI
 have hc:(w.alloc (YX c)).heap[w.heap.size]?=some (YX c):=heap_alloc_new w (YX c)
 have f1:=(Fr.refl [] w).alloc (YX c)
 have HM0:=hid (show MM (w.alloc (YX c)) F b m w F w.heap.size c from ⟨A.fr f1 (by simp) (by simp) (by simp),f1.mono (by simp),fun x hx=>.inl hx,fun hx=>by have:=hF _ hx;omega,hc⟩)
 have HU:=hid hU;have HG:=hid hg
 have H0:=hid h0;have HR:=hid hR;have HR2:=hid hR2;have HE:=hid hE
 obtain ⟨hl0,hl1⟩:=lim_lt hcf
 have hfits:=hid hcf
 obtain ⟨⟨wo1,wo2⟩,⟨sl1,sl2⟩, -⟩:=hcf
 have hwr:=hid (show wrap64 (10000*c.wo*(c.sl+c.wo))=Hg c from by
  show wrap64 (Hg c)=Hg c
  unfold wrap64;omega)
 have hw3:=hid (show wrap64 (3*c.wo)=3*c.wo from by unfold wrap64;omega)
 obtain ⟨wo,hwo⟩:∃wo:Nat,c.wo=wo:=⟨c.wo.toNat,by omega⟩
 rw [show c.wo.toNat=wo by omega] at HR
 have HW:=hid hwo
 clear hwo
 clear hc f1 A h0 hR hR2 hE hF hI hU hg
 unfold Q0.val pt
 unfold YX at HM0
 go_in
 go_wp2_with fail
 rw [hwr.out]
 generalize w.alloc (.cells #[.int .i64 c.wo,.int .i64 c.sl,.int .i64 c.st,.int .i64 c.wa,.int .i64 c.us] 30 (0,0))=w1 at HM0 ⊢
 generalize hq:w.heap.size=q at HM0 ⊢
 have HQ:=hid hq
 clear hq
 generalize hlim:Hg c=lim at hl0 hl1 HR ⊢
 clear hwr
 have HLIM:=hid hlim
 clear hlim
 go_loopw [8,9,10,11,12,13,14,15] (fun s8 s9 s10 _ _ _ _ _ wr=>∃(f i:Nat) (m1:Qb) (n r:Int) (F1:List Nat),s8=.int .i64 n∧s9=.int .i64 r∧s10=.int .i64 i∧Y5 wo lim L f m1 i n r=R∧MM wr F1 b m1 w F q c∧Inv m1∧(-1≤n∧n≤lim+1)∧(0≤r∧r≤25)∧(i:Int)≤m1.entries) (fun s8 s9 _ _ _ _ _ _ _=>((25 - intOf s9)*(lim+2)+(lim+1 - intOf s8)).toNat)
 case atStart=>exact ⟨fuel,0,m,0,0,F,rfl,rfl,rfl,HR.out,HM0.out,H0.out,by omega,by omega,(HI.out.i m H0.out).2.1⟩
 case round=>
  obtain ⟨f,i,m1,n,r,F1,rfl,rfl,rfl,hR,hM,hv,⟨n0,n1⟩,⟨r0,r1⟩,hi⟩:=hrel
  cases f with
  |zero=>exact absurd (by rw [←hR];rfl) (show ¬R.2=false by rw [HR2.out];simp)
  |succ f=>
   by_cases hn:n≤lim∧r≤3*c.wo
   · unfold Y5 at hR
     rw [if_pos ⟨hn.1,by rw [←HW.out];exact hn.2⟩] at hR
     simp only at hR
     obtain ⟨hn1,hn2⟩:=hn
     obtain ⟨u,hu⟩:∃u,UZ L i=u:=⟨_,rfl⟩
     rw [hu] at hR
     obtain ⟨D,hD⟩:∃D,Yy wo u wo m1 0 n r=D:=⟨_,rfl⟩
     rw [hD] at hR
     have hDR:D.1.entries≤R.1.entries:=by
      rw [←hR];split
      · exact KM _ _ _ _ _ _ _ _
      · exact Int.le_refl _
     have hmE:=HE.out
     have hEE:=HI.out.e
     have hidR:=hid hR;have hDD:=hid hD;have hMM:=hid hM;have hvv:=hid hv
     have q0:=cl 0 hM.2.2.2.2
     have hu8:=Q8e HU.out.2.1 i
     rw [hu] at hu8
     have hUr:=HU.out.frS hM.2.1 HG.out
     clear hR hM hD
     have h3:=hw3.out
     go_upto_if 39 with fail
     go_cut [11] from 39 to 48 (fun v wx=>wx=wr∧v=.int .i64 (u:Int))
     case first=>
      by_cases hl:0<(L.length:Int)
      · have hnl:L.length≠0:=by omega
        obtain ⟨j,hj⟩:∃j,i % L.length=j:=⟨_,rfl⟩
        have hj1:j<L.length:=by rw [←hj];exact Nat.mod_lt _ (by omega)
        obtain ⟨y,hy⟩:∃y,L[j]?=some y:=⟨_,List.getElem?_eq_getElem hj1⟩
        have hyu:y=(u:Int):=by
         unfold UZ at hu
         rw [if_neg hnl,hj,List.getD_eq_getElem?_getD,hy] at hu
         have:=hUr.2.1 y (List.mem_of_getElem? hy)
         simp only [Option.getD_some] at hu;omega
        obtain ⟨gb,go,hg,hcell⟩:=hUr.2.2 j y hy
        have hjm:(i:Int) % (L.length:Int)=(j:Int):=by rw [←hj];omega
        have hj0:(0:Int)≤(j:Int):=by omega
        have hj2:(j:Int)<(L.length:Int):=by omega
        have hnl':¬(L.length:Int)=0:=by omega
        subst hg
        subst hyu
        clear hj hu hy hUr
        go_wp2_with fail
        go_meet
        case rel=>exact ⟨rfl,rfl⟩
      · have hu0:(0:Int)=(u:Int):=by
         unfold UZ at hu
         rw [if_pos (by omega)] at hu;omega
        go_wp2_with fail
        go_meet
        case rel=>exact ⟨rfl,by first|rfl|rw [hu0]⟩
     case rest=>
      obtain ⟨hwc,rfl⟩:=hcut
      rw [hwc]
      clear hwc hUr hu
      go_wp2_with fail
      go_loopw [8,9,12,13,14,15] (fun s8 s9 s12 s13 _ _ wz=>∃(k:Nat) (m2:Qb) (F2:List Nat) (n2 r2:Int) (did:Bool),s8=.int .i64 n2∧s9=.int .i64 r2∧s12=.bool did∧s13=.int .i64 k∧MM wz F2 b m2 w F q c∧Inv m2∧(k:Int)≤c.wo∧
       ((did=false∧n2=n∧r2=r∧Yy wo u (wo - k) m2 k n r=D∧m1.entries≤m2.entries)∨(did=true∧D=(m2,true,n2,r2)∧((n2= -1∧r2=r+1)∨(n2=n∧r2=r))∧m1.entries+1≤m2.entries))) (fun _ _ _ s13 _ _ _=>(c.wo+1 - intOf s13).toNat)
      case atStart=>exact ⟨0,m1,F1,n,r,false,rfl,rfl,rfl,rfl,hMM.out,hvv.out,by omega,.inl ⟨rfl,rfl,rfl,hDD.out,Int.le_refl _⟩⟩
      case round=>
       obtain ⟨k,m2,F2,n2,r2,did,rfl,rfl,rfl,rfl,hM2,hv2,hk,hcase⟩:=hrel
       have q1:=cl 0 hM2.2.2.2.2
       rcases hcase with ⟨rfl,en2,er2,hD2,hm12⟩|⟨rfl,hD2,hnr,hm12⟩
       · subst en2;subst er2
         by_cases hkk:(k:Int)<c.wo
         · have hkw:k<wo:=by have:=HW.out;omega
           obtain ⟨g,hg⟩:∃g,wo - k=g+1:=⟨wo - k - 1,by omega⟩
           rw [hg] at hD2
           obtain ⟨wn,hwn⟩:∃wn,(u+k) % wo=wn:=⟨_,rfl⟩
           have hwn1:wn<wo:=by rw [←hwn];exact Nat.mod_lt _ (by omega)
           have hmod:((u:Int)+(k:Int)) % c.wo=(wn:Int):=by rw [HW.out,←hwn];rfl
           have hx1:=Q4A (W:=wo) (who:=u) (f:=g) (k:=k) (m:=m2) (n:=n2) (r:=r2) hkw
           rw [hD2] at hx1
           obtain ⟨i1,i2,i3⟩:=HI.out.i m2 hv2
           have hdo:=hM2.do_ i1 (by omega) i2 (by omega) (JY wn)
           have hiv:=HI.out.s m2 wn hv2 (by omega) (by omega) (by rw [HW.out];omega)
           have hen:=ZR m2 (JY wn)
           unfold Yy at hD2
           rw [if_pos hkw] at hD2
           simp only [hwn] at hD2
           have hws:=(HI.out.i _ hiv).1.wl
           rw [(HI.out.i _ hiv).2.2,HW.out] at hws
           generalize doV m2 (JY wn)=d at hdo hiv hen hD2 hws
           obtain ⟨m5,did⟩:=d
           dsimp only at hdo hiv hen hD2 hws
           unfold QF.val JY K8 at hdo
           dsimp only at hdo
           have HDO:=hid hdo;have HD2:=hid hD2;have HIV:=hid hiv
           have hwo0:¬c.wo=0:=by omega
           have HG1:=hid hg;have HWN:=hid hwn;have HEN:=hid hen;have HWS:=hid hws;have HM12:=hid hm12
           clear hdo hD2 hiv hM2 hv2 hx1 hg hwn i1 i2 i3 hen hws hm12
           go_wp2_with fail
           refine (HDO.out).mono ?_
           rintro e w5 ⟨rfl,F5,hM5⟩
           have HM5:=hid hM5
           clear hM5
           go_wp2_with fail
           refine (HM5.out.1.state (who:=wn) (by have:=HWS.out;omega)).mono ?_
           rintro e w6 ⟨rfl,f6⟩
           have HM6:=hid (HM5.out.fr f6)
           have q2:=cl 0 HM6.out.2.2.2.2
           clear f6 HM5 q1 HDO
           obtain ⟨st,hst⟩:∃st,(m5.wk wn).st=st:=⟨_,rfl⟩
           have hd3:=HD2.out
           rw [hst] at hd3 ⊢
           clear hst HD2
           have hk1:((k+1:Nat):Int)≤c.wo:=by omega
           have hen1:m1.entries+1≤m5.entries:=set_b4 HM12.out HEN.out
           have HEN1:=hid hen1
           clear hen1
           cases did with
           |false=>
            rw [if_neg (by simp)] at hd3
            rw [show g=wo - (k+1) by have:=HG1.out;omega] at hd3
            have HD3:=hid hd3
            clear hd3
            have HK1:=hid hk1
            clear hk1
            go_wp2
            exact ⟨⟨k+1,m5,F5,n2,r2,false,rfl,rfl,rfl,rfl,HM6.out,HIV.out,HK1.out,.inl ⟨rfl,rfl,rfl,HD3.out,set_b5 HEN1.out⟩⟩,Q3x hkk⟩
           |true=>
            rw [if_pos rfl] at hd3
            by_cases e0:st=0
            · rw [if_pos (.inl e0)] at hd3
              have d0:(st==0)=true:=by simp [e0]
              clear e0
              have HD3:=hid hd3
              clear hd3
              have HK1:=hid hk1
              clear hk1
              go_wp2
              exact ⟨⟨k+1,m5,F5, -1,r2+1,true,rfl,rfl,rfl,rfl,HM6.out,HIV.out,HK1.out,.inr ⟨rfl,HD3.out.symm,.inl ⟨rfl,rfl⟩,HEN1.out⟩⟩,Q3x hkk⟩
            · by_cases e6:st=6
              · rw [if_pos (.inr e6)] at hd3
                have d0:(st==0)=false:=by simp [e0]
                have d6:(st==6)=true:=by simp [e6]
                clear e0 e6
                have HD3:=hid hd3
                clear hd3
                have HK1:=hid hk1
                clear hk1
                go_wp2
                exact ⟨⟨k+1,m5,F5, -1,r2+1,true,rfl,rfl,rfl,rfl,HM6.out,HIV.out,HK1.out,.inr ⟨rfl,HD3.out.symm,.inl ⟨rfl,rfl⟩,HEN1.out⟩⟩,Q3x hkk⟩
              · rw [if_neg (fun h=>h.elim e0 e6)] at hd3
                have d0:(st==0)=false:=by simp [e0]
                have d6:(st==6)=false:=by simp [e6]
                clear e0 e6
                have HD3:=hid hd3
                clear hd3
                have HK1:=hid hk1
                clear hk1
                go_wp2
                exact ⟨⟨k+1,m5,F5,n2,r2,true,rfl,rfl,rfl,rfl,HM6.out,HIV.out,HK1.out,.inr ⟨rfl,HD3.out.symm,.inr ⟨rfl,rfl⟩,HEN1.out⟩⟩,Q3x hkk⟩
         · have hk2:k=wo:=by have:=HW.out;omega
           have HM2:=hid hM2;have HV2:=hid hv2
           have e:D=(m2,false,n2,r2):=by rw [←hD2,hk2,Nat.sub_self];rfl
           have E1:=hid e
           clear hM2 hD2 hv2 e
           go_wp2
           go_ret
           have eR:=hidR.out
           rw [E1.out] at eR
           have eR2:R=(m2,true):=by rw [←eR];rfl
           rw [eR2]
           exact ⟨rfl,F2,HM2.out.1,HV2.out,HM2.out.2.1,HM2.out.2.2.1⟩
       · have HM2:=hid hM2;have HD2:=hid hD2;have HV2:=hid hv2
         have eR:=hidR.out
         rw [hD2] at eR hDR
         replace hDR:m2.entries≤R.1.entries:=hDR
         replace eR:Y5 wo lim L f m2 (i+1) (n2+1) r2=R:=eR
         have hn2b: -1≤n2∧n2≤lim:=by omega
         obtain ⟨w1, -⟩:=set_b1 hl1 hn2b.1 hn2b.2
         obtain ⟨w2,w3⟩:=set_b2 (i:=i) hi hm12 (Int.le_trans hDR (Int.le_trans hmE hEE))
         have hms:=Q8F hl0 hn1 (by omega) n0 hnr
         have hr2:0≤r2∧r2≤25:=by omega
         have HER:=hid eR;have W1:=hid w1;have W2:=hid w2;have W3:=hid w3;have HMS:=hid hms;have HR2B:=hid hr2;have HNB:=hid (set_b6 hn2b)
         clear hM2 hD2 hv2 hnr eR w1 w2 w3 hms
         by_cases hkk:(k:Int)<c.wo
         · go_wp2
           exact ⟨⟨f,i+1,m2,n2+1,r2,F2,rfl,rfl,rfl,HER.out,HM2.out,HV2.out,HNB.out,HR2B.out,W3.out⟩,HMS.out⟩
         · go_wp2
           exact ⟨⟨f,i+1,m2,n2+1,r2,F2,rfl,rfl,rfl,HER.out,HM2.out,HV2.out,HNB.out,HR2B.out,W3.out⟩,HMS.out⟩
   · unfold Y5 at hR
     rw [if_neg (by rw [←HW.out];exact hn)] at hR
     exact absurd (by rw [←hR]) (show ¬R.2=false by rw [HR2.out];simp)
theorem Vf {w:World} {g off cap:Nat} {evs:List EvV} (h:Xn w (.slice (some ⟨g,off,none⟩) evs.length cap) evs) {k:Nat} {x:EvV} (hx:evs[k]?=some x) {j:Nat} {u:Value} (hj:x.cells[j]?=some u):w.cell? ⟨g,off+k*18+j,none⟩=some u:=by
 have hjl:j<18:=by have:=(List.getElem?_eq_some_iff.1 hj).1;rwa [XR] at this
 have h2:=QX.cell h (j:=k*18+j) (u:=u) (by rw [Q03 evs k j x hx hjl];exact hj)
 rw [←Nat.add_assoc] at h2
 exact h2
theorem Q5l (w:World) (a:Option Addr) (cap:Nat) (evs:List EvV) (he:Xn w (.slice a evs.length cap) evs) (hn:evs.length≤100000) (who:Int):
 Calls Tryz.prog 35 #[.slice a evs.length cap,.int .i64 who] w fun e w'=>∃s g:Int,e=.returned (.tuple #[.int .i64 s,.int .i64 g])∧Fr [] w w':=by
 obtain ⟨len,hln⟩:∃len,evs.length=len:=⟨_,rfl⟩
 have HE:=hid he;have HLN:=hid hln
 rw [hln] at hn ⊢
 clear he hln
 have hwr:wrap64 ((len:Int) - 1)=(len:Int) - 1:=by unfold wrap64;omega
 go_in
 go_wp2_with fail
 go_loopw [6] (fun s6 wr=>∃i:Nat,i≤len∧s6=.int .i64 ((i:Int) - 1)∧Fr [] w wr) (fun s6 _=>(intOf s6+1).toNat)
 case atStart=>exact ⟨len,Nat.le_refl _,rfl,Fr.refl _ _⟩
 case round=>
  obtain ⟨i,hi,rfl,f4⟩:=hrel
  cases i with
  |zero=>
   go_wp2
   go_ret2
   exact ⟨0,0,rfl,f4⟩
  |succ j=>
   rw [show ((j+1:Nat):Int) - 1=(j:Int) by omega]
   have hj:j<len:=by omega
   have hj0:(0:Int)≤(j:Int):=by omega
   have hj1:(j:Int)<len:=by omega
   obtain ⟨x,hx⟩:∃x,evs[j]?=some x:=⟨_,List.getElem?_eq_getElem (by rw [HLN.out];exact hj)⟩
   have he:=QX.fr HE.out f4 (by simp)
   have he':=he
   rw [HLN.out] at he'
   rcases he'.2 with ⟨_,h0⟩|⟨g,off,cap',cur,hval,hg, -⟩
   · omega
   simp only [Value.slice.injEq,true_and] at hval
   obtain ⟨rfl, -⟩:=hval
   have q0:=Vf he hx (j:=0) rfl;have q1:=Vf he hx (j:=1) rfl;have q3:=Vf he hx (j:=3) rfl;have q10:=Vf he hx (j:=10) rfl;have q11:=Vf he hx (j:=11) rfl;have q12:=Vf he hx (j:=12) rfl
   rw [Nat.add_zero] at q0
   obtain ⟨ended,xwho,at_,⟨aop,adl,awt,afc,asl,agn,ast⟩,e,slot,gen,stream,cI,cL,cE,cO⟩:=x
   dsimp only at q0 q1 q3 q10 q11 q12
   have HF:=hid f4
   clear he he' hg hx f4
   have hwj:wrap64 ((j:Int) - 1)=(j:Int) - 1:=by unfold wrap64;omega
   cases ended with
   |false=>
    go_wp2
    exact ⟨⟨j,by omega,by go_num,HF.out⟩,by simp [intOf]<;>omega⟩
   |true=>
    by_cases e1:xwho=who
    · have d1:(xwho==who)=true:=by simp [e1]
      clear e1
      by_cases e2:aop=0
      · have d2:(aop==0)=true:=by simp [e2]
        clear e2
        by_cases e3:e=0
        · have d3:(e==0)=true:=by simp [e3]
          clear e3
          go_wp2_with fail
          go_region
          all_goals go_wp2
          all_goals go_ret2
          all_goals exact ⟨slot,gen,rfl,HF.out.drew⟩
        · have d3:(e==0)=false:=by simp [e3]
          clear e3
          go_wp2
          exact ⟨⟨j,by omega,by go_num,HF.out⟩,by simp [intOf]<;>omega⟩
      · have d2:(aop==0)=false:=by simp [e2]
        clear e2
        go_wp2
        exact ⟨⟨j,by omega,by go_num,HF.out⟩,by simp [intOf]<;>omega⟩
    · have d1:(xwho==who)=false:=by simp [e1]
      clear e1
      go_wp2
      exact ⟨⟨j,by omega,by go_num,HF.out⟩,by simp [intOf]<;>omega⟩
end
section
variable {n:Int} {m m':Qb} {w:Nat} {c:Q0} {M M':List Int} {k:Qa}
theorem Same.ZK (h:Same c M M') (t:Tw2):ZK c M' t↔ZK c M t:=by unfold Go.Proofs.YtgjklfmnmljilaaGreatDoor.ZK;rw [h.cur]
theorem Same.gR (h:Same c M M') (r:Qy):gR c M' r=gR c M r:=by unfold Go.Proofs.YtgjklfmnmljilaaGreatDoor.gR rR;simp only [h.mt]
theorem Same.cR (h:Same c M M') (t:Tw2):cR c M' t=cR c M t:=by unfold Go.Proofs.YtgjklfmnmljilaaGreatDoor.cR;rw [h.twR];simp only [h.ZK]
def Alike (m m':Qb):Prop:=m'.c=m.c∧m'.M=m.M∧m'.ws=m.ws∧m'.now=m.now∧m'.evs=m.evs
theorem Alike.refl (m:Qb):Alike m m:=⟨rfl,rfl,rfl,rfl,rfl⟩
theorem Alike.trans {a b d:Qb} (h:Alike a b) (g:Alike b d):Alike a d:=⟨g.1.trans h.1,g.2.1.trans h.2.1,g.2.2.1.trans h.2.2.1,g.2.2.2.1.trans h.2.2.2.1,g.2.2.2.2.trans h.2.2.2.2⟩
theorem Alike.wk (h:Alike m m') (k:Nat):m'.wk k=m.wk k:=by unfold Qb.wk;rw [h.2.2.1]
end
section
variable {m m':Qb} {w:Nat} {c:Q0}
theorem GN {J:Qb→Prop} (u W:Nat) (h0:0<W) (hJ:∀m (w:Nat),w<W→J m→J (doV m (JY w)).1):∀(f k:Nat) (m:Qb) (n r:Int),J m→J (Yy W u f m k n r).1:=by
 intro f
 induction f with
 |zero=>intro k m n r h;exact h
 |succ f ih=>
  intro k m n r h
  unfold Yy
  split
  · have hwn:(u+k) % W<W:=Nat.mod_lt _ h0
    have H:=hJ m _ hwn h
    simp only
    split
    · split
      · exact H
      · exact H
    · exact ih _ _ _ _ H
  · exact h
theorem Q2m {J:Qb→Prop} (W:Nat) (lim:Int) (order:List Int) (h0:0<W) (hJ:∀m (w:Nat),w<W→J m→J (doV m (JY w)).1):∀(f:Nat) (m:Qb) (i:Nat) (n r:Int),J m→J (Y5 W lim order f m i n r).1:=by
 intro f
 induction f with
 |zero=>intro m i n r h;exact h
 |succ f ih=>
  intro m i n r h
  unfold Y5
  split
  · simp only
    split
    · exact ih _ _ _ _ (GN _ W h0 hJ W 0 m n r h)
    · exact GN _ W h0 hJ W 0 m n r h
  · exact h
end
end Go.Proofs.YtgjklfmnmljilaaGreatDoor

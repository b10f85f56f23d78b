/- A part of the proof: TsI to TqU. -/
import Derived.Test.YtgjklfmnmljilaaGreatDoorZS03
import Derived.Test.YtgjklfmnmljilaaGreatDoorZS44
import Derived.Test.YtgjklfmnmljilaaGreatDoorZS48
import Derived.Deep.CutBlock
namespace Go.Proofs.YtgjklfmnmljilaaGreatDoor
set_option linter.unusedVariables false
set_option linter.unusedSimpArgs false
set_option linter.unusedSectionVars false
set_option linter.unnecessarySimpa false
set_option maxRecDepth 100000
set_option maxHeartbeats 8000000
section
open Go.RowKit Go.Shelf Go.Lib
attribute [local go_sem] Oper.semAt_some
def XU (c:Q0):Obj:=.cells #[.int .i64 c.wo,.int .i64 c.sl,.int .i64 c.st,.int .i64 c.wa,.int .i64 c.us] 30 (0,0)
def MM (w:World) (F:List Nat) (b:Bs) (m:Qb) (w0:World) (F0:List Nat) (q:Nat) (c:Q0):Prop:=MAt w F b m (2*m.entries)∧Fr F0 w0 w∧(∀x∈F,x∈F0∨w0.heap.size≤x)∧q∉F∧w.heap[q]?=some (XU c)
structure InvA (c:Q0) (E:Int) (Inv:Qb→Prop):Prop where
 i:∀m,Inv m→MInv m.entries m∧0≤m.entries∧m.c=c
 s:∀m w,Inv m→m.entries<E→0≤w→w<c.wo→Inv (doV m (Jj w)).1
 e:E≤40000000
theorem MM.do_ {w:World} {F:List Nat} {b:Bs} {m:Qb} {w0:World} {F0:List Nat} {q:Nat} {c:Q0} (H:MM w F b m w0 F0 q c) {n:Int} (hI:MInv n m) (hn:n≤1000000000) (h0:0≤m.entries) (hE:m.entries≤40000000) (x:Qy):
 Calls Tryz.prog 11 #[pt b.pM,x.val] w fun e w'=>e=.returned (.bool (doV m x).2)∧∃F',MM w' F' b (doV m x).1 w0 F0 q c:=by
 obtain ⟨A,f,hF,hq,hc⟩:=H
 refine (A.do_ hI (by omega) hn h0 (by omega) x).mono ?_
 rintro e w' ⟨e1,F',A',g,hF'⟩
 have hlt:=Q8 hc
 refine ⟨e1,F', ?_,f.then g fun y hy=>hF y hy,fun y hy=> ?_,fun hm=> ?_,g.at hc hq⟩
 · have e2:=ZN m x
   rw [e2,show 2*(m.entries+1)=2*m.entries+2 by omega];exact A'
 · rcases hF' y hy with a|a
   · exact hF y a
   · exact .inr (Nat.le_trans f.size a)
 · rcases hF' q hm with a|a
   · exact hq a
   · omega
theorem MM.fr {w w':World} {F:List Nat} {b:Bs} {m:Qb} {w0:World} {F0:List Nat} {q:Nat} {c:Q0} (H:MM w F b m w0 F0 q c) (f:Fr [] w w'):MM w' F b m w0 F0 q c:=
 ⟨H.1.fr f (by simp) (by simp) (by simp),H.2.1.then f (by simp),H.2.2.1,H.2.2.2.1,f.at H.2.2.2.2 (by simp)⟩
theorem Vd.frS {S:List Nat} {w w':World} {g:Option Addr} {L:List Int} (h:Vd w g L) (f:Fr S w w') (hS:∀a,g=some a→L≠[]→a.block∉S):Vd w' g L:=
 ⟨h.1,h.2.1,fun j y hy=>by
   obtain ⟨b,o,hg,hc⟩:=h.2.2 j y hy
   exact ⟨b,o,hg,f.cell hc (hS ⟨b,o,none⟩ hg (fun e=>by rw [e] at hy;simp at hy))⟩⟩
theorem lim_lt {c:Q0} (hc:c.fits):0≤ZG c∧ZG c≤2000000:=by
 obtain ⟨⟨a,b⟩,⟨d,e⟩, -⟩:=hc
 unfold ZG
 have h1:0≤c.wo*(c.sl+c.wo):=Int.mul_nonneg (by omega) (by omega)
 have h2:c.wo*(c.sl+c.wo)≤8*24:=Int.mul_le_mul (by omega) (by omega) (by omega) (by omega)
 rw [Int.mul_assoc];omega
theorem Q84 {lim r r2 n n2:Int} (hl:0≤lim) (hn:n≤lim) (hr:r≤24) (n0: -1≤n) (h:(n2= -1∧r2=r+1)∨(n2=n∧r2=r)):((25 - r2)*(lim+2)+(lim+1 - (n2+1))).toNat<((25 - r)*(lim+2)+(lim+1 - n)).toNat:=by
 rcases h with ⟨rfl,rfl⟩|⟨rfl,rfl⟩
 · have e:(25 - (r+1))*(lim+2)=(25 - r)*(lim+2) - (lim+2):=by rw [show (25:Int) - (r+1)=(25 - r) - 1 by omega,Int.sub_mul];omega
   have p:0≤(25 - (r+1))*(lim+2):=Int.mul_nonneg (by omega) (by omega)
   rw [e] at p ⊢
   omega
 · have p:0≤(25 - r2)*(lim+2):=Int.mul_nonneg (by omega) (by omega)
   omega
theorem Q46 {W who f k:Nat} {m:Qb} {n r:Int} (hk:k<W):m.entries+1≤(Jy W who (f+1) m k n r).1.entries:=by
 unfold Jy
 have h:=ZN m (Jj (((who+k) % W:Nat):Int))
 rw [if_pos hk]
 simp only
 split
 · split
   · show m.entries+1≤(doV m _).1.entries;omega
   · show m.entries+1≤(doV m _).1.entries;omega
 · have:=U4 W who f (doV m (Jj (((who+k) % W:Nat):Int))).1 (k+1) n r
   omega
theorem Q7E {L:List Int} (hL:∀n∈L,0≤n∧n≤255) (i:Nat):Za L i≤255:=by
 unfold Za
 split
 · omega
 · rename_i h
   have hi:i % L.length<L.length:=Nat.mod_lt _ (by omega)
   have:=hL (L.getD (i % L.length) 0) (by rw [List.getD_eq_getElem?_getD,List.getElem?_eq_getElem hi];exact List.getElem_mem hi)
   omega
theorem set_b1 {lim n:Int} (hl:lim≤2000000) (h0: -1≤n) (h1:n≤lim):wrap64 (n+1)=n+1∧0≤n+1∧n+1≤lim+1:=by
 unfold wrap64;omega
theorem set_b2 {a b:Int} {i:Nat} (h:(i:Int)≤a) (h1:a+1≤b) (h2:b≤40000000):wrap64 ((i:Int)+1)=((i+1:Nat):Int)∧((i+1:Nat):Int)≤b:=by
 unfold wrap64;omega
theorem Q31 {k:Nat} {W:Int} (h:(k:Int)<W):(W+1 - intOf (.int .i64 ((k:Int)+1))).toNat<(W+1 - intOf (.int .i64 (k:Int))).toNat:=by
 show (W+1 - ((k:Int)+1)).toNat<(W+1 - (k:Int)).toNat
 omega
theorem set_b6 {n lim:Int} (h: -1≤n∧n≤lim): -1≤n+1∧n+1≤lim+1:=by omega
theorem set_b4 {a b d:Int} (h1:a≤b) (h2:d=b+1):a+1≤d:=by omega
theorem set_b5 {a d:Int} (h1:a+1≤d):a≤d:=by omega
theorem Gs (w:World) (F:List Nat) (b:Bs) (m:Qb) (A:MAt w F b m (2*m.entries)) (hF:∀x∈F,x<w.heap.size) (c:Q0) (hcf:c.fits) (g:Option Addr) (cap:Nat) (L:List Int) (hU:Vd w g L) (hL:L.length≤1000) (hg:∀a,g=some a→L≠[]→a.block∉F)
 (E:Int) (Inv:Qb→Prop) (hI:InvA c E Inv) (h0:Inv m) (fuel:Nat) (R:Qb×Bool) (hR:Z0 c.wo.toNat (ZG c) L fuel m 0 0 0=R) (hR2:R.2=true) (hE:R.1.entries≤E):
 Calls Tryz.prog 9 #[pt b.pM,c.val,.slice g L.length cap] w fun e w'=>e=.returned (.bool true)∧∃F',MAt w' F' b R.1 (2*R.1.entries)∧Inv R.1∧Fr F w w'∧∀x∈F',x∈F∨w.heap.size≤x:=by
 have HI:=hid hI
 have hc:(w.alloc (XU c)).heap[w.heap.size]?=some (XU c):=heap_alloc_new w (XU c)
 have f1:=(Fr.refl [] w).alloc (XU c)
 have HM0:=hid (show MM (w.alloc (XU c)) F b m w F w.heap.size c from ⟨A.fr f1 (by simp) (by simp) (by simp),f1.mono (by simp),fun x hx=>.inl hx,fun hx=>by have:=hF _ hx;omega,hc⟩)
 have HU:=hid hU;have HG:=hid hg
 have H0:=hid h0;have HR:=hid hR;have HR2:=hid hR2;have HE:=hid hE
 obtain ⟨hl0,hl1⟩:=lim_lt hcf
 have hfits:=hid hcf
 obtain ⟨⟨wo1,wo2⟩,⟨sl1,sl2⟩, -⟩:=hcf
 have hwr:=hid (show wrap64 (10000*c.wo*(c.sl+c.wo))=ZG c from by
  show wrap64 (ZG c)=ZG c
  unfold wrap64;omega)
 have hw3:=hid (show wrap64 (3*c.wo)=3*c.wo from by unfold wrap64;omega)
 obtain ⟨wo,hwo⟩:∃wo:Nat,c.wo=wo:=⟨c.wo.toNat,by omega⟩
 rw [show c.wo.toNat=wo by omega] at HR
 have HW:=hid hwo
 clear hwo
 clear hc f1 A h0 hR hR2 hE hF hI hU hg
 unfold Q0.val pt
 unfold XU at HM0
 go_in
 go_wp2_with fail
 rw [hwr.out]
 generalize w.alloc (.cells #[.int .i64 c.wo,.int .i64 c.sl,.int .i64 c.st,.int .i64 c.wa,.int .i64 c.us] 30 (0,0))=w1 at HM0 ⊢
 generalize hq:w.heap.size=q at HM0 ⊢
 have HQ:=hid hq
 clear hq
 generalize hlim:ZG c=lim at hl0 hl1 HR ⊢
 clear hwr
 have HLIM:=hid hlim
 clear hlim
 go_loopw [8,9,10,11,12,13,14,15] (fun s8 s9 s10 _ _ _ _ _ wr=>∃(f i:Nat) (m1:Qb) (n r:Int) (F1:List Nat),s8=.int .i64 n∧s9=.int .i64 r∧s10=.int .i64 i∧Z0 wo lim L f m1 i n r=R∧MM wr F1 b m1 w F q c∧Inv m1∧(-1≤n∧n≤lim+1)∧(0≤r∧r≤25)∧(i:Int)≤m1.entries) (fun s8 s9 _ _ _ _ _ _ _=>((25 - intOf s9)*(lim+2)+(lim+1 - intOf s8)).toNat)
 case atStart=>exact ⟨fuel,0,m,0,0,F,rfl,rfl,rfl,HR.out,HM0.out,H0.out,by omega,by omega,(HI.out.i m H0.out).2.1⟩
 case round=>
  obtain ⟨f,i,m1,n,r,F1,rfl,rfl,rfl,hR,hM,hv,⟨n0,n1⟩,⟨r0,r1⟩,hi⟩:=hrel
  cases f with
  |zero=>exact absurd (by rw [←hR];rfl) (show ¬R.2=false by rw [HR2.out];simp)
  |succ f=>
   by_cases hn:n≤lim∧r≤3*c.wo
   · unfold Z0 at hR
     rw [if_pos ⟨hn.1,by rw [←HW.out];exact hn.2⟩] at hR
     simp only at hR
     obtain ⟨hn1,hn2⟩:=hn
     obtain ⟨u,hu⟩:∃u,Za L i=u:=⟨_,rfl⟩
     rw [hu] at hR
     obtain ⟨D,hD⟩:∃D,Jy wo u wo m1 0 n r=D:=⟨_,rfl⟩
     rw [hD] at hR
     have hDR:D.1.entries≤R.1.entries:=by
      rw [←hR];split
      · exact KE _ _ _ _ _ _ _ _
      · exact Int.le_refl _
     have hmE:=HE.out
     have hEE:=HI.out.e
     have hidR:=hid hR;have hDD:=hid hD;have hMM:=hid hM;have hvv:=hid hv
     have q0:=cl 0 hM.2.2.2.2
     have hu8:=Q7E HU.out.2.1 i
     rw [hu] at hu8
     have hUr:=HU.out.frS hM.2.1 HG.out
     clear hR hM hD
     have h3:=hw3.out
     go_upto_if 39 with fail
     go_cut [11] from 39 to 48 (fun v wx=>wx=wr∧v=.int .i64 (u:Int))
     case first=>
      by_cases hl:0<(L.length:Int)
      · have hnl:L.length≠0:=by omega
        obtain ⟨j,hj⟩:∃j,i % L.length=j:=⟨_,rfl⟩
        have hj1:j<L.length:=by rw [←hj];exact Nat.mod_lt _ (by omega)
        obtain ⟨y,hy⟩:∃y,L[j]?=some y:=⟨_,List.getElem?_eq_getElem hj1⟩
        have hyu:y=(u:Int):=by
         unfold Za at hu
         rw [if_neg hnl,hj,List.getD_eq_getElem?_getD,hy] at hu
         have:=hUr.2.1 y (List.mem_of_getElem? hy)
         simp only [Option.getD_some] at hu;omega
        obtain ⟨gb,go,hg,hcell⟩:=hUr.2.2 j y hy
        have hjm:(i:Int) % (L.length:Int)=(j:Int):=by rw [←hj];omega
        have hj0:(0:Int)≤(j:Int):=by omega
        have hj2:(j:Int)<(L.length:Int):=by omega
        have hnl':¬(L.length:Int)=0:=by omega
        subst hg
        subst hyu
        clear hj hu hy hUr
        go_wp2_with fail
        go_meet
        case rel=>exact ⟨rfl,rfl⟩
      · have hu0:(0:Int)=(u:Int):=by
         unfold Za at hu
         rw [if_pos (by omega)] at hu;omega
        go_wp2_with fail
        go_meet
        case rel=>exact ⟨rfl,by first|rfl|rw [hu0]⟩
     case rest=>
      obtain ⟨hwc,rfl⟩:=hcut
      rw [hwc]
      clear hwc hUr hu
      go_wp2_with fail
      go_loopw [8,9,12,13,14,15] (fun s8 s9 s12 s13 _ _ wz=>∃(k:Nat) (m2:Qb) (F2:List Nat) (n2 r2:Int) (did:Bool),s8=.int .i64 n2∧s9=.int .i64 r2∧s12=.bool did∧s13=.int .i64 k∧MM wz F2 b m2 w F q c∧Inv m2∧(k:Int)≤c.wo∧
       ((did=false∧n2=n∧r2=r∧Jy wo u (wo - k) m2 k n r=D∧m1.entries≤m2.entries)∨(did=true∧D=(m2,true,n2,r2)∧((n2= -1∧r2=r+1)∨(n2=n∧r2=r))∧m1.entries+1≤m2.entries))) (fun _ _ _ s13 _ _ _=>(c.wo+1 - intOf s13).toNat)
      case atStart=>exact ⟨0,m1,F1,n,r,false,rfl,rfl,rfl,rfl,hMM.out,hvv.out,by omega,.inl ⟨rfl,rfl,rfl,hDD.out,Int.le_refl _⟩⟩
      case round=>
       obtain ⟨k,m2,F2,n2,r2,did,rfl,rfl,rfl,rfl,hM2,hv2,hk,hcase⟩:=hrel
       have q1:=cl 0 hM2.2.2.2.2
       rcases hcase with ⟨rfl,en2,er2,hD2,hm12⟩|⟨rfl,hD2,hnr,hm12⟩
       · subst en2;subst er2
         by_cases hkk:(k:Int)<c.wo
         · have hkw:k<wo:=by have:=HW.out;omega
           obtain ⟨g,hg⟩:∃g,wo - k=g+1:=⟨wo - k - 1,by omega⟩
           rw [hg] at hD2
           obtain ⟨wn,hwn⟩:∃wn,(u+k) % wo=wn:=⟨_,rfl⟩
           have hwn1:wn<wo:=by rw [←hwn];exact Nat.mod_lt _ (by omega)
           have hmod:((u:Int)+(k:Int)) % c.wo=(wn:Int):=by rw [HW.out,←hwn];rfl
           have hx1:=Q46 (W:=wo) (who:=u) (f:=g) (k:=k) (m:=m2) (n:=n2) (r:=r2) hkw
           rw [hD2] at hx1
           obtain ⟨i1,i2,i3⟩:=HI.out.i m2 hv2
           have hdo:=hM2.do_ i1 (by omega) i2 (by omega) (Jj wn)
           have hiv:=HI.out.s m2 wn hv2 (by omega) (by omega) (by rw [HW.out];omega)
           have hen:=ZN m2 (Jj wn)
           unfold Jy at hD2
           rw [if_pos hkw] at hD2
           simp only [hwn] at hD2
           have hws:=(HI.out.i _ hiv).1.wl
           rw [(HI.out.i _ hiv).2.2,HW.out] at hws
           generalize doV m2 (Jj wn)=d at hdo hiv hen hD2 hws
           obtain ⟨m5,did⟩:=d
           dsimp only at hdo hiv hen hD2 hws
           unfold Qy.val Jj VY at hdo
           dsimp only at hdo
           have HDO:=hid hdo;have HD2:=hid hD2;have HIV:=hid hiv
           have hwo0:¬c.wo=0:=by omega
           have HG1:=hid hg;have HWN:=hid hwn;have HEN:=hid hen;have HWS:=hid hws;have HM12:=hid hm12
           clear hdo hD2 hiv hM2 hv2 hx1 hg hwn i1 i2 i3 hen hws hm12
           go_wp2_with fail
           refine (HDO.out).mono ?_
           rintro e w5 ⟨rfl,F5,hM5⟩
           have HM5:=hid hM5
           clear hM5
           go_wp2_with fail
           refine (HM5.out.1.state (who:=wn) (by have:=HWS.out;omega)).mono ?_
           rintro e w6 ⟨rfl,f6⟩
           have HM6:=hid (HM5.out.fr f6)
           have q2:=cl 0 HM6.out.2.2.2.2
           clear f6 HM5 q1 HDO
           obtain ⟨st,hst⟩:∃st,(m5.wk wn).st=st:=⟨_,rfl⟩
           have hd3:=HD2.out
           rw [hst] at hd3 ⊢
           clear hst HD2
           have hk1:((k+1:Nat):Int)≤c.wo:=by omega
           have hen1:m1.entries+1≤m5.entries:=set_b4 HM12.out HEN.out
           have HEN1:=hid hen1
           clear hen1
           cases did with
           |false=>
            rw [if_neg (by simp)] at hd3
            rw [show g=wo - (k+1) by have:=HG1.out;omega] at hd3
            have HD3:=hid hd3
            clear hd3
            have HK1:=hid hk1
            clear hk1
            go_wp2
            exact ⟨⟨k+1,m5,F5,n2,r2,false,rfl,rfl,rfl,rfl,HM6.out,HIV.out,HK1.out,.inl ⟨rfl,rfl,rfl,HD3.out,set_b5 HEN1.out⟩⟩,Q31 hkk⟩
           |true=>
            rw [if_pos rfl] at hd3
            by_cases e0:st=0
            · rw [if_pos (.inl e0)] at hd3
              have d0:(st==0)=true:=by simp [e0]
              clear e0
              have HD3:=hid hd3
              clear hd3
              have HK1:=hid hk1
              clear hk1
              go_wp2
              exact ⟨⟨k+1,m5,F5, -1,r2+1,true,rfl,rfl,rfl,rfl,HM6.out,HIV.out,HK1.out,.inr ⟨rfl,HD3.out.symm,.inl ⟨rfl,rfl⟩,HEN1.out⟩⟩,Q31 hkk⟩
            · by_cases e6:st=6
              · rw [if_pos (.inr e6)] at hd3
                have d0:(st==0)=false:=by simp [e0]
                have d6:(st==6)=true:=by simp [e6]
                clear e0 e6
                have HD3:=hid hd3
                clear hd3
                have HK1:=hid hk1
                clear hk1
                go_wp2
                exact ⟨⟨k+1,m5,F5, -1,r2+1,true,rfl,rfl,rfl,rfl,HM6.out,HIV.out,HK1.out,.inr ⟨rfl,HD3.out.symm,.inl ⟨rfl,rfl⟩,HEN1.out⟩⟩,Q31 hkk⟩
              · rw [if_neg (fun h=>h.elim e0 e6)] at hd3
                have d0:(st==0)=false:=by simp [e0]
                have d6:(st==6)=false:=by simp [e6]
                clear e0 e6
                have HD3:=hid hd3
                clear hd3
                have HK1:=hid hk1
                clear hk1
                go_wp2
                exact ⟨⟨k+1,m5,F5,n2,r2,true,rfl,rfl,rfl,rfl,HM6.out,HIV.out,HK1.out,.inr ⟨rfl,HD3.out.symm,.inr ⟨rfl,rfl⟩,HEN1.out⟩⟩,Q31 hkk⟩
         · have hk2:k=wo:=by have:=HW.out;omega
           have HM2:=hid hM2;have HV2:=hid hv2
           have e:D=(m2,false,n2,r2):=by rw [←hD2,hk2,Nat.sub_self];rfl
           have E1:=hid e
           clear hM2 hD2 hv2 e
           go_wp2
           go_ret
           have eR:=hidR.out
           rw [E1.out] at eR
           have eR2:R=(m2,true):=by rw [←eR];rfl
           rw [eR2]
           exact ⟨rfl,F2,HM2.out.1,HV2.out,HM2.out.2.1,HM2.out.2.2.1⟩
       · have HM2:=hid hM2;have HD2:=hid hD2;have HV2:=hid hv2
         have eR:=hidR.out
         rw [hD2] at eR hDR
         replace hDR:m2.entries≤R.1.entries:=hDR
         replace eR:Z0 wo lim L f m2 (i+1) (n2+1) r2=R:=eR
         have hn2b: -1≤n2∧n2≤lim:=by omega
         obtain ⟨w1, -⟩:=set_b1 hl1 hn2b.1 hn2b.2
         obtain ⟨w2,w3⟩:=set_b2 (i:=i) hi hm12 (Int.le_trans hDR (Int.le_trans hmE hEE))
         have hms:=Q84 hl0 hn1 (by omega) n0 hnr
         have hr2:0≤r2∧r2≤25:=by omega
         have HER:=hid eR;have W1:=hid w1;have W2:=hid w2;have W3:=hid w3;have HMS:=hid hms;have HR2B:=hid hr2;have HNB:=hid (set_b6 hn2b)
         clear hM2 hD2 hv2 hnr eR w1 w2 w3 hms
         by_cases hkk:(k:Int)<c.wo
         · go_wp2
           exact ⟨⟨f,i+1,m2,n2+1,r2,F2,rfl,rfl,rfl,HER.out,HM2.out,HV2.out,HNB.out,HR2B.out,W3.out⟩,HMS.out⟩
         · go_wp2
           exact ⟨⟨f,i+1,m2,n2+1,r2,F2,rfl,rfl,rfl,HER.out,HM2.out,HV2.out,HNB.out,HR2B.out,W3.out⟩,HMS.out⟩
   · unfold Z0 at hR
     rw [if_neg (by rw [←HW.out];exact hn)] at hR
     exact absurd (by rw [←hR]) (show ¬R.2=false by rw [HR2.out];simp)
theorem V6 {w:World} {g off cap:Nat} {evs:List EvV} (h:XH w (.slice (some ⟨g,off,none⟩) evs.length cap) evs) {k:Nat} {x:EvV} (hx:evs[k]?=some x) {j:Nat} {u:Value} (hj:x.cells[j]?=some u):w.cell? ⟨g,off+k*18+j,none⟩=some u:=by
 have hjl:j<18:=by have:=(List.getElem?_eq_some_iff.1 hj).1;rwa [Zk] at this
 have h2:=Jo.cell h (j:=k*18+j) (u:=u) (by rw [Q3d evs k j x hx hjl];exact hj)
 rw [←Nat.add_assoc] at h2
 exact h2
theorem Q4U (w:World) (a:Option Addr) (cap:Nat) (evs:List EvV) (he:XH w (.slice a evs.length cap) evs) (hn:evs.length≤100000) (who:Int):
 Calls Tryz.prog 35 #[.slice a evs.length cap,.int .i64 who] w fun e w'=>∃s g:Int,e=.returned (.tuple #[.int .i64 s,.int .i64 g])∧Fr [] w w':=by
 obtain ⟨len,hln⟩:∃len,evs.length=len:=⟨_,rfl⟩
 have HE:=hid he;have HLN:=hid hln
 rw [hln] at hn ⊢
 clear he hln
 have hwr:wrap64 ((len:Int) - 1)=(len:Int) - 1:=by unfold wrap64;omega
 go_in
 go_wp2_with fail
 go_loopw [6] (fun s6 wr=>∃i:Nat,i≤len∧s6=.int .i64 ((i:Int) - 1)∧Fr [] w wr) (fun s6 _=>(intOf s6+1).toNat)
 case atStart=>exact ⟨len,Nat.le_refl _,rfl,Fr.refl _ _⟩
 case round=>
  obtain ⟨i,hi,rfl,f4⟩:=hrel
  cases i with
  |zero=>
   go_wp2
   go_ret2
   exact ⟨0,0,rfl,f4⟩
  |succ j=>
   rw [show ((j+1:Nat):Int) - 1=(j:Int) by omega]
   have hj:j<len:=by omega
   have hj0:(0:Int)≤(j:Int):=by omega
   have hj1:(j:Int)<len:=by omega
   obtain ⟨x,hx⟩:∃x,evs[j]?=some x:=⟨_,List.getElem?_eq_getElem (by rw [HLN.out];exact hj)⟩
   have he:=Jo.fr HE.out f4 (by simp)
   have he':=he
   rw [HLN.out] at he'
   rcases he'.2 with ⟨_,h0⟩|⟨g,off,cap',cur,hval,hg, -⟩
   · omega
   simp only [Value.slice.injEq,true_and] at hval
   obtain ⟨rfl, -⟩:=hval
   have q0:=V6 he hx (j:=0) rfl;have q1:=V6 he hx (j:=1) rfl;have q3:=V6 he hx (j:=3) rfl;have q10:=V6 he hx (j:=10) rfl;have q11:=V6 he hx (j:=11) rfl;have q12:=V6 he hx (j:=12) rfl
   rw [Nat.add_zero] at q0
   obtain ⟨ended,xwho,at_,⟨aop,adl,awt,afc,asl,agn,ast⟩,e,slot,gen,stream,cI,cL,cE,cO⟩:=x
   dsimp only at q0 q1 q3 q10 q11 q12
   have HF:=hid f4
   clear he he' hg hx f4
   have hwj:wrap64 ((j:Int) - 1)=(j:Int) - 1:=by unfold wrap64;omega
   cases ended with
   |false=>
    go_wp2
    exact ⟨⟨j,by omega,by go_num,HF.out⟩,by simp [intOf]<;>omega⟩
   |true=>
    by_cases e1:xwho=who
    · have d1:(xwho==who)=true:=by simp [e1]
      clear e1
      by_cases e2:aop=0
      · have d2:(aop==0)=true:=by simp [e2]
        clear e2
        by_cases e3:e=0
        · have d3:(e==0)=true:=by simp [e3]
          clear e3
          go_wp2_with fail
          go_region
          all_goals go_wp2
          all_goals go_ret2
          all_goals exact ⟨slot,gen,rfl,HF.out.drew⟩
        · have d3:(e==0)=false:=by simp [e3]
          clear e3
          go_wp2
          exact ⟨⟨j,by omega,by go_num,HF.out⟩,by simp [intOf]<;>omega⟩
      · have d2:(aop==0)=false:=by simp [e2]
        clear e2
        go_wp2
        exact ⟨⟨j,by omega,by go_num,HF.out⟩,by simp [intOf]<;>omega⟩
    · have d1:(xwho==who)=false:=by simp [e1]
      clear e1
      go_wp2
      exact ⟨⟨j,by omega,by go_num,HF.out⟩,by simp [intOf]<;>omega⟩
end
section
variable {n:Int} {m m':Qb} {w:Nat} {c:Q0} {M M':List Int} {k:Q9}
theorem Q7B (t:Qh):yA M' t≤yA M t+2:=by
 unfold yA
 split
 · split<;>split<;>omega
 · split
   · split<;>split<;>omega
   · split<;>omega
theorem Q7L:wJ c M' k≤wJ c M k+2:=by
 unfold wJ
 have:=Q7B (M:=M) (M':=M') (k.ti.getD (QG 0))
 repeat' split
 all_goals omega
theorem Q2V (h:mQ M'=mQ M):wJ c M' k=wJ c M k:=by unfold wJ yA;rw [h]
theorem Same.ZF (h:Same c M M') (t:Tw2):ZF c M' t↔ZF c M t:=by unfold Go.Proofs.YtgjklfmnmljilaaGreatDoor.ZF;rw [h.cur]
theorem Same.kR (h:Same c M M') (t:Qd):kR c M' t=kR c M t:=by unfold Go.Proofs.YtgjklfmnmljilaaGreatDoor.kR rR;simp only [h.mt,h.wlY]
theorem Same.rpR (h:Same c M M') (r:QM):rpR c M' r=rpR c M r:=by unfold Go.Proofs.YtgjklfmnmljilaaGreatDoor.rpR rR;simp only [h.mt]
theorem Same.gR (h:Same c M M') (r:Qz):gR c M' r=gR c M r:=by unfold Go.Proofs.YtgjklfmnmljilaaGreatDoor.gR rR;simp only [h.mt]
theorem Same.sR (h:Same c M M') (r:QI):sR c M' r=sR c M r:=by unfold Go.Proofs.YtgjklfmnmljilaaGreatDoor.sR;simp only [h.mt]
theorem Same.qR (h:Same c M M') (r:QuS):qR c M' r=qR c M r:=by unfold Go.Proofs.YtgjklfmnmljilaaGreatDoor.qR;rw [h.mQ]
theorem Same.yR (h:Same c M M') (t:Qh):yR c M' t=yR c M t:=by unfold Go.Proofs.YtgjklfmnmljilaaGreatDoor.yR yB yE rR;simp only [h.mt,h.mQ,h.e]
theorem Same.cR (h:Same c M M') (t:Tw2):cR c M' t=cR c M t:=by unfold Go.Proofs.YtgjklfmnmljilaaGreatDoor.cR;rw [h.twR];simp only [h.ZF]
theorem Same.jR (h:Same c M M') (j:Yo):jR c M' j=jR c M j:=by
 cases j with
 |none=>rfl
 |get t=>exact h.kR t
 |give g=>exact h.gR g
 |strm s=>exact h.sR s
 |reap r=>exact h.rpR r
 |close f d=>
  cases d with
  |none=>rfl
  |some q=>exact h.qR q
 |stats t=>show Go.Proofs.YtgjklfmnmljilaaGreatDoor.twR c M' t+_+_=Go.Proofs.YtgjklfmnmljilaaGreatDoor.twR c M t+_+_;rw [h.twR]
theorem Same.wR (h:Same c M M'):wR c M' k=wR c M k:=by unfold Go.Proofs.YtgjklfmnmljilaaGreatDoor.wR;rw [h.jR,h.cR,h.qR,h.yR]
theorem Q6i (h:MInv n m) (hn:n≤1000000000) (hw:(w:Int)<m.c.wo) (h0:(m.wk w).st≠0):((QJ m w).wk w).st=0∨((QJ m w).wk w).st=6∨Phi (QJ m w)+1≤Phi m:=by
 obtain ⟨k',S, -⟩:=Y8 h hn hw h0
 obtain ⟨I, -,W2⟩:=S.inv h hw
 rcases Q7X h hn hw h0 with g|g|g
 · exact .inl g
 · exact .inr (.inl g)
 right;right
 have hwl:w<m.ws.length:=by have:=h.wl;omega
 have el:(QJ m w).ws.length=m.ws.length:=by rw [S.ws,List.length_set]
 have wo:=h.mem.cf.1
 have hN:(m.ws.length:Int)=m.c.wo:=h.wl
 have l1:=Q7q h;have l2:=Q7q I
 have lp:=Q7r h
 rw [S.c] at l2
 have hE:∀d:Int,0≤d→(∀k,k≠w→wJ m.c (QJ m w).M (m.wk k)≤wJ m.c m.M (m.wk k)+d)→
  KC (fun k=>wJ (QJ m w).c (QJ m w).M ((QJ m w).wk k)) (QJ m w).ws.length≤KC (fun k=>wJ m.c m.M (m.wk k)) m.ws.length+(wJ m.c (QJ m w).M ((QJ m w).wk w) - wJ m.c m.M (m.wk w) - d)+d*m.c.wo:=by
  intro d hd hk
  have:=Wx (f:=fun k=>wJ m.c m.M (m.wk k)) (g:=fun k=>wJ (QJ m w).c (QJ m w).M ((QJ m w).wk k)) (w:=w) (d:=d) hd (fun k hkw=>by simp only [S.c,W2 k hkw];exact hk k hkw) (QJ m w).ws.length
  rw [el,if_pos hwl,hN] at this
  rw [el]
  simp only [S.c] at this ⊢
  exact this
 have fin:Ej (QJ m w)+1≤Ej m→Phi (QJ m w)+1≤Phi m:=by
  intro e
  unfold Phi
  rw [S.c]
  have:(m.c.wo*Lm m.c+1)*(Ej (QJ m w)+1)≤(m.c.wo*Lm m.c+1)*Ej m:=Int.mul_le_mul_of_nonneg_left e (by omega)
  rw [Int.mul_add,Int.mul_one] at this
  omega
 rcases g with ⟨a,b⟩|⟨a,b⟩|⟨a,b,d⟩
 · refine fin ?_
   have:=hE 0 (by omega) (fun k _=>by rw [Q2V a];omega)
   unfold Ej
   rw [a]
   rw [S.c] at this ⊢
   omega
 · refine fin ?_
   have:=hE 2 (by omega) (fun k _=>Q7L)
   unfold Ej
   rw [S.c] at this ⊢
   rw [a]
   omega
 · have e1:Ej (QJ m w)≤Ej m:=by
    have:=hE 0 (by omega) (fun k _=>by rw [Q2V a.mQ];omega)
    unfold Ej
    rw [a.mQ]
    rw [S.c] at this ⊢
    rw [a.QS]
    omega
   have e2:Lr (QJ m w)+1≤Lr m:=by
    have:=Wx (f:=fun k=>wR m.c m.M (m.wk k)) (g:=fun k=>wR (QJ m w).c (QJ m w).M ((QJ m w).wk k)) (w:=w) (d:=0) (by omega) (fun k hkw=>by simp only [S.c,W2 k hkw];rw [a.wR];omega) (QJ m w).ws.length
    rw [el,if_pos hwl] at this
    unfold Lr
    rw [el]
    simp only [S.c] at this ⊢
    omega
   unfold Phi
   rw [S.c]
   have:(m.c.wo*Lm m.c+1)*Ej (QJ m w)≤(m.c.wo*Lm m.c+1)*Ej m:=Int.mul_le_mul_of_nonneg_left e1 (by omega)
   omega
theorem Q0p (h:MInv n m) (hn:n≤1000000000) (hw:(w:Int)<m.c.wo) (h0:(m.wk w).st≠0) (hx:WX (m.wk w)) (h6:(m.wk w).st=6→Xt m w=true):
 Rho (QJ m w)≤Rho m∧(((QJ m w).wk w).st=0∨((QJ m w).wk w).st=6→Rho (QJ m w)+1≤Rho m)∧WX ((QJ m w).wk w):=by
 obtain ⟨k',S, -⟩:=Y8 h hn hw h0
 obtain ⟨I, -,W2⟩:=S.inv h hw
 obtain ⟨a,b,d⟩:=Q5S h hw h0 hx h6
 have hwl:w<m.ws.length:=by have:=h.wl;omega
 have el:(QJ m w).ws.length=m.ws.length:=by rw [S.ws,List.length_set]
 have:=Wx (f:=fun k=>rho (m.wk k)) (g:=fun k=>rho ((QJ m w).wk k)) (w:=w) (d:=0) (by omega) (fun k hkw=>by simp only [W2 k hkw];omega) (QJ m w).ws.length
 rw [el,if_pos hwl] at this
 unfold Rho
 rw [el]
 exact ⟨by omega,fun x=>by have:=d x;omega,a⟩
structure GI (c:Q0) (m:Qb):Prop where
 i:MInv m.entries m
 e:0≤m.entries
 c:m.c=c
 x:∀k,WX (m.wk k)
def Stuck (m:Qb) (k:Nat):Prop:=(m.wk k).st=0∨((m.wk k).st=6∧Xt m k=false)
def Gj (m:Qb):Prop:=∀k:Nat,(k:Int)<m.c.wo→Stuck m k
def Alike (m m':Qb):Prop:=m'.c=m.c∧m'.M=m.M∧m'.ws=m.ws∧m'.now=m.now∧m'.evs=m.evs
theorem Alike.refl (m:Qb):Alike m m:=⟨rfl,rfl,rfl,rfl,rfl⟩
theorem Alike.trans {a b d:Qb} (h:Alike a b) (g:Alike b d):Alike a d:=⟨g.1.trans h.1,g.2.1.trans h.2.1,g.2.2.1.trans h.2.2.1,g.2.2.2.1.trans h.2.2.2.1,g.2.2.2.2.trans h.2.2.2.2⟩
theorem Alike.wk (h:Alike m m') (k:Nat):m'.wk k=m.wk k:=by unfold Qb.wk;rw [h.2.2.1]
theorem Alike.stuck (h:Alike m m') (k:Nat):Stuck m' k↔Stuck m k:=by
 unfold Stuck Xt ZI
 rw [h.wk,h.1,h.2.1,h.2.2.2.1]
theorem Alike.phi (h:Alike m m'):Phi m'=Phi m∧Rho m'=Rho m:=by
 unfold Phi Lr Ej Rho
 simp only [h.wk,h.1,h.2.1,h.2.2.1,and_self]
theorem Zu (g:GI c m) (hn:m.entries≤900000000) (hw:(w:Int)<c.wo):
 GI c (doV m (Jj w)).1∧(doV m (Jj w)).1.entries=m.entries+1∧
 (((doV m (Jj w)).2=false∧Alike m (doV m (Jj w)).1∧Stuck m w)∨
  ((doV m (Jj w)).2=true∧¬Stuck m w∧(doV m (Jj w)).1=QJ {m with at_:=m.entries,entries:=m.entries+1} w∧
   ((((doV m (Jj w)).1.wk w).st=0∨((doV m (Jj w)).1.wk w).st=6)∧Rho (doV m (Jj w)).1+1≤Rho m∨
    ¬(((doV m (Jj w)).1.wk w).st=0∨((doV m (Jj w)).1.wk w).st=6)∧Rho (doV m (Jj w)).1≤Rho m∧Phi (doV m (Jj w)).1+1≤Phi m))):=by
 have en:=ZN m (Jj w)
 refine ⟨?_,en, ?_⟩<;>revert en<;>(
  have al:Alike m {m with at_:=m.entries,entries:=m.entries+1}:=⟨rfl,rfl,rfl,rfl,rfl⟩
  have mi:MInv m.entries {m with at_:=m.entries,entries:=m.entries+1}:=⟨g.i.mem,g.i.gd,g.i.bd,g.i.ah,g.i.nw,g.i.ev,g.i.wl,g.i.wk⟩
  have hw2:(w:Int)<m.c.wo:=by rw [g.c];exact hw
  have hwl:w<m.ws.length:=by have:=g.i.wl;omega
  have e:doV m (Jj w)=(if (m.wk w).st=0∨((m.wk w).st=6∧Xt {m with at_:=m.entries,entries:=m.entries+1} w=false) then ({m with at_:=m.entries,entries:=m.entries+1},false) else (QJ {m with at_:=m.entries,entries:=m.entries+1} w,true)):=by
   unfold doV Jj
   simp only
   rw [if_neg (by omega),if_pos trivial]
   unfold KP
   have hh:({m with at_:=m.entries,entries:=m.entries+1}:Qb).has w=true:=by
    unfold Qb.has
    rw [Bool.and_eq_true,decide_eq_true_eq,decide_eq_true_eq]
    exact ⟨by omega,by show (w:Int)<(m.ws.length:Int);omega⟩
   rw [if_pos hh]
   rfl
  have st:=al.stuck w
  unfold Stuck at st
  rw [al.wk] at st
  rw [e]
  generalize ({m with at_:=m.entries,entries:=m.entries+1}:Qb)=b at*
  intro en)
 · split
   · rename_i hs
     rw [if_pos hs] at en
     simp only at en ⊢
     exact ⟨by rw [en];exact mi.mono,by rw [en];have:=g.e;omega,al.1.trans g.c,fun k=>by rw [al.wk];exact g.x k⟩
   · rename_i hs
     rw [if_neg hs] at en
     simp only at en ⊢
     have h0:(b.wk w).st≠0:=by rw [al.wk];exact fun x=>hs (.inl x)
     have hwb:(w:Int)<b.c.wo:=by rw [al.1];exact hw2
     obtain ⟨k',S, -⟩:=Y8 mi (by omega) hwb h0
     obtain ⟨I, -,W2⟩:=S.inv mi hwb
     have X:=Q0p mi (by omega) hwb h0 (by rw [al.wk];exact g.x w) (fun x=>by
      rw [al.wk] at x
      cases hm:Xt b w with
      |true=>rfl
      |false=>exact absurd (.inr ⟨x,hm⟩) hs)
     refine ⟨by rw [en];exact I,by rw [en];have:=g.e;omega,by rw [S.c,al.1,g.c],fun k=> ?_⟩
     by_cases hk:k=w
     · subst hk;exact X.2.2
     · rw [W2 k hk,al.wk];exact g.x k
 · split
   · rename_i hs
     exact .inl ⟨rfl,al,st.1 hs⟩
   · rename_i hs
     simp only
     have h0:(b.wk w).st≠0:=by rw [al.wk];exact fun x=>hs (.inl x)
     have hwb:(w:Int)<b.c.wo:=by rw [al.1];exact hw2
     have X:=Q0p mi (by omega) hwb h0 (by rw [al.wk];exact g.x w) (fun x=>by
      rw [al.wk] at x
      cases hm:Xt b w with
      |true=>rfl
      |false=>exact absurd (.inr ⟨x,hm⟩) hs)
     have Y:=Q6i mi (by omega) hwb h0
     rw [al.phi.1] at Y
     rw [al.phi.2] at X
     refine .inr ⟨by trivial,fun x=>hs (st.2 x),by trivial, ?_⟩
     by_cases hr:((QJ b w).wk w).st=0∨((QJ b w).wk w).st=6
     · exact .inl ⟨hr,X.2.1 hr⟩
     · refine .inr ⟨hr,X.1, ?_⟩
       rcases Y with Y|Y|Y
       · exact absurd (.inl Y) hr
       · exact absurd (.inr Y) hr
       · exact Y
end
end Go.Proofs.YtgjklfmnmljilaaGreatDoor

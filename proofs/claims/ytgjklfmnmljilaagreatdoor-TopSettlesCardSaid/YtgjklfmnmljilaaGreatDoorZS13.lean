/- A part of the proof: TpV to TpW. -/
import Derived.Test.YtgjklfmnmljilaaGreatDoorZS01
import Derived.Test.YtgjklfmnmljilaaGreatDoorZS03
import Derived.Test.YtgjklfmnmljilaaGreatDoorZS08
import Derived.Test.YtgjklfmnmljilaaGreatDoorZS12
namespace Go.Proofs.YtgjklfmnmljilaaGreatDoor
set_option linter.unusedVariables false
set_option linter.unusedSimpArgs false
set_option linter.unusedSectionVars false
set_option linter.unnecessarySimpa false
set_option maxRecDepth 100000
set_option maxHeartbeats 8000000
section
open Go.RowKit Go.Shelf Go.Lib
attribute [local go_sem] Oper.semAt_some
theorem Qr {P:Program} {f:FuncId} {fn:Func} {c:Code} (hf:P.funcs[f]?=some fn) (hname:(fn.name== "runtime.NumGoroutine")=false) (hb:fn.body=some c) (args:Array Value) (w:World):
 (callFunc f args).run P w=.ok (.enter f args) w:=by
 have h1:fn.name≠ "runtime.NumGoroutine":=by simpa using hname
 simp [callFunc,hf,h1,hb,go_sem]
theorem VF {P:Program} {L:List FuncId} {k:Nat} (h:L.all (fun f=>(P.funcs[f]?).any fun fn=>fn.name != "runtime.NumGoroutine"&&fn.body.isSome)=true) (hk:k<L.length) (args:Array Value) (w:World):(callFunc (L.getD k 0) args).run P w=.ok (.enter (L.getD k 0) args) w:=by
 rw [List.all_eq_true] at h
 have h:=h _ (List.getElem_mem hk)
 have e:L.getD k 0=L[k]:=by simp [List.getD_eq_getElem?_getD,hk]
 rw [e]
 generalize L[k]=f at h
 cases hf:P.funcs[f]? with
 |none=>rw [hf] at h;cases h
 |some fn=>
  rw [hf] at h
  simp only [Option.any_some,Bool.and_eq_true,Option.isSome_iff_exists] at h
  obtain ⟨h1,c,hc⟩:=h
  exact Qr hf (by simpa using h1) hc args w
def Xh (L:List FuncId):Array Value:=(L.map fun f=>Value.func (.func f) #[] #[]).toArray
abbrev tF:Th:=⟨false,[0],fun w=>Qe w 0 Qc,fun f h k=>k.fr f (h _ (by simp))⟩
theorem Bag.flds {w:World} (hG:Qe w 0 Qc):Bag [] w [tF] w:=
 have h0:0<w.heap.size:=World.block_lt_of_cell? _ _ (hG 0 _ rfl).1
 (Bag.nil [] w).add tF hG (fun x hx=>by simp at hx;subst hx;exact h0) (fun i x hx=>by simp [gt,Th.nil]) (fun h=>by cases h)
def YA:List FuncId:=[125,126,127,128,129,130,131,132,133,134,135,136,137,138,139,140,141,142]
theorem Yi {f:Nat} {s t:Q7} {own more:Int} {b:Bool} (C:Xk f s own more t b) {o:Option Q7} (e:o=if b=true then some t else none):∃t,Xk f s own more t o.isSome∧∀u,o=some u→t=u:=by
 subst e
 exact ⟨t,by cases b<;>exact C,by cases b<;>simp⟩
theorem chg_fn (s:Q7) (own more:Int) (h:s.right) (d:Nat) (hd:d<18):∃t:Q7,Xk (YA.getD d 0) s own more t (chg d s own more).isSome∧(∀u,chg d s own more=some u→t=u):=by
 have T:=ten s own more h
 have U:=three s own more
 have V:=two s own more
 match d,hd with
 |0,_=>exact Yi T.1 rfl
 |1,_=>exact Yi T.2.1 rfl
 |2,_=>exact Yi T.2.2.1 rfl
 |3,_=>exact Yi T.2.2.2.1 rfl
 |4,_=>exact Yi U.2.2 rfl
 |5,_=>exact Yi T.2.2.2.2.1 rfl
 |6,_=>exact Yi T.2.2.2.2.2.1 rfl
 |7,_=>exact Yi T.2.2.2.2.2.2.1 rfl
 |8,_=>exact Yi T.2.2.2.2.2.2.2.1 rfl
 |9,_=>exact Yi T.2.2.2.2.2.2.2.2.1 rfl
 |10,_=>exact Yi V.1 rfl
 |11,_=>exact Yi U.1 rfl
 |12,_=>exact Yi T.2.2.2.2.2.2.2.2.2 rfl
 |13,_=>exact Yi V.2 rfl
 |14,_=>exact ⟨_,Q5i s own more h,fun u hu=>by rw [show Vx s own more=some u from hu];rfl⟩
 |15,_=>exact ⟨_,Q5f s own more h,fun u hu=>by rw [show Vt s own more=some u from hu];rfl⟩
 |16,_=>
  have C:=Q5d s own more h
  rw [show chg 16 s own more=if Jk s 5 own then some (toV s 1 own) else if Jk s 4 own then some (Ju s own) else none from rfl]
  cases h5:Jk s 5 own<;>cases h4:Jk s 4 own<;>rw [h5,h4] at C<;>exact ⟨_,C,by simp⟩
 |17,_=>exact Yi U.2.1 rfl
 |d+18,hd=>exact absurd hd (by omega)
theorem Q1i (w:World):Calls Tryz.prog 88 #[] w fun e w'=>e=.returned (.slice (some ⟨w.heap.size,0,none⟩) 18 18)∧w'.heap[w.heap.size]?=some (.cells (Xh YA) 148 (0,0))∧Fr [] w w':=by
 have H:=hid (And.intro (heap_alloc_new w (.cells (Xh YA) 148)) ((Fr.refl [] w).alloc (.cells (Xh YA) 148)))
 go_in
 go_wp2
 go_ret
 exact ⟨rfl,H.out⟩
def Xv:Q7:=⟨0,0,0,false,false,0,0,0,0⟩
theorem Yj (w:World) (s:Q7) (d:Nat) (own more:Int) (h:s.right) (hd:d<18) (o0:0≤own) (o1:own≤15) (hG:Qe w 0 Qc):
 Calls Tryz.prog 65 #[s.val,.int .i64 (d:Int),.int .i64 own,.int .i64 more] w fun e w'=>e=.returned (.tuple #[((Qj s d own more).getD Xv).val,.bool (Qj s d own more).isSome])∧Fr [] w w':=by
 have HR:=hid fun w' hg=>Q1U w' s h hg
 obtain ⟨t,hct,hcu⟩:=chg_fn s own more h d hd
 unfold Xk at hct
 have HC:=hid hct
 have HU:=hid hcu
 clear hct hcu
 have hv0:=h.ver0;have hv1:=h.ver1
 rw [show Qj s d own more=(chg d s own more).map fun t=>{t with ver:=(s.ver+1) % 32768} from if_pos ⟨o0,o1⟩]
 have hcf:=VF (P:=Tryz.prog) (L:=YA) (k:=d) (by decide+kernel) hd
 have hfd:(Xh YA)[d]?=some (.func (.func (YA.getD d 0)) #[] #[]):=by
  have:d<YA.length:=hd
  simp [Xh,List.getD_eq_getElem?_getD,this]
 have hcv:=Q1i
 generalize Xh YA=FA at hfd hcv
 generalize YA.getD d 0=fn at HC hfd hcf
 have HV:=hid hcv
 have B:=Bag.flds hG
 clear h hG hcv
 generalize chg d s own more=co at HC HU ⊢
 obtain ⟨st,so,str,br,mkd,us,gen,ep,ver⟩:=s
 obtain ⟨rst,rso,rstr,rbr,rmkd,rus,rgen,rep,rver⟩:=t
 dsimp only [Q7.val,Xq] at HR HC hv0 hv1 ⊢
 go_in
 go_wp2_with fail
 generalize hw:World.alloc w _=w1,hb:(World.heap w).size=b
 generalize hw2:World.alloc w1 _=w2
 replace B:=B.al2 hw hb hw2
 clear hb hw hw2
 refine (HV.out _).mono ?_
 rintro e w3 ⟨rfl,hf3,f3⟩
 generalize hbf:(World.heap w2).size=bf at hf3 ⊢
 replace B:=B.nw (T':=tR bf FA 148) hf3 f3 (fun x hx=>by simp at hx;subst hx;exact ⟨Nat.le_of_eq hbf,Q8 hf3⟩)
 clear hbf hf3 f3
 have q:=B.q 1
 go_wp2_with fail
 refine (HR.out _ (B.g 0)).mono ?_
 rintro e w4 ⟨rfl,f4⟩
 replace B:=B.tm f4
 clear f4 q
 have hd0:¬((d:Int)<0):=by omega
 have hd1:¬((18:Int)≤(d:Int)):=by omega
 have hd2:(d:Int)<18:=by omega
 have hd3:(0:Int)≤(d:Int):=by omega
 go_wp2_with fail
 refine rg B fun _ B=> ?_
 iterate 8 refine tb ?_
 refine wpAnyH_ready (rs:=[8,12]) (by kernel_rfl) (by simp) ?_
 refine AllReadyH.cons (o:=_) rfl (fun K hK=> ?_) (AllReadyH.cons (o:=_) rfl (fun K hK=> ?_) AllReadyH.nil)
 all_goals
  simp only [List.getElem_toArray,List.getElem_cons_succ,List.getElem_cons_zero]
  go_simp
  first
   |(refine (HC.out _).mono ?_
     rintro e w5 ⟨rfl,f5⟩
     replace B:=B.tm f5
     go_wp2_with fail
     refine bk hK ?_
     clear hK K
     try go_frame
     refine tj 9 ?_
     refine tj 10 ?_
     refine tj 11 ?_
     refine tc 12 fun K hK=> ?_
     go_simp
     generalize hb:(World.heap _).size=b7,hw:World.alloc _ _=w7
     replace B:=B.al hw hb
     refine bk hK ?_
     clear hK K hw hb
     try go_frame)
   |(generalize hb:(World.heap _).size=b7,hw:World.alloc _ _=w7
     replace B:=B.al hw hb
     refine bk hK ?_
     clear hK K hw hb
     try go_frame
     refine tc 8 fun K hK=> ?_
     go_simp
     refine (HC.out _).mono ?_
     rintro e w5 ⟨rfl,f5⟩
     replace B:=B.tm f5
     go_wp2_with fail
     refine bk hK ?_
     clear hK K
     try go_frame
     refine tj 9 ?_
     refine tj 10 ?_
     refine tj 11 ?_)
  have q:=B.q 4;have u:=B.u 4
  refine to fun K hK=> ?_
  go_simp
  clear q u
  generalize hw:World.setCell _ _ _=w8
  replace B:=(((((((((B.s 4).s 4).s 4).s 4).s 4).s 4).s 4).s 4).s 4).e hw
  refine bk hK ?_
  clear hK K
  try go_frame
  refine tb ?_
  refine wpAnyH_done (by decide+kernel) ?_ _
  rcases co with _|uu
  · simp only [Option.isSome_none]
    have q:=B.q 2;have u:=B.u 2
    go_wp2_with fail
    clear q u
    generalize hw:World.setCell _ _ _=w9
    replace B:=(((((((((B.s 2).s 2).s 2).s 2).s 2).s 2).s 2).s 2).s 2).e hw
    have q:=B.q 2
    refine ⟨rfl,_, ?_,rfl,B.fr⟩
    simp [results,Tryz.f65,go_sem,q,Xv]
    try rfl
  · have hu:=HU.out _ rfl
    subst hu
    simp only [Option.isSome_some]
    have q:=B.q 4;have u:=B.u 4;have r:=B.q 1;have q2:=B.q 2;have u2:=B.u 2
    have n1:¬b7=b+1:=by simpa [gt] using B.nd 4 2 (by decide) b7 (by simp [gt])
    have n2:¬b+1=b7:=fun e=>n1 e.symm
    go_wp2_with fail
    clear q u r q2 u2
    generalize hw:World.setCell _ _ _=w9
    replace B:=((((((((((B.s 4).s 2).s 2).s 2).s 2).s 2).s 2).s 2).s 2).s 2).e hw
    have q:=B.q 2
    refine ⟨rfl,_, ?_,rfl,B.fr⟩
    simp [results,Tryz.f65,go_sem,q,Xv]
    try rfl
end
section
def J6 (word:Int) (d:Nat) (own more:Int):Option (Q7×Int):=(dec word).bind fun s=>(Qj s d own more).map fun t=>(t,t.enc)
structure Qi where
 kind:Int
 own:Int
 at_:Int
 word:Int
 found:Bool
deriving DecidableEq
def JX (s:Q7) (kind own:Int):Bool:=
 if kind=0 then JL s&&decide (s.own=own)
 else if kind=1 then JL s
 else if kind=2 then isV s 0
 else if kind=3 then JL s||isV s 0
 else if kind=4 then (if isV s 2 then s.br||decide (own=1)||decide (own=2) else isV s 3&&decide (own=2))
 else if kind=5 then isV s 6
 else if kind=6 then isV s 2
 else false
def JA (word kind own:Int):Bool:=match dec word with|some s=>JX s kind own|none=>false
def QF (kind own from_:Int):Qi:=⟨kind,own,max from_ 0,0,false⟩
def Qi.all (c:Q0) (f:Qi):Bool:=decide (c.sl≤f.at_)
def Qx (c:Q0) (f:Qi) (M:List Int):Qi×Bool:=
 if f.found||f.all c then (f,true)
 else
  let word:=Q6 M (c.slot f.at_)
  if JA word f.kind f.own then ({f with word:=word,found:=true},true)
  else ({f with at_:=f.at_+1},decide (c.sl≤f.at_+1))
def Qi.again (f:Qi):Qi:={f with found:=false}
def Qi.go (f:Qi):Qi:=if f.found then {f with found:=false,at_:=f.at_+1} else f
inductive RSt where
 |swap|look|age|J5|done
deriving DecidableEq
structure J4 where
 cell:Int
 word:Int
 epoch:Int
 st:RSt
 swapped:Bool
 done:Bool
deriving DecidableEq
def Q5 (c:Q0) (i:Int):Int:=if 0≤i∧i<c.sl then c.slot i else -1
def Ji (c:Q0) (i word:Int):J4:=⟨Q5 c i,word,0,.swap,false,false⟩
def J4.fin (r:J4):J4:={r with st:=.done,done:=true}
def Qn (r:J4) (M:List Int):J4×List Int:=
 match r.st with
 |.swap=>match J6 r.word 11 0 4095 with
  |some (_,next)=>if Qv M r.cell r.word then ({r with word:=next,swapped:=true,st:=.look},QL M r.cell r.word next) else (r.fin,M)
  |none=>(r.fin,M)
 |.look=>({r with epoch:=Q6 M 2,st:=.age},M)
 |.age=>match J6 r.word 17 0 r.epoch with
  |some (_,next)=>({r with st:=.J5},QL M r.cell r.word next)
  |none=>({r with st:=.J5},M)
 |.J5=>(r.fin,Gd M 2 1)
 |.done=>(r.fin,M)
structure Qd where
 w:Int
 st:Int
 look:Option Qi
 i:Int
 word:Int
 gen:Int
 passes:Bool
 ret:Option J4
 e:Int
deriving DecidableEq
def J8 (w:Int):Qd:=⟨w,0,none,0,0,0,false,none,0⟩
def QX (w i:Int):Qd:=⟨w,13,none,i,0,0,false,none,0⟩
def Qd.end_ (t:Qd) (e:Int):Qd:={t with e:=e,st:=15}
def Qd.search (t:Qd) (st kind own:Int):Qd:={t with look:=some (QF kind own 0),st:=st}
def Qd.lk (t:Qd):Qi:=t.look.getD ⟨0,0,0,0,false⟩
def Qd.rt (t:Qd):J4:=t.ret.getD ⟨0,0,0,.done,false,false⟩
def JR (c:Q0) (t:Qd) (M:List Int) (i word:Int) (d:Nat):Qd×List Int×Bool:=
 match J6 word d t.w 0 with
 |some (s,next)=>if Qv M (Q5 c i) word then ({t with i:=i,word:=next,gen:=s.gen},QL M (Q5 c i) word next,true) else (t,M,false)
 |none=>(t,M,false)
def Zt (c:Q0) (t:Qd) (M:List Int) (d:Nat):Qd×List Int×Bool:=
 match JR c t M t.lk.at_ t.lk.word d with
 |(t',M',true)=>(t',M',true)
 |(_,_,false)=>({t with look:=some t.lk.again},M,false)
def Qf (c:Q0) (t:Qd) (M:List Int) (good:Bool):Qd×List Int:=
 let (f,fend):=Qx c t.lk M
 let t1:={t with look:=some f}
 let found:=f.found
 let all:=fend&& !f.found
 if t.st=0 then (if Q6 M 0≠0 then t.end_ 5 else t.search 1 0 t.w,M)
 else if t.st=1 then (if found then {t1 with st:=2} else if all then t1.search 3 1 t.w else t1,M)
 else if t.st=2 then
  match Zt c t M 3 with
  |(t',M',true)=>({t' with st:=10},M')
  |(t',M',false)=>({t' with st:=1},M')
 else if t.st=3 then (if found then {t1 with st:=4} else if all then t1.search 7 2 t.w else t1,M)
 else if t.st=4 then
  match Zt c t M 3 with
  |(t',M',true)=>(if ((dec t.lk.word).getD ⟨0,0,0,false,false,0,0,0,0⟩).own≠t.w then {t' with passes:=false,look:=some (QF 0 ((dec t.lk.word).getD ⟨0,0,0,false,false,0,0,0,0⟩).own 0),st:=5} else {t' with st:=10},M')
  |(t',M',false)=>({t' with st:=3},M')
 else if t.st=5 then (if found&&t.passes then {t1 with passes:=false,look:=some f.go} else if found then {t1 with passes:=true,st:=6} else if all then {t1 with st:=10} else t1,M)
 else if t.st=6 then ({t with look:=some t.lk.go,st:=5},match J6 t.lk.word 9 t.w 0 with|some (_,next)=>QL M (Q5 c t.lk.at_) t.lk.word next|none=>M)
 else if t.st=7 then (if found then {t1 with st:=8} else if all then t1.end_ 3 else t1,M)
 else if t.st=8 then
  match Zt c t M 0 with
  |(t',M',true)=>({t' with st:=9},M')
  |(t',M',false)=>({t' with st:=7},M')
 else if t.st=9 then
  match JR c t M t.i t.word (if good then 1 else 2) with
  |(t',M',ok)=>(if ok&&good then {t' with st:=10} else t'.end_ 6,M')
 else if t.st=10 then (if Q6 M 0=0 then t.end_ 0 else {t with st:=11},M)
 else if t.st=11 then
  (match dec (Q6 M (Q5 c t.i)) with
    |some s=>if s.st=3∧s.own=t.w∧s.gen=t.gen then {t with ret:=some (Ji c t.i (Q6 M (Q5 c t.i))),st:=12} else t.end_ 5
    |none=>t.end_ 5,M)
 else if t.st=12 then
  let (r,M'):=Qn t.rt M
  (if r.done then (if r.swapped then {t with ret:=some r}.end_ 5 else {t with ret:=some r,st:=11}) else {t with ret:=some r},M')
 else if t.st=13 then ({t with word:=Q6 M (Q5 c t.i),st:=14},M)
 else if t.st=14 then
  match J6 t.word 16 t.w 0 with
  |none=>(t.end_ 5,M)
  |some (s,_)=>match JR c t M t.i t.word 16 with
   |(t',M',true)=>(if s.st=3 then {t' with st:=10} else {t' with st:=9},M')
   |(t',M',false)=>({t' with st:=13},M')
 else (t,M)
structure Qz where
 w:Int
 i:Int
 gen:Int
 discard:Bool
 st:Int
 closed:Int
 word:Int
 ret:Option J4
 e:Int
deriving DecidableEq
def Jv (w i gen:Int) (discard:Bool):Qz:=⟨w,i,gen,discard,0,0,0,none,0⟩
def Qz.end_ (g:Qz) (e:Int):Qz:={g with e:=e,st:=4}
def Qz.rt (g:Qz):J4:=g.ret.getD ⟨0,0,0,.done,false,false⟩
def Qt (c:Q0) (g:Qz) (M:List Int):Qz×List Int:=
 if g.st=0 then (if Q6 M 0=2 then {g with closed:=Q6 M 0}.end_ 5 else {g with closed:=Q6 M 0,st:=1},M)
 else if g.st=1 then
  (if Q5 c g.i<0 then g.end_ 2
  else
   let g1:={g with word:=Q6 M (Q5 c g.i)}
   match dec g1.word with
   |some s=>if s.st=3∧s.own=g.w∧s.gen=g.gen then
     (if s.str≠0∧g.discard=false then g1.end_ 8
     else if g.discard||s.br||decide (c.us≤s.us)||decide (g.closed≠0) then {g1 with ret:=some (Ji c g.i g1.word),st:=3} else {g1 with st:=2})
    else g1.end_ 2
   |none=>g1.end_ 2,M)
 else if g.st=2 then
  match J6 g.word 4 g.w 0 with
  |some (_,next)=>if Qv M (Q5 c g.i) g.word then ({g with st:=1}.end_ 0,QL M (Q5 c g.i) g.word next) else ({g with st:=1},M)
  |none=>({g with st:=1},M)
 else if g.st=3 then
  let (r,M'):=Qn g.rt M
  (if r.done then (if r.swapped then {g with ret:=some r}.end_ 0 else {g with ret:=some r,st:=1}) else {g with ret:=some r},M')
 else (g,M)
structure QI where
 opens:Bool
 w:Int
 i:Int
 gen:Int
 n:Int
 st:Int
 word:Int
 next:Int
 stream:Int
 e:Int
deriving DecidableEq
def QI.end_ (g:QI) (e:Int):QI:={g with e:=e,st:=3}
def VH (a b:Int):Int:=(((List.range 8).find? fun i=>a.toNat.testBit i != b.toNat.testBit i).getD 64:Nat)
def Qu (c:Q0) (g:QI) (M:List Int):QI×List Int:=
 if g.st=0 then (if Q6 M 0=2 then {g with st:=1}.end_ 5 else {g with st:=1},M)
 else if g.st=1 then
  (if Q5 c g.i<0 then g.end_ 2
  else
   let g1:={g with word:=Q6 M (Q5 c g.i)}
   match dec g1.word with
   |some s=>if s.st=3∧s.own=g.w∧s.gen=g.gen then
     (if g.opens=true∧s.br=true then g1.end_ 9
     else match Qj s (if g.opens then 14 else 15) g.w (if g.opens then c.st else g.n) with
      |some t=>{g1 with next:=t.enc,stream:=VH s.str t.str,st:=2}
      |none=>g1.end_ (if g.opens then 10 else 11))
    else g1.end_ 2
   |none=>g1.end_ 2,M)
 else if g.st=2 then
  if Qv M (Q5 c g.i) g.word then ({g with st:=1}.end_ 0,QL M (Q5 c g.i) g.word g.next) else ({g with st:=1},M)
 else (g,M)
structure Qh where
 w:Int
 st:Int
 epoch:Int
 closed:Int
 queue:List Int
 look:Option Qi
 i:Int
 word:Int
 other:Int
 head:Int
 ret:Option J4
def QG (w:Int):Qh:=⟨w,0,0,0,[],none,0,0,0,0,none⟩
def Qh.lk (t:Qh):Qi:=t.look.getD ⟨0,0,0,0,false⟩
def Qh.rt (t:Qh):J4:=t.ret.getD ⟨0,0,0,.done,false,false⟩
def Qh.search (t:Qh) (st kind own:Int):Qh:={t with look:=some (QF kind own 0),st:=st}
def Qh.another (c:Q0) (t:Qh):Qh×Bool:=
 let o:=if t.other+1=t.w then t.other+2 else t.other+1
 ({t with other:=o},decide (o<c.wo))
def Xe (c:Q0) (t:Qh) (M:List Int) (d:Nat) (own:Int):List Int×Bool:=
 match J6 t.word d own 0 with
 |some (_,next)=>if Qv M (Q5 c t.i) t.word then (QL M (Q5 c t.i) t.word next,true) else (M,false)
 |none=>(M,false)
def isW (word:Int):Int:=match dec word with|some s=>s.st|none=> -1
def epW (word:Int):Int:=match dec word with|some s=>s.ep|none=>0
def Qk (c:Q0) (t:Qh) (M:List Int):Qh×List Int:=
 let (f,fend):=Qx c t.lk M
 let t1:=if f.found then {t with look:=some f,i:=f.at_,word:=f.word} else {t with look:=some f}
 let all:=fend&& !f.found
 if t.st=0 then ({t with epoch:=Q6 M 2,st:=1},M)
 else if t.st=1 then ({t with st:=2},QA M (3+t.w) (t.epoch+1))
 else if t.st=2 then ({t with closed:=Q6 M 0}.search 3 4 (Q6 M 0),M)
 else if t.st=3 then (if f.found then {t1 with ret:=some (Ji c t1.i t1.word),st:=4} else if all then t1.search 5 5 t.w else t1,M)
 else if t.st=4 then
  let (r,M'):=Qn t.rt M
  (if r.done then {t with ret:=some r,look:=some t.lk.again,st:=3} else {t with ret:=some r},M')
 else if t.st=5 then
  (if f.found then
    (match {t1 with other:= -1,st:=6}.another c with
      |(t2,true)=>t2
      |(t2,false)=>{t2 with st:=7})
  else if all&&decide (t.closed≠0) then {t1 with st:=15} else if all then {t1 with st:=8} else t1,M)
 else if t.st=6 then
  (let word:=Q6 M (3+t.other)
  if 1≤word∧word - 1≤epW t.word then {t with look:=some t.lk.go,st:=5}
  else match t.another c with
   |(t2,true)=>t2
   |(t2,false)=>{t2 with st:=7},M)
 else if t.st=7 then ({t with look:=some t.lk.go,st:=5},(Xe c t M 12 t.w).1)
 else if t.st=8 then (if mQ M=[] then {t with queue:=mQ M,st:=15} else {t with queue:=mQ M,head:=Z7 (mQ M)}.search 9 3 t.w,M)
 else if t.st=9 then (if f.found then {t1 with st:=10} else if all then {t1 with st:=15} else t1,M)
 else if t.st=10 then
  match Xe c t M (if isW t.word=2 then 5 else 7) t.head with
  |(M',true)=>({t with st:=11},M')
  |(M',false)=>({t with look:=some t.lk.again,st:=9},M')
 else if t.st=11 then (if mQ M=t.queue then ({t with st:=12},M.set 1 (wd t.queue.tail:Int)) else ({t with st:=13},M))
 else if t.st=12 then ({t with st:=8},QA M (3+c.wo+t.head) (t.i+1))
 else if t.st=13 then
  (let word:=Q6 M (Q5 c t.i)
  if isW word=4∨isW word=5 then {t with word:=word,st:=14} else {t with word:=word,st:=8},M)
 else if t.st=14 then
  match Xe c t M (if isW t.word=4 then 6 else 8) t.w with
  |(M',true)=>({t with st:=2},M')
  |(M',false)=>({t with st:=13},M')
 else if t.st=15 then ({t with st:=16},QA M (3+t.w) 0)
 else if t.st=16 then (if Q6 M 2=t.epoch then {t with st:=17} else {t with st:=0},M)
 else (t,M)
end
section
open Go.RowKit Go.Shelf Go.Lib
attribute [local go_sem] Oper.semAt_some
def Y1 (c:Q0) (i:Int):Int:=if 0≤i∧i<c.wo then 3+i else -1
theorem J2 (w:World) (c:Q0) (i:Int) (hc:c.fits):Calls Tryz.prog 42 #[c.val,.int .i64 i] w fun e w'=>e=.returned (.int .i64 (Q5 c i))∧Fr [] w w':=by
 obtain ⟨wo,sl,st,wa,us⟩:=c
 obtain ⟨⟨a0,a1⟩,⟨b0,b1⟩, -⟩:=hc
 unfold Q0.val Q5
 dsimp only at*
 have HF:=hid ((Fr.refl [] w).alloc (.cells #[.int .i64 wo,.int .i64 sl,.int .i64 st,.int .i64 wa,.int .i64 us] 30))
 have hcase:i<0∨(0≤i∧sl≤i)∨(0≤i∧i<sl):=by omega
 rcases hcase with h|⟨h,h'⟩|⟨h,h'⟩
 · rw [if_neg (by omega)]
   go_in
   go_wp2
   go_ret
   exact ⟨rfl,HF.out⟩
 · rw [if_neg (by omega)]
   go_in
   go_wp2
   go_ret
   exact ⟨rfl,HF.out⟩
 · rw [if_pos ⟨h,h'⟩]
   unfold Q0.slot
   dsimp only
   go_in
   go_wp2
   go_ret
   exact ⟨rfl,HF.out⟩
theorem KZ (w:World) (c:Q0) (i:Int) (hc:c.fits):Calls Tryz.prog 73 #[c.val,.int .i64 i] w fun e w'=>e=.returned (.int .i64 (Y1 c i))∧Fr [] w w':=by
 obtain ⟨wo,sl,st,wa,us⟩:=c
 obtain ⟨⟨a0,a1⟩,⟨b0,b1⟩, -⟩:=hc
 unfold Q0.val Y1
 dsimp only at*
 have HF:=hid ((Fr.refl [] w).alloc (.cells #[.int .i64 wo,.int .i64 sl,.int .i64 st,.int .i64 wa,.int .i64 us] 30))
 have hcase:i<0∨(0≤i∧wo≤i)∨(0≤i∧i<wo):=by omega
 rcases hcase with h|⟨h,h'⟩|⟨h,h'⟩
 · rw [if_neg (by omega)]
   go_in
   go_wp2
   go_ret
   exact ⟨rfl,HF.out⟩
 · rw [if_neg (by omega)]
   go_in
   go_wp2
   go_ret
   exact ⟨rfl,HF.out⟩
 · rw [if_pos ⟨h,h'⟩]
   go_in
   go_wp2
   go_ret
   exact ⟨rfl,HF.out⟩
theorem Dk (w:World) (x:Int) (h0: -4611686018427387904≤x) (h1:x≤4611686018427387904):Calls Tryz.prog 74 #[.int .i64 x] w fun e w'=>e=.returned (.int .i64 (x+1))∧Fr [] w w':=by
 go_in
 go_wp2
 go_ret
 exact ⟨rfl,Fr.refl _ _⟩
theorem Q28 (w:World) (x:Int) (h0: -4611686018427387904≤x) (h1:x≤4611686018427387904):Calls Tryz.prog 260 #[.int .i64 x] w fun e w'=>e=.returned (.tuple #[.int .i64 (if x<1 then 0 else x - 1),.bool (decide (1≤x))])∧Fr [] w w':=by
 by_cases h:x<1
 · rw [if_pos h,decide_eq_false (by omega)]
   go_in
   go_wp2
   go_ret2
   exact ⟨rfl,Fr.refl _ _⟩
 · rw [if_neg h,decide_eq_true (by omega)]
   go_in
   go_wp2
   go_ret2
   exact ⟨rfl,Fr.refl _ _⟩
theorem Q0u (w:World) (x ep:Int) (h0: -4611686018427387904≤x) (h1:x≤4611686018427387904):Calls Tryz.prog 239 #[.int .i64 x,.int .i64 ep] w fun e w'=>e=.returned (.bool (decide (1≤x∧x - 1≤ep)))∧Fr [] w w':=by
 have HE:=hid fun (w':World)=>Q28 w' x h0 h1
 by_cases h:x<1
 · rw [if_pos h,decide_eq_false (by omega)] at HE
   rw [decide_eq_false (by omega)]
   go_in
   go_wp2_with fail
   refine (HE.out _).mono ?_
   rintro e w1 ⟨rfl,f1⟩
   have F1:=hid f1
   go_wp2
   go_ret
   exact ⟨rfl,F1.out⟩
 · rw [if_neg h,decide_eq_true (by omega)] at HE
   have hq:decide (1≤x∧x - 1≤ep)=decide (x - 1≤ep):=by
    by_cases h2:x - 1≤ep
    · rw [decide_eq_true h2,decide_eq_true ⟨by omega,h2⟩]
    · rw [decide_eq_false h2,decide_eq_false (fun hh=>h2 hh.2)]
   rw [hq]
   clear hq
   go_in
   go_wp2_with fail
   refine (HE.out _).mono ?_
   rintro e w1 ⟨rfl,f1⟩
   have F1:=hid f1
   go_wp2
   go_ret
   exact ⟨rfl,F1.out⟩
def EK (o:Option Q7):Int:=match o with|some t=>t.enc|none=>0
theorem U9 (w:World) (s:Q7) (d:Nat) (more:Int) (h:s.right) (hd:d<18) (hG:Qe w 0 Qc):
 Calls Tryz.prog 264 #[.int .i64 s.enc,.int .i64 (d:Int),.int .i64 more] w fun e w'=>e=.returned (.tuple #[.int .i64 (EK (Qj s d 0 more)),.bool (Qj s d 0 more).isSome])∧Fr [] w w':=by
 have HD:=hid fun (w':World) (hg:Qe w' 0 Qc)=>Je w' s h hg
 have HN:=hid fun (w':World) (hg:Qe w' 0 Qc)=>Yj w' s d 0 more h hd (by omega) (by omega) hg
 have HE:=hid fun (t:Q7) (w':World) (ht:Qj s d 0 more=some t) (hg:Qe w' 0 Qc)=>XD w' t (Jz h ht) hg
 have HG:=hid hG
 clear h hG
 generalize s.enc=en at HD ⊢
 generalize Qj s d 0 more=co at HN HE ⊢
 obtain ⟨st,so,str,br,mkd,us,gen,ep,ver⟩:=s
 unfold Q7.val at HD HN HE
 dsimp only at HD HN HE
 go_in
 go_wp2_with fail
 refine (HD.out _ HG.out).mono ?_
 rintro e w1 ⟨rfl,f1⟩
 have HG1:=hid (HG.out.fr (f1.alloc (.cells #[.int .i64 st,.int .i64 so,.int .i64 str,.bool br,.bool mkd,.int .i64 us,.int .i64 gen,.int .i64 ep,.int .i64 ver] 54)) (by simp))
 have F1:=hid (f1.alloc (.cells #[.int .i64 st,.int .i64 so,.int .i64 str,.bool br,.bool mkd,.int .i64 us,.int .i64 gen,.int .i64 ep,.int .i64 ver] 54))
 have hb1:=heap_alloc_new w1 (.cells #[.int .i64 st,.int .i64 so,.int .i64 str,.bool br,.bool mkd,.int .i64 us,.int .i64 gen,.int .i64 ep,.int .i64 ver] 54)
 have HB1:=hid hb1
 have hs1:=f1.size
 have h0s:0<w1.heap.size:=Nat.lt_of_lt_of_le (World.block_lt_of_cell? w _ (HG.out 0 _ rfl).1) f1.size
 have HLT:=hid hs1
 have HB0:=hid (show ¬0=w1.heap.size by omega)
 clear f1 hb1 hs1 h0s
 go_wp2_with fail
 generalize w1.heap.size=b at HB1 HLT HB0 ⊢
 generalize w1.alloc (.cells #[.int .i64 st,.int .i64 so,.int .i64 str,.bool br,.bool mkd,.int .i64 us,.int .i64 gen,.int .i64 ep,.int .i64 ver] 54)=w2 at HB1 HG1 F1 ⊢
 refine (HN.out _ HG1.out).mono ?_
 rintro e w3 ⟨rfl,f3⟩
 have hb3:=f3.at HB1.out (by simp)
 have HG3:=hid (HG1.out.fr f3 (by simp))
 have F3:=hid (F1.out.trans f3)
 have x0:w3.cell? ⟨b,0,none⟩=some (.int .i64 st):=cell_of hb3 rfl
 have u0:=Qa (i:=0) hb3
 have x1:w3.cell? ⟨b,1,none⟩=some (.int .i64 so):=cell_of hb3 rfl
 have u1:=Qa (i:=1) hb3
 have x2:w3.cell? ⟨b,2,none⟩=some (.int .i64 str):=cell_of hb3 rfl
 have u2:=Qa (i:=2) hb3
 have x3:w3.cell? ⟨b,3,none⟩=some (.bool br):=cell_of hb3 rfl
 have u3:=Qa (i:=3) hb3
 have x4:w3.cell? ⟨b,4,none⟩=some (.bool mkd):=cell_of hb3 rfl
 have u4:=Qa (i:=4) hb3
 have x5:w3.cell? ⟨b,5,none⟩=some (.int .i64 us):=cell_of hb3 rfl
 have u5:=Qa (i:=5) hb3
 have x6:w3.cell? ⟨b,6,none⟩=some (.int .i64 gen):=cell_of hb3 rfl
 have u6:=Qa (i:=6) hb3
 have x7:w3.cell? ⟨b,7,none⟩=some (.int .i64 ep):=cell_of hb3 rfl
 have u7:=Qa (i:=7) hb3
 have x8:w3.cell? ⟨b,8,none⟩=some (.int .i64 ver):=cell_of hb3 rfl
 have u8:=Qa (i:=8) hb3
 have HB3:=hid hb3
 clear hb3 f3
 cases co with
 |none=>
  rw [show (none:Option Q7).isSome=false from rfl,show (none:Option Q7).getD Xv=Xv from rfl]
  unfold Xv
  dsimp only
  have FE:=hid (((((((((((F3.out).setCell (p:=⟨b,0,none⟩) (.inr HLT.out) (.int .i64 0)).setCell (p:=⟨b,1,none⟩) (.inr HLT.out) (.int .i64 0)).setCell (p:=⟨b,2,none⟩) (.inr HLT.out) (.int .i64 0)).setCell (p:=⟨b,3,none⟩) (.inr HLT.out) (.bool false)).setCell (p:=⟨b,4,none⟩) (.inr HLT.out) (.bool false)).setCell (p:=⟨b,5,none⟩) (.inr HLT.out) (.int .i64 0)).setCell (p:=⟨b,6,none⟩) (.inr HLT.out) (.int .i64 0)).setCell (p:=⟨b,7,none⟩) (.inr HLT.out) (.int .i64 0)).setCell (p:=⟨b,8,none⟩) (.inr HLT.out) (.int .i64 0)))
  go_wp2
  go_ret2
  exact ⟨rfl,FE.out⟩
 |some t=>
  rw [show (some t:Option Q7).isSome=true from rfl,show (some t:Option Q7).getD Xv=t from rfl]
  have HET:=hid fun (w':World) (hg:Qe w' 0 Qc)=>HE.out t w' rfl hg
  clear HE HN HD
  obtain ⟨te,hte⟩:∃te,t.enc=te:=⟨_,rfl⟩
  rw [hte] at HET
  have HTE:=hid hte
  clear hte
  obtain ⟨tst,tso,tstr,tbr,tmkd,tus,tgen,tep,tver⟩:=t
  dsimp only at HET ⊢
  have FS:=hid (((((((((((Fr.refl [b] w3).sc b 0 (.int .i64 tst)).sc b 1 (.int .i64 tso)).sc b 2 (.int .i64 tstr)).sc b 3 (.bool tbr)).sc b 4 (.bool tmkd)).sc b 5 (.int .i64 tus)).sc b 6 (.int .i64 tgen)).sc b 7 (.int .i64 tep)).sc b 8 (.int .i64 tver)))
  have FE:=hid (((((((((((F3.out).setCell (p:=⟨b,0,none⟩) (.inr HLT.out) (.int .i64 tst)).setCell (p:=⟨b,1,none⟩) (.inr HLT.out) (.int .i64 tso)).setCell (p:=⟨b,2,none⟩) (.inr HLT.out) (.int .i64 tstr)).setCell (p:=⟨b,3,none⟩) (.inr HLT.out) (.bool tbr)).setCell (p:=⟨b,4,none⟩) (.inr HLT.out) (.bool tmkd)).setCell (p:=⟨b,5,none⟩) (.inr HLT.out) (.int .i64 tus)).setCell (p:=⟨b,6,none⟩) (.inr HLT.out) (.int .i64 tgen)).setCell (p:=⟨b,7,none⟩) (.inr HLT.out) (.int .i64 tep)).setCell (p:=⟨b,8,none⟩) (.inr HLT.out) (.int .i64 tver)))
  have HG4:=hid (HG3.out.fr FS.out (by simp;exact HB0.out))
  go_wp2_with fail
  refine (HET.out _ HG4.out).mono ?_
  rintro e w5 ⟨rfl,f5⟩
  have F5:=hid (FE.out.trans f5)
  clear f5
  go_wp2
  go_ret2
  exact ⟨by rw [←HTE.out];rfl,F5.out⟩
theorem YZ (w:World) (s:Q7) (d:Nat) (own:Int) (h:s.right) (hd:d<18) (o0:0≤own) (o1:own≤15) (hG:Qe w 0 Qc):
 Calls Tryz.prog 43 #[.int .i64 s.enc,.int .i64 (d:Int),.int .i64 own] w fun e w'=>e=.returned (.tuple #[.int .i64 (EK (Qj s d own 0)),.bool (Qj s d own 0).isSome])∧Fr [] w w':=by
 have HD:=hid fun (w':World) (hg:Qe w' 0 Qc)=>Je w' s h hg
 have HN:=hid fun (w':World) (hg:Qe w' 0 Qc)=>Yj w' s d own 0 h hd (by omega) (by omega) hg
 have HE:=hid fun (t:Q7) (w':World) (ht:Qj s d own 0=some t) (hg:Qe w' 0 Qc)=>XD w' t (Jz h ht) hg
 have HG:=hid hG
 clear h hG
 generalize s.enc=en at HD ⊢
 generalize Qj s d own 0=co at HN HE ⊢
 obtain ⟨st,so,str,br,mkd,us,gen,ep,ver⟩:=s
 unfold Q7.val at HD HN HE
 dsimp only at HD HN HE
 go_in
 go_wp2_with fail
 refine (HD.out _ HG.out).mono ?_
 rintro e w1 ⟨rfl,f1⟩
 have HG1:=hid (HG.out.fr (f1.alloc (.cells #[.int .i64 st,.int .i64 so,.int .i64 str,.bool br,.bool mkd,.int .i64 us,.int .i64 gen,.int .i64 ep,.int .i64 ver] 54)) (by simp))
 have F1:=hid (f1.alloc (.cells #[.int .i64 st,.int .i64 so,.int .i64 str,.bool br,.bool mkd,.int .i64 us,.int .i64 gen,.int .i64 ep,.int .i64 ver] 54))
 have hb1:=heap_alloc_new w1 (.cells #[.int .i64 st,.int .i64 so,.int .i64 str,.bool br,.bool mkd,.int .i64 us,.int .i64 gen,.int .i64 ep,.int .i64 ver] 54)
 have HB1:=hid hb1
 have hs1:=f1.size
 have h0s:0<w1.heap.size:=Nat.lt_of_lt_of_le (World.block_lt_of_cell? w _ (HG.out 0 _ rfl).1) f1.size
 have HLT:=hid hs1
 have HB0:=hid (show ¬0=w1.heap.size by omega)
 clear f1 hb1 hs1 h0s
 go_wp2_with fail
 generalize w1.heap.size=b at HB1 HLT HB0 ⊢
 generalize w1.alloc (.cells #[.int .i64 st,.int .i64 so,.int .i64 str,.bool br,.bool mkd,.int .i64 us,.int .i64 gen,.int .i64 ep,.int .i64 ver] 54)=w2 at HB1 HG1 F1 ⊢
 refine (HN.out _ HG1.out).mono ?_
 rintro e w3 ⟨rfl,f3⟩
 have hb3:=f3.at HB1.out (by simp)
 have HG3:=hid (HG1.out.fr f3 (by simp))
 have F3:=hid (F1.out.trans f3)
 have x0:w3.cell? ⟨b,0,none⟩=some (.int .i64 st):=cell_of hb3 rfl
 have u0:=Qa (i:=0) hb3
 have x1:w3.cell? ⟨b,1,none⟩=some (.int .i64 so):=cell_of hb3 rfl
 have u1:=Qa (i:=1) hb3
 have x2:w3.cell? ⟨b,2,none⟩=some (.int .i64 str):=cell_of hb3 rfl
 have u2:=Qa (i:=2) hb3
 have x3:w3.cell? ⟨b,3,none⟩=some (.bool br):=cell_of hb3 rfl
 have u3:=Qa (i:=3) hb3
 have x4:w3.cell? ⟨b,4,none⟩=some (.bool mkd):=cell_of hb3 rfl
 have u4:=Qa (i:=4) hb3
 have x5:w3.cell? ⟨b,5,none⟩=some (.int .i64 us):=cell_of hb3 rfl
 have u5:=Qa (i:=5) hb3
 have x6:w3.cell? ⟨b,6,none⟩=some (.int .i64 gen):=cell_of hb3 rfl
 have u6:=Qa (i:=6) hb3
 have x7:w3.cell? ⟨b,7,none⟩=some (.int .i64 ep):=cell_of hb3 rfl
 have u7:=Qa (i:=7) hb3
 have x8:w3.cell? ⟨b,8,none⟩=some (.int .i64 ver):=cell_of hb3 rfl
 have u8:=Qa (i:=8) hb3
 have HB3:=hid hb3
 clear hb3 f3
 cases co with
 |none=>
  rw [show (none:Option Q7).isSome=false from rfl,show (none:Option Q7).getD Xv=Xv from rfl]
  unfold Xv
  dsimp only
  have FE:=hid (((((((((((F3.out).setCell (p:=⟨b,0,none⟩) (.inr HLT.out) (.int .i64 0)).setCell (p:=⟨b,1,none⟩) (.inr HLT.out) (.int .i64 0)).setCell (p:=⟨b,2,none⟩) (.inr HLT.out) (.int .i64 0)).setCell (p:=⟨b,3,none⟩) (.inr HLT.out) (.bool false)).setCell (p:=⟨b,4,none⟩) (.inr HLT.out) (.bool false)).setCell (p:=⟨b,5,none⟩) (.inr HLT.out) (.int .i64 0)).setCell (p:=⟨b,6,none⟩) (.inr HLT.out) (.int .i64 0)).setCell (p:=⟨b,7,none⟩) (.inr HLT.out) (.int .i64 0)).setCell (p:=⟨b,8,none⟩) (.inr HLT.out) (.int .i64 0)))
  go_wp2
  go_ret2
  exact ⟨rfl,FE.out⟩
 |some t=>
  rw [show (some t:Option Q7).isSome=true from rfl,show (some t:Option Q7).getD Xv=t from rfl]
  have HET:=hid fun (w':World) (hg:Qe w' 0 Qc)=>HE.out t w' rfl hg
  clear HE HN HD
  obtain ⟨te,hte⟩:∃te,t.enc=te:=⟨_,rfl⟩
  rw [hte] at HET
  have HTE:=hid hte
  clear hte
  obtain ⟨tst,tso,tstr,tbr,tmkd,tus,tgen,tep,tver⟩:=t
  dsimp only at HET ⊢
  have FS:=hid (((((((((((Fr.refl [b] w3).sc b 0 (.int .i64 tst)).sc b 1 (.int .i64 tso)).sc b 2 (.int .i64 tstr)).sc b 3 (.bool tbr)).sc b 4 (.bool tmkd)).sc b 5 (.int .i64 tus)).sc b 6 (.int .i64 tgen)).sc b 7 (.int .i64 tep)).sc b 8 (.int .i64 tver)))
  have FE:=hid (((((((((((F3.out).setCell (p:=⟨b,0,none⟩) (.inr HLT.out) (.int .i64 tst)).setCell (p:=⟨b,1,none⟩) (.inr HLT.out) (.int .i64 tso)).setCell (p:=⟨b,2,none⟩) (.inr HLT.out) (.int .i64 tstr)).setCell (p:=⟨b,3,none⟩) (.inr HLT.out) (.bool tbr)).setCell (p:=⟨b,4,none⟩) (.inr HLT.out) (.bool tmkd)).setCell (p:=⟨b,5,none⟩) (.inr HLT.out) (.int .i64 tus)).setCell (p:=⟨b,6,none⟩) (.inr HLT.out) (.int .i64 tgen)).setCell (p:=⟨b,7,none⟩) (.inr HLT.out) (.int .i64 tep)).setCell (p:=⟨b,8,none⟩) (.inr HLT.out) (.int .i64 tver)))
  have HG4:=hid (HG3.out.fr FS.out (by simp;exact HB0.out))
  go_wp2_with fail
  refine (HET.out _ HG4.out).mono ?_
  rintro e w5 ⟨rfl,f5⟩
  have F5:=hid (FE.out.trans f5)
  clear f5
  go_wp2
  go_ret2
  exact ⟨by rw [←HTE.out];rfl,F5.out⟩
end
end Go.Proofs.YtgjklfmnmljilaaGreatDoor

/- A part of the proof: TpN to TwTP. -/
import Derived.Test.YtgjklfmnmljilaaGreatDoorZT03
import Derived.Test.YtgjklfmnmljilaaGreatDoorZT13
import Derived.Test.YtgjklfmnmljilaaGreatDoorZT14
import Derived.Test.YtgjklfmnmljilaaGreatDoorZT21
import Derived.Laws.CopyOwn
namespace Go.Proofs.YtgjklfmnmljilaaGreatDoor
set_option linter.unusedVariables false
set_option linter.unusedSimpArgs false
set_option linter.unusedSectionVars false
set_option linter.unnecessarySimpa false
set_option maxRecDepth 100000
set_option maxHeartbeats 8000000
section
structure XL where
 op:Int
 dl:Int
 wait:Bool
 force:Bool
 slot:Int
 gen:Int
 stream:Int
deriving DecidableEq
def K8:XL:=⟨0,0,false,false,0,0,0⟩
structure EvV where
 ended:Bool
 who:Int
 at_:Int
 ask:XL
 e:Int
 slot:Int
 gen:Int
 stream:Int
 cI:Int
 cL:Int
 cE:Int
 cO:Int
deriving DecidableEq
def ev0:EvV:=⟨false,0,0,K8,0,0,0,0,0,0,0,0⟩
structure QF where
 kind:Int
 who:Int
 ask:XL
 n:Int
 good:Bool
structure Tw2 where
 r:List Int
 l:List Int
 n:Int
 d:Bool
def Y4:Tw2:=⟨[],[],0,false⟩
def QC (c:Q0) (s:Tw2) (M:List Int):Tw2:=
 if s.d then s
 else
  let x:=Q7 M (c.slot s.r.length)
  if ((s.r++[x]).length:Int)<c.sl then {s with r:=s.r++[x]} else ⟨[],s.r++[x],s.n+1,decide (0<s.n)&&decide (s.r++[x]=s.l)⟩
def Tw2.words (s:Tw2):List Int:=if s.d then s.l else []
def Gt (word:Int):Bool:=match dec word with|some s=>decide (s.st=0)|none=>true
def Gs (word:Int):Bool:=match dec word with|some s=>decide (s.st=2)|none=>false
def Gq (word:Int):Bool:=match dec word with|some s=>decide (s.st=3)|none=>false
def J3 (L:List Int) (f:Int→Bool):Int:=((L.filter f).length:Nat)
def UG (word:Int):Bool:= !Gt word&& !Gs word&& !Gq word
structure QM where
 st:Int
 many:Int
 look:Qi
 ret:Option J4
def QM.rt (t:QM):J4:=t.ret.getD ⟨0,0,0,.done,false,false⟩
def Z5 (who:Int):QM:=⟨0,0,QE 6 who 0,none⟩
def QM.J5 (r:QM):QM:={r with look:=r.look.go,st:=0}
inductive Yw where
 |none
 |get (t:Qe)
 |give (g:Qy)
 |strm (s:QI)
 |reap (r:QM)
 |close (force:Bool) (drain:Option QuS)
 |stats (t:Tw2)
structure Qa where
 st:Int
 ask:XL
 half:Bool
 word:Int
 grant:Int
 work:Yw
 tw:Option Tw2
 qu:Option QuS
 ti:Option Qh
 parks:Bool
 timed:Bool
 ans:EvV
def Jd:Qa:=⟨0,K8,false,0,0,.none,none,none,none,false,false,ev0⟩
structure Qb where
 c:Q0
 M:List Int
 now:Int
 ahead:List Bool
 good:Int
 bad:Int
 evs:List EvV
 ws:List Qa
 entries:Int
 at_:Int
def Qb.wk (m:Qb) (k:Nat):Qa:=m.ws.getD k Jd
def Qb.setW (m:Qb) (k:Nat) (x:Qa):Qb:={m with ws:=m.ws.set k x}
def Qb.Qs (m:Qb):Qb×Bool:=
 let g:=m.ahead.headD true
 ({m with ahead:=m.ahead.tail,good:=if g then m.good+1 else m.good,bad:=if g then m.bad else m.bad+1},g)
def Qa.QU (k:Qa) (who:Int) (parks:Bool):Qa:={k with ti:=some (QG who),parks:=parks,st:=5}
def Qa.end_ (k:Qa) (who:Int) (ans:EvV):Qa:={k with ans:=ans}.QU who false
def XU (who:Int):QuS:=⟨who,[],0,.come,0,0⟩
def Jc (who:Int):QuS:=⟨who,[],0,.look,4,0⟩
def XV:QuS:=⟨0,[],0,.head,0,0⟩
def QSt.isDone:QSt→Bool
 |.done=>true
 |_=>false
def JD (opens:Bool) (who slot gen n:Int):QI:=⟨opens,who,slot,gen,n,0,0,0,0,0⟩
def Kq (c:Q0) (who:Int) (k:Qa):Yw:=
 if k.ask.op=0 then (if 0<k.grant then .get (QW who (k.grant - 1)) else .get (J8 who))
 else if k.ask.op=1 then .give (Ju who k.ask.slot k.ask.gen false)
 else if k.ask.op=2 then .give (Ju who k.ask.slot k.ask.gen true)
 else if k.ask.op=3 then .strm (JD true who k.ask.slot k.ask.gen 0)
 else if k.ask.op=4 then .strm (JD false who k.ask.slot k.ask.gen k.ask.stream)
 else if k.ask.op=5 then .reap (Z5 who)
 else if k.ask.op=6 then .close k.ask.force none
 else .stats Y4
def ZX (k:Qa) (c:Q0) (who:Int) (M:List Int):Qa×List Int:=
 if k.half=false then ({k with word:=Q7 M 2,half:=true},M)
 else ({k with half:=false,work:=Kq c who k,st:=2},Qz M (3+who) (k.word+1))
def XD (m:Qb) (who:Nat) (t:Qe):Qb:=
 let k:=m.wk who
 let (m1,good):=if t.st=9 then m.Qs else (m,false)
 let (t',M'):=Qg m.c t m.M good
 let m2:={m1 with M:=M'}
 let k1:={k with work:=.get t'}
 if t'.st=15 then
  (if t'.e=3 then
    (if k.ask.wait then m2.setW who {k1 with qu:=some (XU who),st:=4} else m2.setW who {k1 with tw:=some Y4,st:=3})
  else m2.setW who (k1.end_ who (if t'.e=0 then {ev0 with slot:=t'.i,gen:=t'.gen} else {ev0 with e:=t'.e})))
 else m2.setW who k1
def QY (m:Qb) (who:Nat) (r:QM):Qb:=
 let k:=m.wk who
 if r.st=0 then
  let (f,fend):=Qx m.c r.look m.M
  if f.found then m.setW who {k with work:=.reap {r with look:=f,st:=1}}
  else if fend then m.setW who ({k with work:=.reap {r with look:=f}}.end_ who {ev0 with slot:=r.many})
  else m.setW who {k with work:=.reap {r with look:=f}}
 else if r.st=1 then
  let s:=(dec r.look.word).getD ⟨0,0,0,false,false,0,0,0,0⟩
  let (m1,good):=m.Qs
  if good&& !s.mkd&& !s.br then m1.setW who {k with work:=.reap {r with st:=2}}
  else m1.setW who {k with work:=.reap {r with ret:=some (Ji m.c r.look.at_ r.look.word),st:=3}}
 else if r.st=2 then
  let M':=match J6 r.look.word 10 who 0 with|some (_,next)=>QL m.M (Q5 m.c r.look.at_) r.look.word next|none=>m.M
  {m with M:=M'}.setW who {k with work:=.reap r.J5}
 else
  let (t,M'):=Qn r.rt m.M
  let r1:={r with ret:=some t}
  {m with M:=M'}.setW who {k with work:=.reap (if t.done then {r1 with many:=if t.swapped then r.many+1 else r.many}.J5 else r1)}
def Jb (m:Qb) (who:Nat):Qb:=
 let k:=m.wk who
 match k.work with
 |.none=>m
 |.get t=>XD m who t
 |.give g=>
  let (g',M'):=Qt m.c g m.M
  {m with M:=M'}.setW who (if g'.st=4 then {k with work:=.give g'}.end_ who {ev0 with e:=g'.e} else {k with work:=.give g'})
 |.strm s=>
  let (s',M'):=Qu m.c s m.M
  {m with M:=M'}.setW who (if s'.st=3 then {k with work:=.strm s'}.end_ who {ev0 with e:=s'.e,stream:=if s'.e=0 then s'.stream else 0} else {k with work:=.strm s'})
 |.reap r=>QY m who r
 |.close force drain=>
  (match drain with
  |some q=>
   let (q',M'):=Qp m.c q m.M
   {m with M:=M'}.setW who (if q'.nx.isDone then {k with work:=.close force (some q')}.end_ who ev0 else {k with work:=.close force (some q')})
  |none=>{m with M:=if force then Qz m.M 0 2 else QL m.M 0 0 1}.setW who {k with work:=.close force (some XV)})
 |.stats t=>
  let t':=QC m.c t m.M
  m.setW who (if t'.d then {k with work:=.stats t'}.end_ who {ev0 with cI:=J3 t'.l Gs,cL:=J3 t'.l Gq,cE:=J3 t'.l Gt,cO:=J3 t'.l UG} else {k with work:=.stats t'})
def XC (m:Qb) (who:Nat):Qb:=
 let k:=m.wk who
 let t':=QC m.c (k.tw.getD Y4) m.M
 let k1:={k with tw:=some t'}
 if t'.d then
  (if t'.l.any (fun x=>Jy x 3 who) then m.setW who {k1 with work:=.get (J8 who),st:=2} else m.setW who (k1.end_ who {ev0 with e:=3}))
 else m.setW who k1
def XB (m:Qb) (who:Nat):Qb:=
 let k:=m.wk who
 let (q',M'):=Qp m.c (k.qu.getD (XU who)) m.M
 let k1:={k with qu:=some q'}
 {m with M:=M'}.setW who
  (if q'.nx.isDone then (if q'.e≠0∧q'.e≠8 then k1.end_ who {ev0 with e:=q'.e} else {k1 with timed:=decide (q'.e=0)}.QU who true) else k1)
def Xp (m:Qb) (who:Nat):Qb:=
 let k:=m.wk who
 let (t',M'):=Qk m.c (k.ti.getD (QG who)) m.M
 let k1:={k with ti:=some t'}
 let m1:={m with M:=M'}
 if t'.st=17 then
  (if k.parks then m1.setW who {k1 with st:=6}
  else {m1 with evs:=m.evs++[{k.ans with ended:=true,who:=who,at_:=m.at_,ask:=k.ask}]}.setW who {k1 with st:=0})
 else m1.setW who k1
def Xc (m:Qb) (who:Nat):Qb:=
 let k:=m.wk who
 let cell:=3+m.c.wo+(who:Int)
 if k.half=false then m.setW who {k with word:=Q7 m.M cell,half:=true}
 else
  let m1:={m with M:=Qz m.M cell 0}
  let k1:={k with half:=false}
  if k.word<0 then m1.setW who (k1.end_ who {ev0 with e:=5}) else m1.setW who {k1 with grant:=k.word,st:=1}
def JW (m:Qb) (who:Nat):Qb:=
 let k:=m.wk who
 let (q',M'):=Qp m.c (k.qu.getD (Jc who)) m.M
 let k1:={k with qu:=some q'}
 {m with M:=M'}.setW who
  (if q'.nx.isDone then (if q'.e=8 then {k1 with timed:=false,st:=6} else k1.end_ who {ev0 with e:=q'.e}) else k1)
def ZM (m:Qb) (who:Nat):Bool:=decide (Q7 m.M (3+m.c.wo+(who:Int))≠0)
def Z6 (m:Qb) (who:Nat):Qb:=
 let k:=m.wk who
 if ZM m who then Xc (m.setW who {k with st:=7}) who
 else JW (m.setW who {k with qu:=some (Jc who),st:=8}) who
def Xx (m:Qb) (who:Nat):Bool:=ZM m who||((m.wk who).timed&&decide ((m.wk who).ask.dl≤m.now))
def QJ (m:Qb) (who:Nat):Qb:=
 let k:=m.wk who
 if k.st=1 then (let (k',M'):=ZX k m.c who m.M;{m with M:=M'}.setW who k')
 else if k.st=2 then Jb m who
 else if k.st=3 then XC m who
 else if k.st=4 then XB m who
 else if k.st=5 then Xp m who
 else if k.st=6 then Z6 m who
 else if k.st=7 then Xc m who
 else if k.st=8 then JW m who
 else m
def Qb.has (m:Qb) (w:Int):Bool:=decide (0≤w)&&decide (w<m.ws.length)
def KW (m:Qb) (w:Int):Qb×Bool:=
 if m.has w then
  let k:=m.wk w.toNat
  if k.st=0∨(k.st=6∧Xx m w.toNat=false) then (m,false) else (QJ m w.toNat,true)
 else (m,false)
def YA (m:Qb) (x:QF):Qb×Bool:=
 if m.has x.who=true∧(m.wk x.who.toNat).st=0∧m.evs.length<1999∧0≤x.ask.op∧x.ask.op<8 then
  ({m with evs:=m.evs++[{ev0 with who:=x.who,at_:=m.at_,ask:=x.ask}]}.setW x.who.toNat {Jd with st:=1,ask:=x.ask},true)
 else (m,false)
def YD (m:Qb) (i:Int):Qb×Bool:=
 if Q5 m.c i<0 then (m,false)
 else match J6 (Q7 m.M (Q5 m.c i)) 13 0 0 with
  |some (_,next)=>({m with M:=Qz m.M (Q5 m.c i) next},true)
  |none=>(m,false)
def doV (m:Qb) (x:QF):Qb×Bool:=
 let m:={m with at_:=m.entries,entries:=m.entries+1}
 if x.kind=0 then YA m x
 else if x.kind=1 then KW m x.who
 else if x.kind=2 then ({m with now:=m.now+min (max x.n 0) (1099511627776 - m.now)},true)
 else if x.kind=3 then (if m.ahead.length<1000 then ({m with ahead:=m.ahead++[x.good]},true) else (m,false))
 else if x.kind=4 then YD m x.ask.slot
 else (m,false)
def QH (c:Q0):Qb:=⟨c,List.replicate c.cells.toNat 0,0,[],0,0,[],List.replicate c.wo.toNat Jd,0,0⟩
end
section
open Go.RowKit Go.Shelf Go.Lib
attribute [local go_sem] Oper.semAt_some
def Gx (w:World) (p b1 b2 pm qm:Nat) (fn:FuncId) (c:Q0) (n:Int) (x:QI×List Int) (e:Ending) (w':World):Prop:=
 e=.returned (.bool (decide (x.1.st=3)))∧Vm w' p b1 b2 fn c x.1∧Ql w' pm qm x.2 (n+1)∧Fr [p,pm,qm] w w'
theorem Q8B (c:Q0) (g:QI) (M:List Int) (hst:g.st=0):Qu c g M=(if Q7 M 0=2 then {g with st:=1}.end_ 5 else {g with st:=1},M):=by
 unfold Qu;rw [if_pos hst]
theorem Q8A (c:Q0) (g:QI) (M:List Int) (hst:g.st=2):Qu c g M=(if Qv M (Q5 c g.i) g.word then ({g with st:=1}.end_ 0,QL M (Q5 c g.i) g.word g.next) else ({g with st:=1},M)):=by
 unfold Qu;rw [if_neg (by omega),if_neg (by omega),if_pos hst]
theorem Q2g (w:World) (p b1 b2 pm qm:Nat) (fn:FuncId) (c:Q0) (g:QI) (M:List Int) (n:Int) (hb:Vm w p b1 b2 fn c g) (hf:Wt w p b1 b2 pm qm) (hM:Ql w pm qm M n) (hn:n≤1000000000) (hst:g.st=0):
 Calls Tryz.prog 150 #[.pointer (some ⟨p,0,none⟩),.pointer (some ⟨pm,0,none⟩)] w (Gx w p b1 b2 pm qm fn c n (Qu c g M)):=by
 have HL:=hid fun w' h=>Za w' pm qm M n 0 h hn
 generalize hX:Qu c g M=X
 rw [Q8B c g M hst] at hX
 have B:=hf.bag hb hM
 have HX:=hid hX
 clear hX hf hM hb
 obtain ⟨wo,sl,sst,wa,us⟩:=c
 obtain ⟨gop,gw,gi,ggen,gn,gst,gword,gnext,gstr,ge⟩:=g
 dsimp only at hst B
 subst hst
 have q:=B.q 0;have u:=B.u 0
 go_in
 go_wp2_with fail
 clear q u
 generalize hw:World.setCell _ _ _=w1
 replace B:=(B.s 0).e hw
 refine (HL.out _ (B.g 1)).mono ?_
 rintro e w2 ⟨rfl,h,f⟩
 replace B:=B.M h f
 by_cases h2:Q7 M 0=2
 · go_wp2_with fail
   refine (Uh B 5).mono ?_
   rintro e w3 ⟨rfl,B⟩
   have q:=B.q 0
   go_wp2
   go_ret
   have hx:=HX.out
   simp [*] at hx
   subst hx
   exact ⟨rfl,B.g 0,Ql.mono (B.g 1) (by omega),B.fr⟩
 · have q:=B.q 0
   go_wp2
   go_ret
   have hx:=HX.out
   simp [*] at hx
   subst hx
   exact ⟨rfl,B.g 0,Ql.mono (B.g 1) (by omega),B.fr⟩
theorem Q2f (w:World) (p b1 b2 pm qm:Nat) (fn:FuncId) (c:Q0) (g:QI) (M:List Int) (n:Int) (hb:Vm w p b1 b2 fn c g) (hf:Wt w p b1 b2 pm qm) (hM:Ql w pm qm M n) (hn:n≤1000000000) (hst:g.st=2) (hc:c.fits):
 Calls Tryz.prog 150 #[.pointer (some ⟨p,0,none⟩),.pointer (some ⟨pm,0,none⟩)] w (Gx w p b1 b2 pm qm fn c n (Qu c g M)):=by
 have HSL:=hid fun w'=>J2 w' c g.i hc
 have HC:=hid fun w' h=>UH w' pm qm M n (Q5 c g.i) g.word g.next h hn
 have hno:=fun h=>K4 (M:=M) (i:=Q5 c g.i) (o:=g.word) (v:=g.next) h
 generalize hX:Qu c g M=X
 rw [Q8A c g M hst] at hX
 have B:=hf.bag hb hM
 have HX:=hid hX
 clear hX hf hM hb
 obtain ⟨wo,sl,sst,wa,us⟩:=c
 obtain ⟨gop,gw,gi,ggen,gn,gst,gword,gnext,gstr,ge⟩:=g
 dsimp only [Q0.val] at hst B HSL HC hno
 subst hst
 have q:=B.q 0;have u:=B.u 0
 go_in
 go_wp2_with fail
 clear q u
 generalize hw:World.setCell _ _ _=w1
 replace B:=(B.s 0).e hw
 refine rgx [0] B fun _ B=> ?_
 iterate 9 refine tb ?_
 refine tj 10 ?_
 refine tj 11 ?_
 refine tj 12 ?_
 refine tj 13 ?_
 refine tj 14 ?_
 refine tj 15 ?_
 refine tj 16 ?_
 refine tj 17 ?_
 refine tc 9 fun K hK=> ?_
 go_simp
 refine (HSL.out _).mono ?_
 rintro e w2 ⟨rfl,f⟩
 replace B:=B.tm f
 go_wp2_with fail
 refine bk hK ?_
 clear hK K
 try go_frame
 refine to fun K hK=> ?_
 go_simp
 refine (HC.out _ (B.g 1)).mono ?_
 rintro e w3 ⟨rfl,h,f⟩
 replace B:=B.M h f
 go_wp2_with fail
 refine bk hK ?_
 clear hK K
 try go_frame
 refine wpAnyH_done (by decide+kernel) ?_ _
 rcases (by cases Qv M (Q5 ⟨wo,sl,sst,wa,us⟩ gi) gword<;>simp:Qv M (Q5 ⟨wo,sl,sst,wa,us⟩ gi) gword=true∨Qv M (Q5 ⟨wo,sl,sst,wa,us⟩ gi) gword=false) with h2|h2
 · rw [h2]
   go_wp2_with fail
   refine (Uh B 0).mono ?_
   rintro e w3 ⟨rfl,B⟩
   have q:=B.q 0
   go_wp2
   go_ret
   have hx:=HX.out
   simp [*] at hx
   subst hx
   exact ⟨rfl,B.g 0,Ql.mono (B.g 1) (by omega),B.fr⟩
 · rw [h2]
   rw [hno h2] at B
   have q:=B.q 0
   go_wp2
   go_ret
   have hx:=HX.out
   simp [*] at hx
   subst hx
   exact ⟨rfl,B.g 0,Ql.mono (B.g 1) (by omega),B.fr⟩
theorem Q2h (w:World) (p b1 b2 pm qm:Nat) (fn:FuncId) (c:Q0) (g:QI) (M:List Int) (n:Int) (X:QI) (hb:Vm w p b1 b2 fn c g) (hst:g.st=1)
 (hC:Calls Tryz.prog 212 #[.pointer (some ⟨p,0,none⟩),.pointer (some ⟨pm,0,none⟩)] w (Q3o w p b1 b2 pm qm fn c n X M)):
 Calls Tryz.prog 150 #[.pointer (some ⟨p,0,none⟩),.pointer (some ⟨pm,0,none⟩)] w (Gx w p b1 b2 pm qm fn c n (X,M)):=by
 have HC:=hid hC
 clear hC
 obtain ⟨wo,sl,sst,wa,us⟩:=c
 obtain ⟨gop,gw,gi,ggen,gn,gst,gword,gnext,gstr,ge⟩:=g
 unfold Vm at hb
 dsimp only at hst hb
 subst hst
 have q8:=cl 8 hb
 clear hb
 go_in
 go_wp2_with fail
 refine HC.out.mono ?_
 rintro e w2 ⟨rfl,hb2,hm2,f2⟩
 have HX:RowKit.Hid (Gx w p b1 b2 pm qm fn ⟨wo,sl,sst,wa,us⟩ n (X,M) (.returned (.bool (decide (X.st=3)))) w2):=hid ⟨rfl,hb2,hm2,f2⟩
 clear hm2 f2
 unfold Vm at hb2
 generalize X.st=xs at HX hb2
 have r8:=cl 8 hb2
 clear hb2 q8
 by_cases h4:xs=3
 · subst h4
   go_wp2
   go_ret
   exact HX.out
 · rw [decide_eq_false h4] at HX
   go_wp2
   go_ret
   first
   |exact HX.out
   |(rw [show (xs==3)=false by simp [h4]];exact HX.out)
def VQ (w:World) (b1 b2:Nat) (fn:FuncId) (c:Q0) (g:QI):Prop:=w.heap[b1]?=some (.cells #[.int .i64 g.w] 3 (0,0))∧
 (if g.opens=true then fn=152∧w.heap[b2]?=some (.cells #[.int .i64 c.wo,.int .i64 c.sl,.int .i64 c.st,.int .i64 c.wa,.int .i64 c.us] 30 (0,0)) else fn=153∧w.heap[b2]?=some (.cells #[.int .i64 g.n] 3 (0,0)))
theorem VQ.ov {w w':World} {b1 b2:Nat} {fn:FuncId} {c:Q0} {g:QI} (h:VQ w b1 b2 fn c g) {S:List Nat} (f:Fr S w w') (h1:b1∉S) (h2:b2∉S):VQ w' b1 b2 fn c g:=by
 obtain ⟨a,b⟩:=h
 refine ⟨f.at a h1, ?_⟩
 split at b
 · rename_i hg;rw [if_pos hg];exact ⟨b.1,f.at b.2 h2⟩
 · rename_i hg;rw [if_neg hg];exact ⟨b.1,f.at b.2 h2⟩
theorem VQ.of {w:World} {b1 b2:Nat} {fn:FuncId} {c:Q0} {g g':QI} (h:VQ w b1 b2 fn c g) (h1:g'.opens=g.opens) (h2:g'.w=g.w) (h3:g'.n=g.n):VQ w b1 b2 fn c g':=by
 unfold VQ at*
 rw [h1,h2,h3];exact h
theorem Q5O {c:Q0} {g:QI} {s:Q8} (hs:s.right) (h:(Gu c g s).2=0):(Gu c g s).1.right:=by
 unfold Gu Q5P Q1L at*
 split at h
 · rename_i hg
   rw [if_pos hg]
   split at h
   · cases h
   · rename_i hb
     rw [if_neg hb]
     cases hn:Qj s 14 g.w c.st with
     |none=>rw [hn] at h;cases h
     |some u=>exact Jw hs hn
 · rename_i hg
   rw [if_neg hg]
   cases hn:Qj s 15 g.w g.n with
   |none=>rw [hn] at h;cases h
   |some u=>exact Jw hs hn
theorem Q9z {w:World} {b1 b2:Nat} {fn:FuncId} {c:Q0} {g:QI} (h:VQ w b1 b2 fn c g) (o0:0≤g.w) (o1:g.w≤15):∃O1 O2,w.heap[b1]?=some O1∧w.heap[b2]?=some O2∧(∀(args:Array Value) (wx:World),(callFunc fn args).run Tryz.prog wx=.ok (.enter fn args) wx)∧∀s:Q8,s.right→Q89 fn b1 b2 O1 O2 s (Gu c g s):=by
 obtain ⟨a,b⟩:=h
 unfold Gu
 split at b
 · obtain ⟨rfl,b⟩:=b
   rename_i hg
   refine ⟨_,_,a,b,fun args wx=>Qr Tryz.func152 (by kernel_rfl) rfl args wx,fun s hs w' e1 e2 hG=> ?_⟩
   rw [if_pos hg]
   exact Q2k w' s c g.w b1 b2 hs o0 o1 e1 e2 hG
 · obtain ⟨rfl,b⟩:=b
   rename_i hg
   refine ⟨_,_,a,b,fun args wx=>Qr Tryz.func153 (by kernel_rfl) rfl args wx,fun s hs w' e1 e2 hG=> ?_⟩
   rw [if_neg hg]
   exact Q2i w' s g.n g.w b1 b2 hs o0 o1 e1 e2 hG
theorem sn_mem (c:Q0) (g:QI) (M:List Int) (hst:g.st=1):Qu c g M=((Qu c g M).1,M):=by
 rw [EA c g M hst]
structure QI.ok (g:QI):Prop where
 s0:0≤g.st
 s1:g.st≤3
 w0:0≤g.w
 w1:g.w≤15
theorem Q4u (w:World) (p b1 b2 pm qm:Nat) (fn:FuncId) (c:Q0) (g:QI) (M:List Int) (n:Int) (hb:Vm w p b1 b2 fn c g) (hf:Wt w p b1 b2 pm qm) (hcp:VQ w b1 b2 fn c g) (hM:Ql w pm qm M n) (hn:n≤1000000000) (hok:g.ok) (hlive:g.st≠3) (hS:JX c M) (hc:c.fits) (hG:Qf w 0 Qc) (hTZ:Vo w) (h2p:2<p∧2<pm∧2<qm):
 Calls Tryz.prog 150 #[.pointer (some ⟨p,0,none⟩),.pointer (some ⟨pm,0,none⟩)] w (Gx w p b1 b2 pm qm fn c n (Qu c g M)):=by
 have h0:=hok.s0;have h1:=hok.s1
 rcases (by omega:g.st=0∨g.st=1∨g.st=2) with h|h|h
 · exact Q2g w p b1 b2 pm qm fn c g M n hb hf hM hn h
 · rw [sn_mem c g M h]
   refine Q2h w p b1 b2 pm qm fn c g M n _ hb h ?_
   obtain ⟨O1,O2,e1,e2,hcf,hbec⟩:=Q9z hcp hok.w0 hok.w1
   by_cases hneg:Q5 c g.i<0
   · exact EB w p b1 b2 pm qm fn O1 O2 c g M n hb hf e1 e2 hM hn h hc hneg
   · obtain ⟨a,b,e⟩:=GJ hc (by omega:0≤Q5 c g.i)
     obtain ⟨s,hs,hld⟩:=hS g.i a b
     exact EC w p b1 b2 pm qm fn O1 O2 c g M n hb hf e1 e2 hM hn s (Gu c g s).1 (Gu c g s).2 h hc (by omega) hs (by rw [e];exact hld) rfl (fun _=>hbec s hs) (Q5O hs) hcf hG hTZ h2p
 · exact Q2f w p b1 b2 pm qm fn c g M n hb hf hM hn h hc
theorem Q0H (w:World) (p b1 b2:Nat) (fn:FuncId) (c:Q0) (g:QI) (hb:Vm w p b1 b2 fn c g) (hst:g.st=3):
 Calls Tryz.prog 151 #[.pointer (some ⟨p,0,none⟩)] w fun e w'=>e=.returned (.tuple #[.int .i64 g.e,.int .i64 (if g.e=0 then g.stream else 0),.bool true])∧Fr [] w w':=by
 unfold Vm at hb
 rw [hst] at hb
 have q8:=cl 8 hb;have q13:=cl 13 hb;have q11:=cl 11 hb
 clear hb
 generalize g.e=en at*
 generalize g.stream=gs at*
 by_cases he:en=0
 · subst he
   go_in
   go_wp2_with fail
   go_region
   all_goals go_wp2
   all_goals go_ret3
   all_goals exact ⟨rfl,(Fr.refl [] w).drew⟩
 · rw [if_neg he]
   have hen:(en != 0)=true:=by simp [he]
   go_in
   go_wp2
   go_ret3
   exact ⟨rfl,Fr.refl [] w⟩
def SNew (w:World) (c:Q0) (g:QI) (e:Ending) (w':World):Prop:=∃p b1 b2 fn,e=.returned (.pointer (some ⟨p,0,none⟩))∧w.heap.size≤p∧w.heap.size≤b1∧w.heap.size≤b2∧p≠b1∧p≠b2∧b1≠b2∧Vm w' p b1 b2 fn c g∧VQ w' b1 b2 fn c g∧Fr [] w w'
theorem Q4x (w:World) (c:Q0) (who i gen n:Int):Calls Tryz.prog 101 #[c.val,.int .i64 who,.int .i64 i,.int .i64 gen] w (SNew w c (JD true who i gen n)):=by
 obtain ⟨wo,sl,sst,wa,us⟩:=c
 unfold Q0.val
 dsimp only
 have h0:=heap_alloc_new w (.cells #[.int .i64 wo,.int .i64 sl,.int .i64 sst,.int .i64 wa,.int .i64 us] 30 (0,0))
 have h1:=heap_alloc_new (w.alloc (.cells #[.int .i64 wo,.int .i64 sl,.int .i64 sst,.int .i64 wa,.int .i64 us] 30 (0,0))) (.cells #[.int .i64 who] 3 (0,0))
 have h2:=heap_alloc_new ((w.alloc (.cells #[.int .i64 wo,.int .i64 sl,.int .i64 sst,.int .i64 wa,.int .i64 us] 30 (0,0))).alloc (.cells #[.int .i64 who] 3 (0,0))) (.cells #[.int .i64 wo,.int .i64 sl,.int .i64 sst,.int .i64 wa,.int .i64 us,.int .i64 who,.int .i64 i,.int .i64 gen,.int .i64 0,.int .i64 0,.int .i64 0,.int .i64 0,.func (.func 152) #[] #[.pointer (some ⟨w.heap.size+1,0,none⟩),.pointer (some ⟨w.heap.size,0,none⟩)],.int .i64 0] 199 (0,0))
 replace h0:=Qd h0 (.cells #[.int .i64 who] 3 (0,0))
 replace h0:=Qd h0 (.cells #[.int .i64 wo,.int .i64 sl,.int .i64 sst,.int .i64 wa,.int .i64 us,.int .i64 who,.int .i64 i,.int .i64 gen,.int .i64 0,.int .i64 0,.int .i64 0,.int .i64 0,.func (.func 152) #[] #[.pointer (some ⟨w.heap.size+1,0,none⟩),.pointer (some ⟨w.heap.size,0,none⟩)],.int .i64 0] 199 (0,0))
 replace h1:=Qd h1 (.cells #[.int .i64 wo,.int .i64 sl,.int .i64 sst,.int .i64 wa,.int .i64 us,.int .i64 who,.int .i64 i,.int .i64 gen,.int .i64 0,.int .i64 0,.int .i64 0,.int .i64 0,.func (.func 152) #[] #[.pointer (some ⟨w.heap.size+1,0,none⟩),.pointer (some ⟨w.heap.size,0,none⟩)],.int .i64 0] 199 (0,0))
 have hF:=(((Fr.refl [] w).alloc (.cells #[.int .i64 wo,.int .i64 sl,.int .i64 sst,.int .i64 wa,.int .i64 us] 30 (0,0))).alloc (.cells #[.int .i64 who] 3 (0,0))).alloc (.cells #[.int .i64 wo,.int .i64 sl,.int .i64 sst,.int .i64 wa,.int .i64 us,.int .i64 who,.int .i64 i,.int .i64 gen,.int .i64 0,.int .i64 0,.int .i64 0,.int .i64 0,.func (.func 152) #[] #[.pointer (some ⟨w.heap.size+1,0,none⟩),.pointer (some ⟨w.heap.size,0,none⟩)],.int .i64 0] 199 (0,0))
 simp only [World.size_alloc] at h1 h2
 have HX:=hid (And.intro h2 (And.intro h1 (And.intro h0 hF)))
 clear h0 h1 h2 hF
 go_in
 go_wp2
 go_ret
 exact ⟨_,w.heap.size+1,w.heap.size,152,rfl,by omega,by omega,by omega,by omega,by omega,by omega,HX.out.1,⟨HX.out.2.1,by rw [if_pos (show (JD true who i gen n).opens=true from rfl)];exact ⟨rfl,HX.out.2.2.1⟩⟩,HX.out.2.2.2⟩
theorem Q4v (w:World) (c:Q0) (who i gen n:Int):Calls Tryz.prog 103 #[c.val,.int .i64 who,.int .i64 i,.int .i64 gen,.int .i64 n] w (SNew w c (JD false who i gen n)):=by
 obtain ⟨wo,sl,sst,wa,us⟩:=c
 unfold Q0.val
 dsimp only
 have h0:=heap_alloc_new w (.cells #[.int .i64 wo,.int .i64 sl,.int .i64 sst,.int .i64 wa,.int .i64 us] 30 (0,0))
 have h1:=heap_alloc_new (w.alloc (.cells #[.int .i64 wo,.int .i64 sl,.int .i64 sst,.int .i64 wa,.int .i64 us] 30 (0,0))) (.cells #[.int .i64 who] 3 (0,0))
 have h2:=heap_alloc_new ((w.alloc (.cells #[.int .i64 wo,.int .i64 sl,.int .i64 sst,.int .i64 wa,.int .i64 us] 30 (0,0))).alloc (.cells #[.int .i64 who] 3 (0,0))) (.cells #[.int .i64 n] 3 (0,0))
 have h3:=heap_alloc_new (((w.alloc (.cells #[.int .i64 wo,.int .i64 sl,.int .i64 sst,.int .i64 wa,.int .i64 us] 30 (0,0))).alloc (.cells #[.int .i64 who] 3 (0,0))).alloc (.cells #[.int .i64 n] 3 (0,0))) (.cells #[.int .i64 wo,.int .i64 sl,.int .i64 sst,.int .i64 wa,.int .i64 us,.int .i64 who,.int .i64 i,.int .i64 gen,.int .i64 0,.int .i64 0,.int .i64 0,.int .i64 0,.func (.func 153) #[] #[.pointer (some ⟨w.heap.size+1,0,none⟩),.pointer (some ⟨w.heap.size+1+1,0,none⟩)],.int .i64 0] 199 (0,0))
 replace h0:=Qd h0 (.cells #[.int .i64 who] 3 (0,0))
 replace h0:=Qd h0 (.cells #[.int .i64 n] 3 (0,0))
 replace h0:=Qd h0 (.cells #[.int .i64 wo,.int .i64 sl,.int .i64 sst,.int .i64 wa,.int .i64 us,.int .i64 who,.int .i64 i,.int .i64 gen,.int .i64 0,.int .i64 0,.int .i64 0,.int .i64 0,.func (.func 153) #[] #[.pointer (some ⟨w.heap.size+1,0,none⟩),.pointer (some ⟨w.heap.size+1+1,0,none⟩)],.int .i64 0] 199 (0,0))
 replace h1:=Qd h1 (.cells #[.int .i64 n] 3 (0,0))
 replace h1:=Qd h1 (.cells #[.int .i64 wo,.int .i64 sl,.int .i64 sst,.int .i64 wa,.int .i64 us,.int .i64 who,.int .i64 i,.int .i64 gen,.int .i64 0,.int .i64 0,.int .i64 0,.int .i64 0,.func (.func 153) #[] #[.pointer (some ⟨w.heap.size+1,0,none⟩),.pointer (some ⟨w.heap.size+1+1,0,none⟩)],.int .i64 0] 199 (0,0))
 replace h2:=Qd h2 (.cells #[.int .i64 wo,.int .i64 sl,.int .i64 sst,.int .i64 wa,.int .i64 us,.int .i64 who,.int .i64 i,.int .i64 gen,.int .i64 0,.int .i64 0,.int .i64 0,.int .i64 0,.func (.func 153) #[] #[.pointer (some ⟨w.heap.size+1,0,none⟩),.pointer (some ⟨w.heap.size+1+1,0,none⟩)],.int .i64 0] 199 (0,0))
 have hF:=((((Fr.refl [] w).alloc (.cells #[.int .i64 wo,.int .i64 sl,.int .i64 sst,.int .i64 wa,.int .i64 us] 30 (0,0))).alloc (.cells #[.int .i64 who] 3 (0,0))).alloc (.cells #[.int .i64 n] 3 (0,0))).alloc (.cells #[.int .i64 wo,.int .i64 sl,.int .i64 sst,.int .i64 wa,.int .i64 us,.int .i64 who,.int .i64 i,.int .i64 gen,.int .i64 0,.int .i64 0,.int .i64 0,.int .i64 0,.func (.func 153) #[] #[.pointer (some ⟨w.heap.size+1,0,none⟩),.pointer (some ⟨w.heap.size+1+1,0,none⟩)],.int .i64 0] 199 (0,0))
 simp only [World.size_alloc] at h1 h2 h3
 have HX:=hid (And.intro h3 (And.intro h1 (And.intro h2 hF)))
 clear h0 h1 h2 h3 hF
 go_in
 go_wp2
 go_ret
 exact ⟨_,w.heap.size+1,w.heap.size+1+1,153,rfl,by omega,by omega,by omega,by omega,by omega,by omega,HX.out.1,⟨HX.out.2.1,by rw [if_neg (by simp [JD])];exact ⟨rfl,HX.out.2.2.1⟩⟩,HX.out.2.2.2⟩
end
section
open Go.RowKit
def mkW (W:World) (n:Nat):World:=W.alloc (.cells (madeCells #[Value.int .i64 0] n) 3)
theorem Q5F (w:World) (c:Q0) (i:Int) (hc:c.fits) (h0:0≤i) (h1:i<c.sl):Calls Tryz.prog 42 #[c.val,.int .i64 i] w fun e w'=>e=.returned (.int .i64 (c.slot i))∧Fr [] w w':=by
 have h:=J2 w c i hc
 unfold Q5 at h
 rwa [if_pos ⟨h0,h1⟩] at h
def V3 (w:World) (v:Value) (L:List Int):Prop:=w.ownsRow 0 3 1 v L.length (L.map (Value.int .i64))
theorem V3.ints {w:World} {v:Value} {L:List Int} (h:V3 w v L):∃(g:Option Addr) (c:Nat),v=.slice g L.length c∧X0 w g L∧L.length≤c:=by
 rcases h.2 with ⟨rfl,hn⟩|⟨g,cap,cur,rfl,hb,hg,h1,h2,h3,h4⟩
 · have:L=[]:=List.eq_nil_of_length_eq_zero hn
   subst this
   exact ⟨none,0,rfl,X0.empty _ _,Nat.le_refl _⟩
 · exact ⟨_,cap,rfl,X0.Q91 h,h1⟩
theorem V3.keep {w w':World} {v:Value} {L:List Int} (h:V3 w v L) (hs:∀b,v.ownBlock=some b→w'.heap[b]?=w.heap[b]?):V3 w' v L:=by
 refine ⟨h.1, ?_⟩
 rcases h.2 with hn|⟨g,cap,cur,rfl,hb,hgg,rest⟩
 · exact .inl hn
 · exact .inr ⟨g,cap,cur,rfl,hb,by rw [hs g rfl];exact hgg,rest⟩
theorem V3.fr {w w':World} {v:Value} {L:List Int} {S:List Nat} (h:V3 w v L) (f:Fr S w w') (hs:∀b,v.ownBlock=some b→b∉S):V3 w' v L:=
 h.keep fun b hb=>f.block b (h.lt b hb).2 (hs b hb)
structure Yu (w:World) (p:Nat) (c:Q0) (vR vL:Value) (R La:List Int) (n:Int) (d:Bool):Prop where
 b:w.heap[p]?=some (.cells #[.int .i64 c.wo,.int .i64 c.sl,.int .i64 c.st,.int .i64 c.wa,.int .i64 c.us,vR,vL,.int .i64 n,.bool d] 165)
 r:V3 w vR R
 l:V3 w vL La
 hr:vR.ownBlock≠some p
 hl:vL.ownBlock≠some p
 hrl:∀b,vR.ownBlock=some b→vL.ownBlock≠some b
theorem Yu.fr {w w':World} {p:Nat} {c:Q0} {vR vL:Value} {R La:List Int} {n:Int} {d:Bool} {S:List Nat} (h:Yu w p c vR vL R La n d) (f:Fr S w w') (hp:p∉S) (h1:∀b,vR.ownBlock=some b→b∉S) (h2:∀b,vL.ownBlock=some b→b∉S):Yu w' p c vR vL R La n d:=
 ⟨f.at h.b hp,h.r.fr f h1,h.l.fr f h2,h.hr,h.hl,h.hrl⟩
theorem Q00 {w:World} {o:Obj} {b:Nat} (h:b=w.heap.size):(w.alloc o).heap[b]?=some o:=by subst h;exact heap_alloc_new w o
def Vn (w:World) (L:List Int) (e:Ending) (w':World):Prop:=∃v,e=.returned v∧V3 w' v L∧(∀b,v.ownBlock=some b→w.heap.size≤b)∧Fr [] w w'
theorem Q3M (w:World) (g:Option Addr) (c:Nat) (L:List Int) (hL:L.length≤10000) (h0:L≠[]) (hI:X0 w g L):Calls Tryz.prog 111 #[.slice g L.length c] w (Vn w L):=by
 obtain ⟨b,o,rfl,hc⟩:=hI.base h0
 obtain ⟨n,hn⟩:∃n,n=L.length:=⟨_,rfl⟩
 rw [←hn] at hL ⊢
 have HN:=Lib.hid hn
 have hmk:∀W:World,(Instr.makeSlice 44 (.int .i64 (n:Int)) (.int .i64 (n:Int))).run Tryz.prog W=.ok (.slice (some ⟨W.heap.size,0,none⟩) n n) (mkW W n):=run_make_row' (P:=Tryz.prog) 44 3 (.int .i64 0) 8 Tryz.underlying44 VK rfl .i64 .i64 n (by omega) (by omega)
 have hfr:Fr [] w (mkW w n):=(Fr.refl [] w).alloc _
 have hbk:(mkW w n).heap[w.heap.size]?=some (.cells (madeCells #[Value.int .i64 0] n) 3):=heap_alloc_new w _
 have hsrc:∀j v,(L.map (Value.int .i64))[j]?=some v→(mkW w n).cell? ((⟨b,o,none⟩:Addr).add j)=some v:=fun j v hv=>by
  rw [List.getElem?_map] at hv
  cases hj:L[j]? with
  |none=>rw [hj] at hv;cases hv
  |some z=>
   rw [hj] at hv
   simp only [Option.map_some,Option.some.injEq] at hv
   subst hv
   rw [Addr.add_lit]
   exact hfr.cell (hc j z hj) (by simp)
 have HFR:=Lib.hid hfr;have HBK:=Lib.hid hbk;have HSRC:=Lib.hid hsrc
 clear hfr hbk hsrc hc hI h0 hn
 have hcp:=run_copy_row (P:=Tryz.prog) (mkW w n) 44 44 3 3 w.heap.size 0 n n ⟨b,o,none⟩ n c _ _ (L.map (Value.int .i64)) Tryz.underlying44 (by kernel_rfl) HBK.out (by rw [List.length_map];have:=HN.out;show L.length=min n n;omega) HSRC.out (by rw [List.length_map,size_madeCells];have:=HN.out;omega) (fun v hv=>by obtain ⟨z,_,rfl⟩:=List.mem_map.1 hv;rfl)
 have hlen:(L.map (Value.int .i64)).length=n:=by rw [List.length_map,HN.out]
 have hrow:=setRow_heap (mkW w n) w.heap.size _ ((madeCells #[Value.int .i64 0] n).toList.take 0++L.map (Value.int .i64)++(madeCells #[Value.int .i64 0] n).toList.drop (0+(L.map (Value.int .i64)).length)).toArray 3 _ HBK.out
 have hfin:Fr [] w ((mkW w n).setRow w.heap.size ((madeCells #[Value.int .i64 0] n).toList.take 0++L.map (Value.int .i64)++(madeCells #[Value.int .i64 0] n).toList.drop (0+(L.map (Value.int .i64)).length)).toArray):=
  ⟨HFR.out.os,HFR.out.tape,HFR.out.output,by simpa [World.setRow] using HFR.out.size,fun k hk hn=>by rw [setRow_other _ _ _ _ (by omega)];exact HFR.out.block k hk hn⟩
 generalize (mkW w n).setRow w.heap.size ((madeCells #[Value.int .i64 0] n).toList.take 0++L.map (Value.int .i64)++(madeCells #[Value.int .i64 0] n).toList.drop (0+(L.map (Value.int .i64)).length)).toArray=w5 at hrow hfin hcp
 have hown:V3 w5 (.slice (some ⟨w.heap.size,0,none⟩) n n) L:=by
  unfold V3
  rw [←HN.out]
  refine ⟨by simpa using hlen,.inr ⟨w.heap.size,n,_,rfl,Nat.zero_le _,hrow,Nat.le_refl _,by unfold maxLen;omega, ?_, ?_⟩⟩
  · simp [size_madeCells,←HN.out]
  · simp only [List.take_zero,List.nil_append,Nat.mul_one]
    rw [List.take_append_of_le_length (by omega),List.take_of_length_le (by omega)]
 have HO:=Lib.hid hown;have HF:=Lib.hid hfin
 clear hrow hfin hown hlen
 go_in
 go_wp2
 go_ret
 exact ⟨_,rfl,HO.out,fun b hb=>by simp [Value.ownBlock] at hb;omega,HF.out⟩
theorem Q0t (w:World) (c:Q0):Calls Tryz.prog 165 #[c.val] w fun e w'=>∃p,e=.returned (.pointer (some ⟨p,0,none⟩))∧w.heap.size≤p∧Yu w' p c (.slice none 0 0) (.slice none 0 0) [] [] 0 false∧Fr [] w w':=by
 obtain ⟨wo,sl,st,wa,us⟩:=c
 unfold Q0.val
 go_in
 go_wp2
 go_ret
 exact ⟨_,rfl,by omega,⟨Q00 (by simp),World.ownsRow_nil _ _ _ _,World.ownsRow_nil _ _ _ _,by simp [Value.ownBlock],by simp [Value.ownBlock],by simp [Value.ownBlock]⟩,((Fr.refl [] w).alloc _).alloc _⟩
theorem U7 (w:World) (p:Nat) (c:Q0) (vR vL:Value) (R La:List Int) (n:Int) (d:Bool) (h:Yu w p c vR vL R La n d) (hd:d=true→La≠[]) (hl:La.length≤10000):
 Calls Tryz.prog 77 #[.pointer (some ⟨p,0,none⟩)] w (Vn w (if d then La else [])):=by
 have q8:w.cell? ⟨p,8,none⟩=some (.bool d):=cell_of h.b rfl
 have q6:w.cell? ⟨p,6,none⟩=some vL:=cell_of h.b rfl
 cases d
 · clear h hd
   have HP:=Lib.hid (show Vn w [] (.returned (.slice none 0 0)) w from ⟨_,rfl,World.ownsRow_nil _ _ _ _,by simp [Value.ownBlock],Fr.refl _ _⟩)
   rw [if_neg (by simp)]
   go_in
   go_wp2
   go_ret
   exact HP.out
 · rw [if_pos rfl]
   obtain ⟨g,cap,rfl,hI, -⟩:=h.l.ints
   have HI:=Lib.hid hI;have HD:=Lib.hid (hd rfl)
   clear h hd hI
   go_in
   go_wp2_with fail
   refine (Q3M w g cap La hl HD.out HI.out).mono ?_
   rintro e w2 ⟨v,rfl,h1,h2,h3⟩
   have HP:=Lib.hid (show Vn w La (.returned v) w2 from ⟨v,rfl,h1,h2,h3⟩)
   clear h1 h2 h3
   go_wp2
   go_ret
   exact HP.out
end
end Go.Proofs.YtgjklfmnmljilaaGreatDoor

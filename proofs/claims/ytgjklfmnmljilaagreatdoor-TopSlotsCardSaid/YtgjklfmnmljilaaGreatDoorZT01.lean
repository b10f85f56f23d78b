/- A part of the proof: TpS to IterQP. -/
import Derived.ChangeAlike
import Derived.Deep.Draws
import Derived.RangeFuncLeaves
import Derived.RangeFuncNested
import Derived.RangeFuncRecord
import Derived.WalkKit
namespace Go.Proofs.YtgjklfmnmljilaaGreatDoor
set_option linter.unusedVariables false
set_option linter.unusedSimpArgs false
set_option linter.unusedSectionVars false
set_option linter.unnecessarySimpa false
set_option maxRecDepth 100000
set_option maxHeartbeats 8000000
section
structure Q8 where
 st:Int
 own:Int
 str:Int
 br:Bool
 mkd:Bool
 us:Int
 gen:Int
 ep:Int
 ver:Int
deriving DecidableEq
def Q8.cells (s:Q8):List Value:=[.int .i64 s.st,.int .i64 s.own,.int .i64 s.str,.bool s.br,.bool s.mkd,.int .i64 s.us,.int .i64 s.gen,.int .i64 s.ep,.int .i64 s.ver]
def Q8.val (s:Q8):Value:=.agg #[.int .i64 s.st,.int .i64 s.own,.int .i64 s.str,.bool s.br,.bool s.mkd,.int .i64 s.us,.int .i64 s.gen,.int .i64 s.ep,.int .i64 s.ver]
structure Q8.right (s:Q8):Prop where
 st0:0≤s.st
 st1:s.st≤6
 own0:0≤s.own
 own1:s.own≤15
 str0:0≤s.str
 str1:s.str≤255
 us0:0≤s.us
 us1:s.us≤63
 gen0:0≤s.gen
 gen1:s.gen≤4095
 ep0:0≤s.ep
 ep1:s.ep≤4095
 ver0:0≤s.ver
 ver1:s.ver≤32767
 strL:s.st≠3→s.str=0
 mkI:s.st≠2→s.mkd=false
 brL:s.st≠2→s.st≠3→s.st≠4→s.br=false
 usL:s.st≠2→s.st≠3→s.st≠4→s.us=0
 epL:s.st≠6→s.ep=0
 ownE:s.st=0→s.own=0
 ownL:s.st=6→s.own=0
instance (s:Q8):Decidable s.right:=
 if h:(0≤s.st∧s.st≤6∧0≤s.own∧s.own≤15∧0≤s.str∧s.str≤255∧0≤s.us∧s.us≤63∧0≤s.gen∧s.gen≤4095∧0≤s.ep∧s.ep≤4095∧0≤s.ver∧s.ver≤32767)∧
     (s.st≠3→s.str=0)∧(s.st≠2→s.mkd=false)∧(s.st≠2→s.st≠3→s.st≠4→s.br=false)∧(s.st≠2→s.st≠3→s.st≠4→s.us=0)∧(s.st≠6→s.ep=0)∧(s.st=0→s.own=0)∧(s.st=6→s.own=0) then
  .isTrue ⟨h.1.1,h.1.2.1,h.1.2.2.1,h.1.2.2.2.1,h.1.2.2.2.2.1,h.1.2.2.2.2.2.1,h.1.2.2.2.2.2.2.1,h.1.2.2.2.2.2.2.2.1,h.1.2.2.2.2.2.2.2.2.1,h.1.2.2.2.2.2.2.2.2.2.1,h.1.2.2.2.2.2.2.2.2.2.2.1,h.1.2.2.2.2.2.2.2.2.2.2.2.1,h.1.2.2.2.2.2.2.2.2.2.2.2.2.1,h.1.2.2.2.2.2.2.2.2.2.2.2.2.2,h.2.1,h.2.2.1,h.2.2.2.1,h.2.2.2.2.1,h.2.2.2.2.2.1,h.2.2.2.2.2.2.1,h.2.2.2.2.2.2.2⟩
 else .isFalse fun r=>h ⟨⟨r.st0,r.st1,r.own0,r.own1,r.str0,r.str1,r.us0,r.us1,r.gen0,r.gen1,r.ep0,r.ep1,r.ver0,r.ver1⟩,r.strL,r.mkI,r.brL,r.usL,r.epL,r.ownE,r.ownL⟩
def Yb (b:Bool):Int:=if b then 1 else 0
def Q8.enc (s:Q8):Int:=s.st+8*s.own+128*s.str+32768*Yb s.br+65536*Yb s.mkd+131072*s.us+8388608*s.gen+34359738368*s.ep+140737488355328*s.ver
def Q9u (w:Int):Q8:=⟨w % 8,w / 8 % 16,w / 128 % 256,decide (w / 32768 % 2=1),decide (w / 65536 % 2=1),w / 131072 % 64,w / 8388608 % 4096,w / 34359738368 % 4096,w / 140737488355328⟩
def dec (w:Int):Option Q8:=if 0≤w∧(Q9u w).right then some (Q9u w) else none
theorem K5 (b:Bool):0≤Yb b∧Yb b≤1:=by cases b<;>decide
theorem Hw {s:Q8} (h:s.right):0≤s.enc:=by
 obtain ⟨h1,h2⟩:=K5 s.br
 obtain ⟨h3,h4⟩:=K5 s.mkd
 have:=h.st0;have:=h.own0;have:=h.str0;have:=h.us0;have:=h.gen0;have:=h.ep0;have:=h.ver0
 unfold Q8.enc;omega
theorem Q7G {s:Q8} (h:s.right):s.enc<4611686018427387904:=by
 obtain ⟨h1,h2⟩:=K5 s.br
 obtain ⟨h3,h4⟩:=K5 s.mkd
 have:=h.st1;have:=h.own1;have:=h.str1;have:=h.us1;have:=h.gen1;have:=h.ep1;have:=h.ver1
 unfold Q8.enc;omega
theorem Hy (b:Bool) (x:Int) (h:x=Yb b):decide (x=1)=b:=by subst h;cases b<;>decide
theorem Gp {s:Q8} (h:s.right):s.enc % 8=s.st∧s.enc / 8 % 16=s.own∧s.enc / 128 % 256=s.str∧s.enc / 32768 % 2=Yb s.br∧s.enc / 65536 % 2=Yb s.mkd∧s.enc / 131072 % 64=s.us∧
 s.enc / 8388608 % 4096=s.gen∧s.enc / 34359738368 % 4096=s.ep∧s.enc / 140737488355328=s.ver:=by
 obtain ⟨h1,h2⟩:=K5 s.br
 obtain ⟨h3,h4⟩:=K5 s.mkd
 have a1:=h.st0;have a2:=h.st1;have a3:=h.own0;have a4:=h.own1;have a5:=h.str0;have a6:=h.str1;have a7:=h.us0;have a8:=h.us1
 have b1:=h.gen0;have b2:=h.gen1;have b3:=h.ep0;have b4:=h.ep1;have b5:=h.ver0;have b6:=h.ver1
 unfold Q8.enc
 generalize s.st=st at*;generalize s.own=own at*;generalize s.str=str at*;generalize Yb s.br=br at*;generalize Yb s.mkd=mk at*
 generalize s.us=us at*;generalize s.gen=gen at*;generalize s.ep=ep at*;generalize s.ver=ver at*
 clear h
 refine ⟨?_, ?_, ?_, ?_, ?_, ?_, ?_, ?_, ?_⟩<;>omega
theorem Q7I {s:Q8} (h:s.right):Q9u s.enc=s:=by
 obtain ⟨p1,p2,p3,p4,p5,p6,p7,p8,p9⟩:=Gp h
 unfold Q9u
 rw [p1,p2,p3,p6,p7,p8,p9,Hy _ _ p4,Hy _ _ p5]
theorem QO {s:Q8} (h:s.right):dec s.enc=some s:=by
 unfold dec
 rw [Q7I h,if_pos ⟨Hw h,h⟩]
def toV (s:Q8) (state own:Int):Q8:=
 {st:=state,own:=if state=0∨state=6 then 0 else own,str:=if state=3 then s.str else 0,br:=if state=2∨state=3∨state=4 then s.br else false,mkd:=if state=2 then s.mkd else false,
  us:=if state=2∨state=3∨state=4 then s.us else 0,gen:=s.gen,ep:=if state=6 then s.ep else 0,ver:=s.ver}
def Jt (s:Q8) (own:Int):Q8:={toV s 3 own with us:=min (s.us+1) 63,gen:=(s.gen+1) % 4096}
def ZA (s:Q8) (own more:Int):Q8:={toV s 6 own with ep:=more}
def ZH (more:Int):Bool:=decide (0≤more)&&decide (more≤4095)
def isV (s:Q8) (state:Int):Bool:=decide (s.st=state)
def Jj (s:Q8) (state own:Int):Bool:=decide (s.st=state)&&decide (s.own=own)
def JL (s:Q8):Bool:=decide (s.st=2)&& !s.br
def Xz (str:Int) (i:Nat):Bool:=str.toNat.testBit i
def Yt (str:Int) (n:Nat):Option Nat:=(List.range n).find? fun i=> !Xz str i
def VF (s:Q8) (own more:Int):Option Q8:=
 if Jj s 3 own=true∧s.br=false then (Yt s.str (min more.toNat 8)).map fun i=>{s with str:=((s.str.toNat|||2 ^ i:Nat):Int)} else none
def VA (s:Q8) (own more:Int):Option Q8:=
 if Jj s 3 own=true∧0≤more∧more<8∧Xz s.str more.toNat=true then some {s with str:=s.str - ((2 ^ more.toNat:Nat):Int)} else none
def chg (d:Nat) (s:Q8) (own more:Int):Option Q8:=
 match d with
 |0=>if isV s 0 then some (toV s 1 own) else none
 |1=>if Jj s 1 own then some (Jt s own) else none
 |2=>if Jj s 1 own then some (toV s 0 own) else none
 |3=>if JL s then some (Jt s own) else none
 |4=>if Jj s 3 own&&decide (s.str=0) then some (toV s 2 own) else none
 |5=>if JL s then some (toV s 4 own) else none
 |6=>if isV s 4 then some (toV s 2 own) else none
 |7=>if isV s 0 then some (toV s 5 own) else none
 |8=>if isV s 5 then some (toV s 0 own) else none
 |9=>if isV s 2 then some (toV s 2 own) else none
 |10=>if isV s 2&& !s.mkd then some {s with mkd:=true} else none
 |11=>if ZH more&&(isV s 2||isV s 3) then some (ZA s own more) else none
 |12=>if isV s 6 then some (toV s 0 own) else none
 |13=>if !s.br&&(isV s 2||isV s 3||isV s 4) then some {s with br:=true} else none
 |14=>VF s own more
 |15=>VA s own more
 |16=>if Jj s 5 own then some (toV s 1 own) else if Jj s 4 own then some (Jt s own) else none
 |17=>if ZH more&&isV s 6 then some (ZA s own more) else none
 |_=>none
def Qj (s:Q8) (d:Nat) (own more:Int):Option Q8:=if 0≤own∧own≤15 then (chg d s own more).map fun t=>{t with ver:=(s.ver+1) % 32768} else none
theorem Gb {s:Q8} (h:s.right) {state own:Int} (h0:0≤state) (h1:state≤6) (o0:0≤own) (o1:own≤15):(toV s state own).right:=by
 have:=h.str0;have:=h.str1;have:=h.us0;have:=h.us1;have:=h.ep0;have:=h.ep1
 constructor<;>simp only [toV]
 case st0=>exact h0
 case st1=>exact h1
 case own0=>split<;>omega
 case own1=>split<;>omega
 case str0=>split<;>omega
 case str1=>split<;>omega
 case us0=>split<;>omega
 case us1=>split<;>omega
 case gen0=>exact h.gen0
 case gen1=>exact h.gen1
 case ep0=>split<;>omega
 case ep1=>split<;>omega
 case ver0=>exact h.ver0
 case ver1=>exact h.ver1
 case strL=>intro e;rw [if_neg e]
 case mkI=>intro e;rw [if_neg e]
 case brL=>intro e1 e2 e3;rw [if_neg (by rintro (h|h|h);exact e1 h;exact e2 h;exact e3 h)]
 case usL=>intro e1 e2 e3;rw [if_neg (by rintro (h|h|h);exact e1 h;exact e2 h;exact e3 h)]
 case epL=>intro e;rw [if_neg e]
 case ownE=>intro e;rw [if_pos (.inl e)]
 case ownL=>intro e;rw [if_pos (.inr e)]
theorem Dj {s:Q8} (h:s.right) {own:Int} (o0:0≤own) (o1:own≤15):(Jt s own).right:=by
 have t:=Gb h (state:=3) (by omega) (by omega) o0 o1
 have e1:(toV s 3 own).st=3:=rfl
 have:=t.us0;have:=t.us1
 have u0:=h.us0;have g0:=h.gen0
 constructor<;>simp only [Jt]
 case st0=>exact t.st0
 case st1=>exact t.st1
 case own0=>exact t.own0
 case own1=>exact t.own1
 case str0=>exact t.str0
 case str1=>exact t.str1
 case us0=>omega
 case us1=>omega
 case gen0=>omega
 case gen1=>omega
 case ep0=>exact t.ep0
 case ep1=>exact t.ep1
 case ver0=>exact t.ver0
 case ver1=>exact t.ver1
 case strL=>exact t.strL
 case mkI=>exact t.mkI
 case brL=>exact t.brL
 case usL=>intro _ e;exact absurd e1 e
 case epL=>exact t.epL
 case ownE=>exact t.ownE
 case ownL=>exact t.ownL
theorem Hf {s:Q8} (h:s.right) {own more:Int} (o0:0≤own) (o1:own≤15) (m:ZH more=true):(ZA s own more).right:=by
 have t:=Gb h (state:=6) (by omega) (by omega) o0 o1
 simp only [ZH,Bool.and_eq_true,decide_eq_true_eq] at m
 exact {t with ep0:=m.1,ep1:=m.2,epL:=fun e=>absurd rfl e}
theorem DN {s:Q8} {st own:Int}:Jj s st own=true↔s.st=st∧s.own=own:=by simp [Jj]
theorem Q3G {s:Q8} {st:Int}:isV s st=true↔s.st=st:=by simp [isV]
theorem Wn {str:Int} {n i:Nat} (h:Yt str n=some i):i<n:=List.mem_range.1 (List.mem_of_find?_eq_some h)
theorem Q0X {s t:Q8} (h:s.right) {own more:Int} (e:VF s own more=some t):t.right∧t.st=3∧t.own=own∧t.ver=s.ver:=by
 unfold VF at e
 split at e
 · rename_i hm
   obtain ⟨i,hi,rfl⟩:=Option.map_eq_some_iff.1 e
   obtain ⟨h1,h2⟩:=DN.1 hm.1
   have hi8:i<8:=by have:=Wn hi;omega
   have hs:s.str.toNat<2 ^ 8:=by have:=h.str0;have:=h.str1;omega
   have hor:s.str.toNat|||2 ^ i<2 ^ 8:=Nat.or_lt_two_pow hs (Nat.pow_lt_pow_right (by omega) hi8)
   refine ⟨{h with str0:=Int.natCast_nonneg _,str1:= ?_,strL:=fun e=>absurd h1 e},h1,h2,rfl⟩
   show ((s.str.toNat|||2 ^ i:Nat):Int)≤255
   omega
 · cases e
theorem Q0F {s t:Q8} (h:s.right) {own more:Int} (e:VA s own more=some t):t.right∧t.st=3∧t.own=own∧t.ver=s.ver:=by
 unfold VA at e
 split at e
 · rename_i hm
   obtain ⟨hm1,hm2,hm3,hm4⟩:=hm
   obtain ⟨h1,h2⟩:=DN.1 hm1
   cases e
   have hge:2 ^ more.toNat≤s.str.toNat:=Nat.ge_two_pow_of_testBit hm4
   have hs0:=h.str0;have hs1:=h.str1
   generalize 2 ^ more.toNat=P at hge
   refine ⟨{h with str0:= ?_,str1:= ?_,strL:=fun e=>absurd h1 e},h1,h2,rfl⟩
   · show (0:Int)≤s.str - (P:Int)
     omega
   · show s.str - (P:Int)≤255
     omega
 · cases e
theorem Q5L {s t:Q8} (h:s.right) {d:Nat} {own more:Int} (o0:0≤own) (o1:own≤15) (e:chg d s own more=some t):t.right:=by
 have T:∀st:Int,0≤st→st≤6→(toV s st own).right:=fun st a b=>Gb h a b o0 o1
 have L:=Dj h o0 o1
 unfold chg at e
 split at e
 case h_15=>exact (Q0X h e).1
 case h_16=>exact (Q0F h e).1
 case h_11=>
  split at e
  · rename_i hc
    cases e
    have h2:=Q3G.1 (by simp only [Bool.and_eq_true] at hc;exact hc.1)
    exact {h with mkI:=fun e=>absurd h2 e}
  · cases e
 case h_12=>
  split at e
  · rename_i hc
    cases e
    simp only [Bool.and_eq_true] at hc
    exact Hf h o0 o1 hc.1
  · cases e
 case h_18=>
  split at e
  · rename_i hc
    cases e
    simp only [Bool.and_eq_true] at hc
    exact Hf h o0 o1 hc.1
  · cases e
 case h_14=>
  split at e
  · rename_i hc
    cases e
    simp only [Bool.and_eq_true,Bool.or_eq_true,Q3G] at hc
    refine {h with brL:=fun e1 e2 e3=> ?_}
    rcases hc.2 with (h2|h2)|h2
    · exact absurd h2 e1
    · exact absurd h2 e2
    · exact absurd h2 e3
  · cases e
 all_goals repeat' (split at e)
 all_goals first
  |(cases e;done)
  |(cases e;first|exact T _ (by omega) (by omega)|exact L)
theorem Jw {s t:Q8} (h:s.right) {d:Nat} {own more:Int} (e:Qj s d own more=some t):t.right:=by
 unfold Qj at e
 split at e
 · rename_i ho
   obtain ⟨u,hu,rfl⟩:=Option.map_eq_some_iff.1 e
   have r:=Q5L h ho.1 ho.2 hu
   have v0:=h.ver0
   exact {r with ver0:=by show 0≤(s.ver+1) % 32768;omega,ver1:=by show (s.ver+1) % 32768≤32767;omega}
 · cases e
end
section
open Go.RowKit
structure Fr (S:List Nat) (w w':World):Prop where
 os:w'.os=w.os
 tape:w'.tape=w.tape
 output:w'.output=w.output
 size:w.heap.size≤w'.heap.size
 block:∀k,k<w.heap.size→k∉S→w'.heap[k]?=w.heap[k]?
theorem Fr.refl (S:List Nat) (w:World):Fr S w w:=⟨rfl,rfl,rfl,Nat.le_refl _,fun _ _ _=>rfl⟩
theorem Fr.trans {S:List Nat} {a b c:World} (h:Fr S a b) (k:Fr S b c):Fr S a c:=
 ⟨k.os.trans h.os,k.tape.trans h.tape,k.output.trans h.output,Nat.le_trans h.size k.size,fun i hi hs=>(k.block i (Nat.lt_of_lt_of_le hi h.size) hs).trans (h.block i hi hs)⟩
theorem Fr.mono {S S':List Nat} {w w':World} (h:Fr S w w') (hs:∀k,k∈S→k∈S'):Fr S' w w':=
 ⟨h.os,h.tape,h.output,h.size,fun k hk hn=>h.block k hk fun m=>hn (hs k m)⟩
theorem Fr.drop {S S':List Nat} {w w':World} (h:Fr S w w') (hs:∀k,k∈S→k∈S'∨w.heap.size≤k):Fr S' w w':=
 ⟨h.os,h.tape,h.output,h.size,fun k hk hn=>h.block k hk fun m=>(hs k m).elim hn (fun hle=>by omega)⟩
theorem Fr.then {S S':List Nat} {a b c:World} (h:Fr S a b) (k:Fr S' b c) (hs:∀x,x∈S'→x∈S∨a.heap.size≤x):Fr S a c:=
 ⟨k.os.trans h.os,k.tape.trans h.tape,k.output.trans h.output,Nat.le_trans h.size k.size,
  fun i hi hn=>(k.block i (Nat.lt_of_lt_of_le hi h.size) (fun m=>(hs i m).elim hn (fun hle=>by omega))).trans (h.block i hi hn)⟩
theorem Fr.drew {S:List Nat} {a w:World} (h:Fr S a w):Fr S a w.drew:=⟨h.os,h.tape,h.output,h.size,h.block⟩
theorem Fr.alloc {S:List Nat} {a w:World} (h:Fr S a w) (o:Obj):Fr S a (w.alloc o):=
 h.trans ⟨rfl,rfl,rfl,by simp,fun k hk _=>Below.heap_alloc _ _ _ hk⟩
theorem Fr.setCell {S:List Nat} {a w:World} (h:Fr S a w) {p:Addr} (hp:p.block∈S∨a.heap.size≤p.block) (u:Value):Fr S a (w.setCell p u):=by
 refine ⟨h.os,h.tape,h.output,by simpa [World.setCell] using h.size,fun k hk hn=> ?_⟩
 rw [Below.heap_setCell _ _ _ _ (fun e=>hp.elim (fun m=>hn (by rw [e];exact m)) (fun hle=>by omega))]
 exact h.block k hk hn
theorem Fr.grown {S:List Nat} {a w w':World} {row:Option Nat} (h:Fr S a w) (hg:w.grownBy w' row) (hr:∀k,row=some k→k∈S∨a.heap.size≤k):Fr S a w':=
 ⟨hg.os.trans h.os,hg.tape.trans h.tape,hg.output.trans h.output,Nat.le_trans h.size hg.size,
  fun k hk hn=>(hg.block k (Nat.lt_of_lt_of_le hk h.size) (fun e=>(hr k e.symm).elim hn (fun hle=>by omega))).trans (h.block k hk hn)⟩
theorem Fr.drewN {S:List Nat} {a w:World} (h:Fr S a w) (n:Nat):Fr S a (w.drewN n):=⟨h.os,h.tape,h.output,h.size,h.block⟩
theorem Fr.below {S:List Nat} {w w':World} {B:Nat} (h:Fr S w w') (hB:B≤w.heap.size) (hs:∀k,k∈S→B≤k):Below B w w':=
 ⟨h.os,h.tape,h.output,h.size,fun k hk=>h.block k (by omega) (fun m=>by have:=hs k m;omega)⟩
theorem Fr.at {S:List Nat} {w w':World} (h:Fr S w w') {k:Nat} {o:Obj} (hk:w.heap[k]?=some o) (hs:k∉S):w'.heap[k]?=some o:=
 (h.block k (Array.getElem?_eq_some_iff.1 hk).1 hs).trans hk
theorem Fr.cell {S:List Nat} {w w':World} (h:Fr S w w') {p:Addr} {v:Value} (hc:w.cell? p=some v) (hs:p.block∉S):w'.cell? p=some v:=
 (World.cell?_of_block (w:=w) (h.block p.block (World.block_lt_of_cell? w p hc) hs)).trans hc
theorem heap_setCell_same {w:World} {b i:Nat} {c:Array Value} {t:TypeId} {z:Nat×Nat} (h:w.heap[b]?=some (.cells c t z)) (v:Value):
 (w.setCell ⟨b,i,none⟩ v).heap[b]?=some (.cells (c.setIfInBounds i v) t z):=by
 simp [World.setCell,Array.getElem?_modify,h]
theorem X4 {w:World} {a:Addr} {b:Nat} {o:Obj} (h:w.heap[b]?=some o) (hne:b≠a.block) (v:Value):(w.setCell a v).heap[b]?=some o:=by
 rw [Below.heap_setCell _ _ _ _ hne];exact h
theorem Qd {w:World} {b:Nat} {o:Obj} (h:w.heap[b]?=some o) (o':Obj):(w.alloc o').heap[b]?=some o:=by
 rw [Below.heap_alloc _ _ _ (Array.getElem?_eq_some_iff.1 h).1];exact h
theorem Q6 {w:World} {b:Nat} {o:Obj} (h:w.heap[b]?=some o):b<w.heap.size:=(Array.getElem?_eq_some_iff.1 h).1
theorem cell_of {w:World} {b i:Nat} {c:Array Value} {t:TypeId} {z:Nat×Nat} (h:w.heap[b]?=some (.cells c t z)) {v:Value} (hv:c[i]?=some v):w.cell? ⟨b,i,none⟩=some v:=by
 simp [World.cell?,h,hv]
theorem Q9 {w:World} {b i:Nat} {c:Array Value} {t:TypeId} (h:w.heap[b]?=some (.cells c t (0,0))):w.frozen? ⟨b,i,none⟩=false:=by
 simp [World.frozen?,h]
@[simp] theorem drew_heap (w:World):w.drew.heap=w.heap:=rfl
theorem QZ {P:Program} (w:World) {t:TypeId} {ps rs:Array TypeId} {v:Bool} (h:P.underlying t=some (.func ps rs v)) (f:Fn) (a b:Array Value):
 (binOp .eql t (.func f a b) .nilFunc).run P w=.ok (.bool false) w:=by
 have hd:∀d:Nat,(Op.equalIn (d+1) t (.func f a b) .nilFunc).run P w=.ok false w:=fun d=>by simp [Op.equalIn,run_underlying h]
 simp only [binOp]
 simp [Op.equal,Op.maxDepth,hd 9999]
abbrev Blk:=Nat→Prop
structure Stp (O:Blk) (W W':World):Prop where
 os:W'.os=W.os
 tape:W'.tape=W.tape
 output:W'.output=W.output
 size:W.heap.size≤W'.heap.size
 block:∀k,k<W.heap.size→¬O k→W'.heap[k]?=W.heap[k]?
theorem Stp.refl (O:Blk) (W:World):Stp O W W:=⟨rfl,rfl,rfl,Nat.le_refl _,fun _ _ _=>rfl⟩
theorem Stp.then {O O':Blk} {a b c:World} (h:Stp O a b) (k:Stp O' b c) (hs:∀x,O' x→O x∨a.heap.size≤x):Stp O a c:=
 ⟨k.os.trans h.os,k.tape.trans h.tape,k.output.trans h.output,Nat.le_trans h.size k.size,
  fun i hi hn=>(k.block i (Nat.lt_of_lt_of_le hi h.size) (fun m=>(hs i m).elim hn (fun hle=>by omega))).trans (h.block i hi hn)⟩
theorem Stp.mono {O O':Blk} {a b:World} (h:Stp O a b) (hs:∀x,O x→O' x):Stp O' a b:=
 ⟨h.os,h.tape,h.output,h.size,fun k hk hn=>h.block k hk fun m=>hn (hs k m)⟩
theorem Stp.drop {O O':Blk} {a b:World} (h:Stp O a b) (hs:∀x,O x→O' x∨a.heap.size≤x):Stp O' a b:=
 ⟨h.os,h.tape,h.output,h.size,fun k hk hn=>h.block k hk fun m=>(hs k m).elim hn (fun hle=>by omega)⟩
theorem Stp.alloc {O:Blk} {a w:World} (h:Stp O a w) (o:Obj):Stp O a (w.alloc o):=
 h.then (O':=fun _=>False) ⟨rfl,rfl,rfl,by simp,fun k hk _=>Below.heap_alloc _ _ _ hk⟩ (fun _ hx=>hx.elim)
theorem Stp.drew {O:Blk} {a w:World} (h:Stp O a w):Stp O a w.drew:=⟨h.os,h.tape,h.output,h.size,h.block⟩
theorem Stp.drewN {O:Blk} {a w:World} (h:Stp O a w) (n:Nat):Stp O a (w.drewN n):=⟨h.os,h.tape,h.output,h.size,h.block⟩
theorem Stp.setCell {O:Blk} {a w:World} (h:Stp O a w) {p:Addr} (hp:O p.block∨a.heap.size≤p.block) (u:Value):Stp O a (w.setCell p u):=by
 refine ⟨h.os,h.tape,h.output,by simpa [World.setCell] using h.size,fun k hk hn=> ?_⟩
 rw [Below.heap_setCell _ _ _ _ (fun e=>hp.elim (fun m=>hn (by rw [e];exact m)) (fun hle=>by omega))]
 exact h.block k hk hn
theorem Stp.putObj {O:Blk} {a w:World} (h:Stp O a w) {l:Nat} (hl:O l∨a.heap.size≤l) (o:Obj):Stp O a (w.putObj l o):=by
 refine ⟨h.os,h.tape,h.output,by simpa using h.size,fun k hk hn=> ?_⟩
 rw [World.putObj_heap_other (fun e=>hl.elim (fun m=>hn (by rw [e];exact m)) (fun hle=>by omega))]
 exact h.block k hk hn
theorem Stp.Z9 {S:List Nat} {w w':World} (h:Fr S w w'):Stp (fun k=>k∈S) w w':=⟨h.os,h.tape,h.output,h.size,h.block⟩
theorem Stp.GD {O:Blk} {S:List Nat} {w w':World} (h:Stp O w w') (hs:∀x,O x→x∈S∨w.heap.size≤x):Fr S w w':=
 ⟨h.os,h.tape,h.output,h.size,fun k hk hn=>h.block k hk fun m=>(hs k m).elim hn (fun hle=>by omega)⟩
theorem Stp.at {O:Blk} {w w':World} (h:Stp O w w') {k:Nat} {o:Obj} (hk:w.heap[k]?=some o) (hs:¬O k):w'.heap[k]?=some o:=
 (h.block k (Array.getElem?_eq_some_iff.1 hk).1 hs).trans hk
theorem Stp.cell {O:Blk} {w w':World} (h:Stp O w w') {p:Addr} {v:Value} (hc:w.cell? p=some v) (hs:¬O p.block):w'.cell? p=some v:=
 (World.cell?_of_block (w:=w) (h.block p.block (World.block_lt_of_cell? w p hc) hs)).trans hc
def Grw (O O':Blk) (W W':World):Prop:=∀b,O' b→b<W'.heap.size∧(O b∨W.heap.size≤b)
theorem Grw.refl {O:Blk} {W:World} (h:∀b,O b→b<W.heap.size):Grw O O W W:=fun b hb=>⟨h b hb,.inl hb⟩
theorem Grw.then {O O' O'':Blk} {a b c:World} (h:Grw O O' a b) (hs:a.heap.size≤b.heap.size) (k:Grw O' O'' b c):Grw O O'' a c:=fun x hx=>by
 obtain ⟨h1,h2⟩:=k x hx
 refine ⟨h1, ?_⟩
 rcases h2 with h2|h2
 · exact (h x h2).2
 · exact .inr (by omega)
def Stable (B:Nat) (J:Nat→World→Blk→Prop):Prop:=
 ∀k W O W',J k W O→W'.os=W.os→W'.tape=W.tape→W'.output=W.output→W.heap.size≤W'.heap.size→(∀b,(O b∨b<B)→W'.heap[b]?=W.heap[b]?)→J k W' O
theorem Stable.mono {B B':Nat} {J:Nat→World→Blk→Prop} (h:Stable B J) (hB:B≤B'):Stable B' J:=
 fun k W O W' hj h1 h2 h3 h4 h5=>h k W O W' hj h1 h2 h3 h4 (fun b hb=>h5 b (hb.imp id (fun hlt=>by omega)))
theorem Stable.and {B:Nat} {J:Nat→World→Blk→Prop} (h:Stable B J) (q:Nat→Prop):Stable B (fun k W O=>q k∧J k W O):=
 fun k W O W' hj h1 h2 h3 h4 h5=>⟨hj.1,h k W O W' hj.2 h1 h2 h3 h4 h5⟩
theorem Stable.or {B:Nat} {J K:Nat→World→Blk→Prop} (h:Stable B J) (h':Stable B K):Stable B (fun k W O=>J k W O∨K k W O):=
 fun k W O W' hj h1 h2 h3 h4 h5=>hj.imp (fun hj=>h k W O W' hj h1 h2 h3 h4 h5) (fun hj=>h' k W O W' hj h1 h2 h3 h4 h5)
theorem Stable.setCell {B:Nat} {J:Nat→World→Blk→Prop} (h:Stable B J) {k:Nat} {W:World} {O:Blk} {l i:Nat} (hj:J k W O) (hl:¬O l) (hB:B≤l) (v:Value):J k (W.setCell ⟨l,i,none⟩ v) O:=
 h k W O _ hj rfl rfl rfl (by simp [World.setCell]) (fun b hb=>Below.heap_setCell _ _ _ _ (fun e=>by
   have e':b=l:=e
   subst e'
   rcases hb with h1|h1
   · exact hl h1
   · omega))
theorem Stable.putObj {B:Nat} {J:Nat→World→Blk→Prop} (h:Stable B J) {k:Nat} {W:World} {O:Blk} {l:Nat} (hj:J k W O) (hl:¬O l) (hB:B≤l) (o:Obj):J k (W.putObj l o) O:=
 h k W O _ hj rfl rfl rfl (by simp) (fun b hb=>World.putObj_heap_other (fun e=>by subst e;rcases hb with h1|h1;exact hl h1;omega))
theorem Stable.alloc {B:Nat} {J:Nat→World→Blk→Prop} (h:Stable B J) {k:Nat} {W:World} {O:Blk} (hj:J k W O) (hO:∀b,O b→b<W.heap.size) (hB:B≤W.heap.size) (o:Obj):J k (W.alloc o) O:=
 h k W O _ hj rfl rfl rfl (by simp) (fun b hb=>Below.heap_alloc _ _ _ (by rcases hb with h1|h1;exact hO b h1;omega))
def Track (J:Nat→World→Blk→Prop) (f:Nat→Nat) (O:Blk) (W0:World):Nat→World→Blk→Prop:=fun k W1 O1=>J (f k) W1 O1∧Stp O W0 W1∧Grw O O1 W0 W1
theorem Stp.outside {O O1:Blk} {W0 W1 W':World} (h:Stp O W0 W1) (e1:W'.os=W1.os) (e2:W'.tape=W1.tape) (e3:W'.output=W1.output) (e4:W1.heap.size≤W'.heap.size) (e5:∀b,(O1 b∨b<W0.heap.size)→W'.heap[b]?=W1.heap[b]?):Stp O W0 W':=
 ⟨e1.trans h.os,e2.trans h.tape,e3.trans h.output,Nat.le_trans h.size e4,fun b hb hn=>(e5 b (.inr hb)).trans (h.block b hb hn)⟩
theorem Grw.outside {O O1:Blk} {W0 W1 W':World} (h:Grw O O1 W0 W1) (e4:W1.heap.size≤W'.heap.size):Grw O O1 W0 W':=fun b hb=>⟨Nat.lt_of_lt_of_le (h b hb).1 e4,(h b hb).2⟩
theorem Track.stable {B:Nat} {J:Nat→World→Blk→Prop} (hJ:Stable B J) (f:Nat→Nat) (O:Blk) (W0:World) (hB:B≤W0.heap.size):Stable W0.heap.size (Track J f O W0):=by
 rintro k W1 O1 W' ⟨hj,hs,hg⟩ e1 e2 e3 e4 e5
 exact ⟨hJ.mono hB (f k) W1 O1 W' hj e1 e2 e3 e4 e5,hs.outside e1 e2 e3 e4 e5,hg.outside e4⟩
def Q7Y (Jx:Nat→World→Blk→Prop) (m:Nat) (O:Blk) (W0:World) (c:Code):Nat→World→Blk→Prop:=fun _ W1 O1=>c=.ret∧∃j,j≤m∧Jx j W1 O1∧Stp O W0 W1∧Grw O O1 W0 W1
theorem Q7Y.stable {B:Nat} {J:Nat→World→Blk→Prop} (hJ:Stable B J) (m:Nat) (O:Blk) (W0:World) (hB:B≤W0.heap.size) (c:Code):Stable W0.heap.size (Q7Y J m O W0 c):=by
 rintro k W1 O1 W' ⟨hc,j,hm,hj,hs,hg⟩ e1 e2 e3 e4 e5
 exact ⟨hc,j,hm,hJ.mono hB j W1 O1 W' hj e1 e2 e3 e4 e5,hs.outside e1 e2 e3 e4 e5,hg.outside e4⟩
def Q7Z (J:Nat→World→Blk→Prop) (f:Nat→Nat) (O:Blk) (W0:World) (tb:Nat) (ob:Nat→Obj):Nat→World→Blk→Prop:=fun k W1 O1=>
 ∃O0:Blk,O1=(fun b=>O0 b∨b=tb)∧J (f k) W1 O0∧¬O0 tb∧W1.heap[tb]?=some (ob k)∧Stp O W0 W1∧Grw O O0 W0 W1
theorem Q7Z.stable {B:Nat} {J:Nat→World→Blk→Prop} (hJ:Stable B J) (f:Nat→Nat) (O:Blk) (W0:World) (tb:Nat) (ob:Nat→Obj) {B':Nat} (hB:B≤W0.heap.size) (hB':W0.heap.size≤B'):Stable B' (Q7Z J f O W0 tb ob):=by
 rintro k W1 _ W' ⟨O0,rfl,hj,hn,ht,hs,hg⟩ e1 e2 e3 e4 e5
 have e6:∀b,(O0 b∨b<W0.heap.size)→W'.heap[b]?=W1.heap[b]?:=fun b hb=>e5 b (by
  rcases hb with h|h
  · exact .inl (.inl h)
  · exact .inr (by omega))
 exact ⟨O0,rfl,hJ.mono hB (f k) W1 O0 W' hj e1 e2 e3 e4 e6,hn,(e5 tb (.inl (.inr rfl))).trans ht,hs.outside e1 e2 e3 e4 e6,hg.outside e4⟩
def Q3T (X:Nat→World→Blk→Prop) (m:Nat) (O:Blk) (W0:World) (tb:Nat) (c:Code):Nat→World→Blk→Prop:=fun _ W1 O1=>
 c=.ret∧∃(j:Nat) (O0:Blk),O1=(fun b=>O0 b∨b=tb)∧j≤m∧X j W1 O0∧¬O0 tb∧Stp O W0 W1∧Grw O O0 W0 W1
theorem Q3T.stable {B:Nat} {X:Nat→World→Blk→Prop} (hX:Stable B X) (m:Nat) (O:Blk) (W0:World) (tb:Nat) (c:Code) {B':Nat} (hB:B≤W0.heap.size) (hB':W0.heap.size≤B'):Stable B' (Q3T X m O W0 tb c):=by
 rintro k W1 _ W' ⟨hc,j,O0,rfl,hm,hj,hn,hs,hg⟩ e1 e2 e3 e4 e5
 have e6:∀b,(O0 b∨b<W0.heap.size)→W'.heap[b]?=W1.heap[b]?:=fun b hb=>e5 b (by
  rcases hb with h|h
  · exact .inl (.inl h)
  · exact .inr (by omega))
 exact ⟨hc,j,O0,rfl,hm,hX.mono hB j W1 O0 W' hj e1 e2 e3 e4 e6,hn,hs.outside e1 e2 e3 e4 e6,hg.outside e4⟩
def Q08 (P:Program) (l:Nat) (args:Array Value) (W:World) (R:Ending→World→Prop):Prop:=YieldAt Fence.wide 0 P l args W R
def Q83 (J Jx:Nat→World→Blk→Prop) (n:Nat) (O:Blk) (W:World) (e:Ending) (W':World):Prop:=
 (∃v,e=.returned v)∧((∃O',J n W' O'∧Stp O W W'∧Grw O O' W W')∨(∃k O',k≤n∧Jx k W' O'∧Stp O W W'∧Grw O O' W W'))
def UR {α:Type} (P:Program) (w:World) (C:Blk) (g:FuncId) (lb:Array Value) (enc:α→Array Value) (xs:List α):Prop:=
 (∀b,C b→b<w.heap.size)∧
 ∀(W:World) (l:Nat) (O:Blk) (J Jx:Nat→World→Blk→Prop),
  w.heap.size≤W.heap.size→(∀b,C b→W.heap[b]?=w.heap[b]?)→(∀b,C b→¬O b)→(∀b,O b→b<W.heap.size)→Stable W.heap.size J→Stable W.heap.size Jx→
  (∀k x W1 O1,xs[k]?=some x→J k W1 O1→(∀b,O1 b→b<W1.heap.size)→Q08 P l (enc x) W1 fun e W2=>
    (e=.returned (.bool true)∧∃O2,J (k+1) W2 O2∧Stp O1 W1 W2∧Grw O1 O2 W1 W2)∨
    (e=.returned (.bool false)∧∃O2,Jx (k+1) W2 O2∧Stp O1 W1 W2∧Grw O1 O2 W1 W2))→
  J 0 W O→
  Calls P g (#[.func (.yield l) #[] #[]]++lb) W (Q83 J Jx xs.length O W)
theorem UR.later {α:Type} {P:Program} {w w':World} {C:Blk} {g:FuncId} {lb:Array Value} {enc:α→Array Value} {xs:List α} (h:UR P w C g lb enc xs)
 (hs:w.heap.size≤w'.heap.size) (hC:∀b,C b→w'.heap[b]?=w.heap[b]?):UR P w' C g lb enc xs:=
 ⟨fun b hb=>Nat.lt_of_lt_of_le (h.1 b hb) hs,fun W l O J Jx h1 h2=>h.2 W l O J Jx (Nat.le_trans hs h1) (fun b hb=>(h2 b hb).trans (hC b hb))⟩
theorem ED {P:Program} {l:Nat} {f:FuncId} {tmps:Array Value} {assign body:Code} {w:World} {R:Ending→World→Prop} {n:Nat} (m:Nat) (h:RoundIn Fence.wide n P l f tmps assign body w R):RoundIn Fence.wide m P l f tmps assign body w R:=
 ⟨h.1,fun c cs _=>h.2 c cs (room_wide _)⟩
theorem Q08.at {P:Program} {l:Nat} {args:Array Value} {W:World} {R:Ending→World→Prop} (h:Q08 P l args W R) (m:Nat):YieldAt Fence.wide m P l args W R:=by
 obtain ⟨fn,tmps,assign,body,hy,hR⟩:=h
 exact ⟨fn,tmps,assign,body,hy,ED m hR⟩
def Q3q (P:Program) (w:World) (C:Blk) (g:FuncId) (lb:Array Value) (p:Int→Bool):Prop:=
 (∀b,C b→b<w.heap.size)∧(∀args w,(callFunc g args).run P w=.ok (.enter g args) w)∧
 ∀(W:World) (x:Int),(∀b,C b→W.heap[b]?=w.heap[b]?)→Calls P g (#[.int .i64 x]++lb) W fun e W'=>e=.returned (.bool (p x))∧W=W'
theorem Q3q.later {P:Program} {w w':World} {C:Blk} {g:FuncId} {lb:Array Value} {p:Int→Bool} (h:Q3q P w C g lb p) (hs:w.heap.size≤w'.heap.size) (hC:∀b,C b→w'.heap[b]?=w.heap[b]?):Q3q P w' C g lb p:=
 ⟨fun b hb=>Nat.lt_of_lt_of_le (h.1 b hb) hs,h.2.1,fun W x h1=>h.2.2 W x (fun b hb=>(h1 b hb).trans (hC b hb))⟩
def roundEnd (I:Nat→World→Blk→Prop) (Ix:Code→Nat→World→Blk→Prop) (k:Nat) (O:Blk) (W:World):Exit→Act→World→Prop
 |.normal,_,W'=>∃O',Stp O W W'∧Grw O O' W W'∧I (k+1) W' O'
 |.ret,_,W'=>∃O',Stp O W W'∧Grw O O' W W'∧Ix .ret (k+1) W' O'
 |.exit id,_,W'=>∃O',Stp O W W'∧Grw O O' W W'∧Ix (.exit id) (k+1) W' O'
 |.goto t,_,W'=>∃O',Stp O W W'∧Grw O O' W W'∧Ix (.goto t) (k+1) W' O'
 |.panic _,_,_=>False
 |.outgrown,_,_=>False
def Q88 (P:Program) (l:Nat) (body:Code) (B:Nat) (I:Nat→World→Blk→Prop) (Ix:Code→Nat→World→Blk→Prop) (k:Nat) (O:Blk) (W:World) (a':Act) (W':World):Prop:=
 W=W'∧∀W2,I k W2 O→(∀b,O b→b<W2.heap.size)→B≤W2.heap.size→body.wpIn (Fence.wide.inRound l) 0 P (roundEnd I Ix k O W2) a' W2
theorem EW {P:Program} {n:Nat} {fn:Func} {R:Ending→World→Prop} {tmps:Array Value} {D:Nat} {W:World} (v:Value) (hK:W.heap[D]?=some (.deferred (some [])))
 (hv:∀w,(results fn tmps).run P w=.ok v w) (hR:R (.returned v) (W.putObj D (.deferred none))):
 bodyPostM Fence.wide n P fn R .normal {tmps,defers:=[{target:=.collected D,args:=#[]}]} W:=by
 refine ⟨by simp,.inl ⟨_,_,rfl,run_takeDeferred hK, ?_⟩⟩
 exact ⟨v,hv _,hR⟩
end
end Go.Proofs.YtgjklfmnmljilaaGreatDoor

/- A part of the proof. -/
import Derived.WalkKit
import Derived.ChangeAlike
import Derived.Deep.Draws
import Derived.RangeFuncLeaves
import Derived.RangeFuncNested
import Derived.RangeFuncRecord
import Derived.WalkSpells
import Derived.WalkLawsBesides
import Derived.Deep.QuietTactic
import Derived.BigQuiet
import Derived.Lib.Hide
import Derived.Outline
import Derived.Test.YtgjklfmnmljilaaGreatDoorRows
namespace Go.Proofs.YtgjklfmnmljilaaGreatDoor
set_option linter.unusedVariables false
set_option linter.unusedSimpArgs false
set_option linter.unusedSectionVars false
set_option linter.unnecessarySimpa false
set_option maxRecDepth 100000
set_option maxHeartbeats 8000000
theorem Lb {P:Prop} (h:P:=by omega):P:=h
theorem Lc {P:Prop} (h:P:=by simp):P:=h
theorem Ld {P:Prop} (h:P:=by
 simp only
 omega):P:=h
section
structure Q7 where
 st:Int
 own:Int
 str:Int
 br:Bool
 mkd:Bool
 us:Int
 gen:Int
 ep:Int
 ver:Int
deriving DecidableEq
def Q7.cells (s:Q7):List Value:=[.int .i64 s.st,.int .i64 s.own,.int .i64 s.str,.bool s.br,.bool s.mkd,.int .i64 s.us,.int .i64 s.gen,.int .i64 s.ep,.int .i64 s.ver]
def Q7.val (s:Q7):Value:=.agg #[.int .i64 s.st,.int .i64 s.own,.int .i64 s.str,.bool s.br,.bool s.mkd,.int .i64 s.us,.int .i64 s.gen,.int .i64 s.ep,.int .i64 s.ver]
structure Q7.right (s:Q7):Prop where
 st0:0≤s.st
 st1:s.st≤6
 own0:0≤s.own
 own1:s.own≤15
 str0:0≤s.str
 str1:s.str≤255
 us0:0≤s.us
 us1:s.us≤63
 gen0:0≤s.gen
 gen1:s.gen≤4095
 ep0:0≤s.ep
 ep1:s.ep≤4095
 ver0:0≤s.ver
 ver1:s.ver≤32767
 strL:s.st≠3→s.str=0
 mkI:s.st≠2→s.mkd=false
 brL:s.st≠2→s.st≠3→s.st≠4→s.br=false
 usL:s.st≠2→s.st≠3→s.st≠4→s.us=0
 epL:s.st≠6→s.ep=0
 ownE:s.st=0→s.own=0
 ownL:s.st=6→s.own=0
instance (s:Q7):Decidable s.right:=
 if h:(0≤s.st∧s.st≤6∧0≤s.own∧s.own≤15∧0≤s.str∧s.str≤255∧0≤s.us∧s.us≤63∧0≤s.gen∧s.gen≤4095∧0≤s.ep∧s.ep≤4095∧0≤s.ver∧s.ver≤32767)∧
     (s.st≠3→s.str=0)∧(s.st≠2→s.mkd=false)∧(s.st≠2→s.st≠3→s.st≠4→s.br=false)∧(s.st≠2→s.st≠3→s.st≠4→s.us=0)∧(s.st≠6→s.ep=0)∧(s.st=0→s.own=0)∧(s.st=6→s.own=0) then
  .isTrue ⟨h.1.1,h.1.2.1,h.1.2.2.1,h.1.2.2.2.1,h.1.2.2.2.2.1,h.1.2.2.2.2.2.1,h.1.2.2.2.2.2.2.1,h.1.2.2.2.2.2.2.2.1,h.1.2.2.2.2.2.2.2.2.1,h.1.2.2.2.2.2.2.2.2.2.1,h.1.2.2.2.2.2.2.2.2.2.2.1,h.1.2.2.2.2.2.2.2.2.2.2.2.1,h.1.2.2.2.2.2.2.2.2.2.2.2.2.1,h.1.2.2.2.2.2.2.2.2.2.2.2.2.2,h.2.1,h.2.2.1,h.2.2.2.1,h.2.2.2.2.1,h.2.2.2.2.2.1,h.2.2.2.2.2.2.1,h.2.2.2.2.2.2.2⟩
 else .isFalse fun r=>h ⟨⟨r.st0,r.st1,r.own0,r.own1,r.str0,r.str1,r.us0,r.us1,r.gen0,r.gen1,r.ep0,r.ep1,r.ver0,r.ver1⟩,r.strL,r.mkI,r.brL,r.usL,r.epL,r.ownE,r.ownL⟩
def Ye (b:Bool):Int:=if b then 1 else 0
def Q7.enc (s:Q7):Int:=s.st+8*s.own+128*s.str+32768*Ye s.br+65536*Ye s.mkd+131072*s.us+8388608*s.gen+34359738368*s.ep+140737488355328*s.ver
def Q99 (w:Int):Q7:=⟨w % 8,w / 8 % 16,w / 128 % 256,decide (w / 32768 % 2=1),decide (w / 65536 % 2=1),w / 131072 % 64,w / 8388608 % 4096,w / 34359738368 % 4096,w / 140737488355328⟩
def dec (w:Int):Option Q7:=if 0≤w∧(Q99 w).right then some (Q99 w) else none
theorem Ka (b:Bool):0≤Ye b∧Ye b≤1:=by cases b<;>decide
theorem Ho {s:Q7} (h:s.right):0≤s.enc:=by
 obtain ⟨h1,h2⟩:=Ka s.br
 obtain ⟨h3,h4⟩:=Ka s.mkd
 have:=h.st0;have:=h.own0;have:=h.str0;have:=h.us0;have:=h.gen0;have:=h.ep0;have:=h.ver0
 unfold Q7.enc;omega
theorem Q7f {s:Q7} (h:s.right):s.enc<4611686018427387904:=by
 obtain ⟨h1,h2⟩:=Ka s.br
 obtain ⟨h3,h4⟩:=Ka s.mkd
 have:=h.st1;have:=h.own1;have:=h.str1;have:=h.us1;have:=h.gen1;have:=h.ep1;have:=h.ver1
 unfold Q7.enc;omega
theorem Hq (b:Bool) (x:Int) (h:x=Ye b):decide (x=1)=b:=by subst h;cases b<;>decide
theorem Gc {s:Q7} (h:s.right):s.enc % 8=s.st∧s.enc / 8 % 16=s.own∧s.enc / 128 % 256=s.str∧s.enc / 32768 % 2=Ye s.br∧s.enc / 65536 % 2=Ye s.mkd∧s.enc / 131072 % 64=s.us∧
 s.enc / 8388608 % 4096=s.gen∧s.enc / 34359738368 % 4096=s.ep∧s.enc / 140737488355328=s.ver:=by
 obtain ⟨h1,h2⟩:=Ka s.br
 obtain ⟨h3,h4⟩:=Ka s.mkd
 have a1:=h.st0;have a2:=h.st1;have a3:=h.own0;have a4:=h.own1;have a5:=h.str0;have a6:=h.str1;have a7:=h.us0;have a8:=h.us1
 have b1:=h.gen0;have b2:=h.gen1;have b3:=h.ep0;have b4:=h.ep1;have b5:=h.ver0;have b6:=h.ver1
 unfold Q7.enc
 generalize s.st=st at*;generalize s.own=own at*;generalize s.str=str at*;generalize Ye s.br=br at*;generalize Ye s.mkd=mk at*
 generalize s.us=us at*;generalize s.gen=gen at*;generalize s.ep=ep at*;generalize s.ver=ver at*
 clear h
 refine ⟨?_, ?_, ?_, ?_, ?_, ?_, ?_, ?_, ?_⟩<;>omega
theorem Q7i {s:Q7} (h:s.right):Q99 s.enc=s:=by
 obtain ⟨p1,p2,p3,p4,p5,p6,p7,p8,p9⟩:=Gc h
 unfold Q99
 rw [p1,p2,p3,p6,p7,p8,p9,Hq _ _ p4,Hq _ _ p5]
theorem QF {s:Q7} (h:s.right):dec s.enc=some s:=by
 unfold dec
 rw [Q7i h,if_pos ⟨Ho h,h⟩]
def toV (s:Q7) (state own:Int):Q7:=
 {st:=state,own:=if state=0∨state=6 then 0 else own,str:=if state=3 then s.str else 0,br:=if state=2∨state=3∨state=4 then s.br else false,mkd:=if state=2 then s.mkd else false,
  us:=if state=2∨state=3∨state=4 then s.us else 0,gen:=s.gen,ep:=if state=6 then s.ep else 0,ver:=s.ver}
def Js (s:Q7) (own:Int):Q7:={toV s 3 own with us:=min (s.us+1) 63,gen:=(s.gen+1) % 4096}
def Z6 (s:Q7) (own more:Int):Q7:={toV s 6 own with ep:=more}
def Z0 (more:Int):Bool:=decide (0≤more)&&decide (more≤4095)
def isV (s:Q7) (state:Int):Bool:=decide (s.st=state)
def Jh (s:Q7) (state own:Int):Bool:=decide (s.st=state)&&decide (s.own=own)
def Jp (s:Q7):Bool:=decide (s.st=2)&& !s.br
def Xz (str:Int) (i:Nat):Bool:=str.toNat.testBit i
def Yx (str:Int) (n:Nat):Option Nat:=(List.range n).find? fun i=> !Xz str i
def VF (s:Q7) (own more:Int):Option Q7:=
 if Jh s 3 own=true∧s.br=false then (Yx s.str (min more.toNat 8)).map fun i=>{s with str:=((s.str.toNat|||2 ^ i:Nat):Int)} else none
def Vz (s:Q7) (own more:Int):Option Q7:=
 if Jh s 3 own=true∧0≤more∧more<8∧Xz s.str more.toNat=true then some {s with str:=s.str - ((2 ^ more.toNat:Nat):Int)} else none
def chg (d:Nat) (s:Q7) (own more:Int):Option Q7:=
 match d with
 |0=>if isV s 0 then some (toV s 1 own) else none
 |1=>if Jh s 1 own then some (Js s own) else none
 |2=>if Jh s 1 own then some (toV s 0 own) else none
 |3=>if Jp s then some (Js s own) else none
 |4=>if Jh s 3 own&&decide (s.str=0) then some (toV s 2 own) else none
 |5=>if Jp s then some (toV s 4 own) else none
 |6=>if isV s 4 then some (toV s 2 own) else none
 |7=>if isV s 0 then some (toV s 5 own) else none
 |8=>if isV s 5 then some (toV s 0 own) else none
 |9=>if isV s 2 then some (toV s 2 own) else none
 |10=>if isV s 2&& !s.mkd then some {s with mkd:=true} else none
 |11=>if Z0 more&&(isV s 2||isV s 3) then some (Z6 s own more) else none
 |12=>if isV s 6 then some (toV s 0 own) else none
 |13=>if !s.br&&(isV s 2||isV s 3||isV s 4) then some {s with br:=true} else none
 |14=>VF s own more
 |15=>Vz s own more
 |16=>if Jh s 5 own then some (toV s 1 own) else if Jh s 4 own then some (Js s own) else none
 |17=>if Z0 more&&isV s 6 then some (Z6 s own more) else none
 |_=>none
def Qk (s:Q7) (d:Nat) (own more:Int):Option Q7:=if 0≤own∧own≤15 then (chg d s own more).map fun t=>{t with ver:=(s.ver+1) % 32768} else none
theorem G7 {s:Q7} (h:s.right) {state own:Int} (h0:0≤state) (h1:state≤6) (o0:0≤own) (o1:own≤15):(toV s state own).right:=by
 have:=h.str0;have:=h.str1;have:=h.us0;have:=h.us1;have:=h.ep0;have:=h.ep1
 constructor<;>simp only [toV]
 case st0=>exact h0
 case st1=>exact h1
 case own0=>split<;>omega
 case own1=>split<;>omega
 case str0=>split<;>omega
 case str1=>split<;>omega
 case us0=>split<;>omega
 case us1=>split<;>omega
 case gen0=>exact h.gen0
 case gen1=>exact h.gen1
 case ep0=>split<;>omega
 case ep1=>split<;>omega
 case ver0=>exact h.ver0
 case ver1=>exact h.ver1
 case strL=>intro e;rw [if_neg e]
 case mkI=>intro e;rw [if_neg e]
 case brL=>intro e1 e2 e3;rw [if_neg (by rintro (h|h|h);exact e1 h;exact e2 h;exact e3 h)]
 case usL=>intro e1 e2 e3;rw [if_neg (by rintro (h|h|h);exact e1 h;exact e2 h;exact e3 h)]
 case epL=>intro e;rw [if_neg e]
 case ownE=>intro e;rw [if_pos (.inl e)]
 case ownL=>intro e;rw [if_pos (.inr e)]
theorem D5 {s:Q7} (h:s.right) {own:Int} (o0:0≤own) (o1:own≤15):(Js s own).right:=by
 have t:=G7 h (state:=3) Lb Lb o0 o1
 have e1:(toV s 3 own).st=3:=rfl
 have:=t.us0;have:=t.us1
 have u0:=h.us0;have g0:=h.gen0
 constructor<;>simp only [Js]
 case st0=>exact t.st0
 case st1=>exact t.st1
 case own0=>exact t.own0
 case own1=>exact t.own1
 case str0=>exact t.str0
 case str1=>exact t.str1
 case us0=>omega
 case us1=>omega
 case gen0=>omega
 case gen1=>omega
 case ep0=>exact t.ep0
 case ep1=>exact t.ep1
 case ver0=>exact t.ver0
 case ver1=>exact t.ver1
 case strL=>exact t.strL
 case mkI=>exact t.mkI
 case brL=>exact t.brL
 case usL=>intro _ e;exact absurd e1 e
 case epL=>exact t.epL
 case ownE=>exact t.ownE
 case ownL=>exact t.ownL
theorem KY {s:Q7} (h:s.right) {own more:Int} (o0:0≤own) (o1:own≤15) (m:Z0 more=true):(Z6 s own more).right:=by
 have t:=G7 h (state:=6) Lb Lb o0 o1
 simp only [Z0,Bool.and_eq_true,decide_eq_true_eq] at m
 exact {t with ep0:=m.1,ep1:=m.2,epL:=fun e=>absurd rfl e}
theorem Dv {s:Q7} {st own:Int}:Jh s st own=true↔s.st=st∧s.own=own:=by simp [Jh]
theorem Q3o {s:Q7} {st:Int}:isV s st=true↔s.st=st:=by simp [isV]
theorem GU {str:Int} {n i:Nat} (h:Yx str n=some i):i<n:=List.mem_range.1 (List.mem_of_find?_eq_some h)
theorem Q0M {s t:Q7} (h:s.right) {own more:Int} (e:VF s own more=some t):t.right∧t.st=3∧t.own=own∧t.ver=s.ver:=by
 unfold VF at e
 split at e
 · rename_i hm
   obtain ⟨i,hi,rfl⟩:=Option.map_eq_some_iff.1 e
   obtain ⟨h1,h2⟩:=Dv.1 hm.1
   have hi8:i<8:=by have:=GU hi;omega
   have hs:s.str.toNat<2 ^ 8:=by have:=h.str0;have:=h.str1;omega
   have hor:s.str.toNat|||2 ^ i<2 ^ 8:=Nat.or_lt_two_pow hs (Nat.pow_lt_pow_right Lb hi8)
   refine ⟨{h with str0:=Int.natCast_nonneg _,str1:= ?_,strL:=fun e=>absurd h1 e},h1,h2,rfl⟩
   show ((s.str.toNat|||2 ^ i:Nat):Int)≤255
   omega
 · cases e
theorem Q0w {s t:Q7} (h:s.right) {own more:Int} (e:Vz s own more=some t):t.right∧t.st=3∧t.own=own∧t.ver=s.ver:=by
 unfold Vz at e
 split at e
 · rename_i hm
   obtain ⟨hm1,hm2,hm3,hm4⟩:=hm
   obtain ⟨h1,h2⟩:=Dv.1 hm1
   cases e
   have hge:2 ^ more.toNat≤s.str.toNat:=Nat.ge_two_pow_of_testBit hm4
   have hs0:=h.str0;have hs1:=h.str1
   generalize 2 ^ more.toNat=P at hge
   refine ⟨{h with str0:= ?_,str1:= ?_,strL:=fun e=>absurd h1 e},h1,h2,rfl⟩
   · show (0:Int)≤s.str - (P:Int)
     omega
   · show s.str - (P:Int)≤255
     omega
 · cases e
theorem Q5w {s t:Q7} (h:s.right) {d:Nat} {own more:Int} (o0:0≤own) (o1:own≤15) (e:chg d s own more=some t):t.right:=by
 have T:∀st:Int,0≤st→st≤6→(toV s st own).right:=fun st a b=>G7 h a b o0 o1
 have L:=D5 h o0 o1
 unfold chg at e
 split at e
 case h_15=>exact (Q0M h e).1
 case h_16=>exact (Q0w h e).1
 case h_11=>
  split at e
  · rename_i hc
    cases e
    have h2:=Q3o.1 (by simp only [Bool.and_eq_true] at hc;exact hc.1)
    exact {h with mkI:=fun e=>absurd h2 e}
  · cases e
 case h_12=>
  split at e
  · rename_i hc
    cases e
    simp only [Bool.and_eq_true] at hc
    exact KY h o0 o1 hc.1
  · cases e
 case h_18=>
  split at e
  · rename_i hc
    cases e
    simp only [Bool.and_eq_true] at hc
    exact KY h o0 o1 hc.1
  · cases e
 case h_14=>
  split at e
  · rename_i hc
    cases e
    simp only [Bool.and_eq_true,Bool.or_eq_true,Q3o] at hc
    refine {h with brL:=fun e1 e2 e3=> ?_}
    rcases hc.2 with (h2|h2)|h2
    · exact absurd h2 e1
    · exact absurd h2 e2
    · exact absurd h2 e3
  · cases e
 all_goals repeat' (split at e)
 all_goals first
  |(cases e;done)
  |(cases e;first|exact T _ Lb Lb|exact L)
theorem JF {s t:Q7} (h:s.right) {d:Nat} {own more:Int} (e:Qk s d own more=some t):t.right:=by
 unfold Qk at e
 split at e
 · rename_i ho
   obtain ⟨u,hu,rfl⟩:=Option.map_eq_some_iff.1 e
   have r:=Q5w h ho.1 ho.2 hu
   have v0:=h.ver0
   exact {r with ver0:=by show 0≤(s.ver+1) % 32768;omega,ver1:=by show (s.ver+1) % 32768≤32767;omega}
 · cases e
end
section
open Go.RowKit
structure Fr (S:List Nat) (w w':World):Prop where
 os:w'.os=w.os
 tape:w'.tape=w.tape
 output:w'.output=w.output
 size:w.heap.size≤w'.heap.size
 block:∀k,k<w.heap.size→k∉S→w'.heap[k]?=w.heap[k]?
theorem Fr.refl (S:List Nat) (w:World):Fr S w w:=⟨rfl,rfl,rfl,Nat.le_refl _,fun _ _ _=>rfl⟩
theorem Fr.trans {S:List Nat} {a b c:World} (h:Fr S a b) (k:Fr S b c):Fr S a c:=
 ⟨k.os.trans h.os,k.tape.trans h.tape,k.output.trans h.output,Nat.le_trans h.size k.size,fun i hi hs=>(k.block i (Nat.lt_of_lt_of_le hi h.size) hs).trans (h.block i hi hs)⟩
theorem Fr.mono {S S':List Nat} {w w':World} (h:Fr S w w') (hs:∀k,k∈S→k∈S'):Fr S' w w':=
 ⟨h.os,h.tape,h.output,h.size,fun k hk hn=>h.block k hk fun m=>hn (hs k m)⟩
theorem Fr.drop {S S':List Nat} {w w':World} (h:Fr S w w') (hs:∀k,k∈S→k∈S'∨w.heap.size≤k):Fr S' w w':=
 ⟨h.os,h.tape,h.output,h.size,fun k hk hn=>h.block k hk fun m=>(hs k m).elim hn (fun hle=>Lb)⟩
theorem Fr.then {S S':List Nat} {a b c:World} (h:Fr S a b) (k:Fr S' b c) (hs:∀x,x∈S'→x∈S∨a.heap.size≤x):Fr S a c:=
 ⟨k.os.trans h.os,k.tape.trans h.tape,k.output.trans h.output,Nat.le_trans h.size k.size,
  fun i hi hn=>(k.block i (Nat.lt_of_lt_of_le hi h.size) (fun m=>(hs i m).elim hn (fun hle=>Lb))).trans (h.block i hi hn)⟩
theorem Fr.drew {S:List Nat} {a w:World} (h:Fr S a w):Fr S a w.drew:=⟨h.os,h.tape,h.output,h.size,h.block⟩
theorem Fr.alloc {S:List Nat} {a w:World} (h:Fr S a w) (o:Obj):Fr S a (w.alloc o):=
 h.trans ⟨rfl,rfl,rfl,Lc,fun k hk _=>Below.heap_alloc _ _ _ hk⟩
theorem Z0J {P:Prop} (h:P:=by
 refine ⟨h.os,h.tape,h.output,by simpa [World.setCell] using h.size,fun k hk hn=> ?_⟩
 rw [Below.heap_setCell _ _ _ _ (fun e=>hp.elim (fun m=>hn (by rw [e];exact m)) (fun hle=>Lb))]
 exact h.block k hk hn):P:=h
theorem Fr.setCell {S:List Nat} {a w:World} (h:Fr S a w) {p:Addr} (hp:p.block∈S∨a.heap.size≤p.block) (u:Value):Fr S a (w.setCell p u):=by
 exact Z0J
theorem Fr.grown {S:List Nat} {a w w':World} {row:Option Nat} (h:Fr S a w) (hg:w.grownBy w' row) (hr:∀k,row=some k→k∈S∨a.heap.size≤k):Fr S a w':=
 ⟨hg.os.trans h.os,hg.tape.trans h.tape,hg.output.trans h.output,Nat.le_trans h.size hg.size,
  fun k hk hn=>(hg.block k (Nat.lt_of_lt_of_le hk h.size) (fun e=>(hr k e.symm).elim hn (fun hle=>Lb))).trans (h.block k hk hn)⟩
theorem Fr.drewN {S:List Nat} {a w:World} (h:Fr S a w) (n:Nat):Fr S a (w.drewN n):=⟨h.os,h.tape,h.output,h.size,h.block⟩
theorem Fr.below {S:List Nat} {w w':World} {B:Nat} (h:Fr S w w') (hB:B≤w.heap.size) (hs:∀k,k∈S→B≤k):Below B w w':=
 ⟨h.os,h.tape,h.output,h.size,fun k hk=>h.block k Lb (fun m=>by have:=hs k m;omega)⟩
theorem Fr.at {S:List Nat} {w w':World} (h:Fr S w w') {k:Nat} {o:Obj} (hk:w.heap[k]?=some o) (hs:k∉S):w'.heap[k]?=some o:=
 (h.block k (Array.getElem?_eq_some_iff.1 hk).1 hs).trans hk
theorem Fr.cell {S:List Nat} {w w':World} (h:Fr S w w') {p:Addr} {v:Value} (hc:w.cell? p=some v) (hs:p.block∉S):w'.cell? p=some v:=
 (World.cell?_of_block (w:=w) (h.block p.block (World.block_lt_of_cell? w p hc) hs)).trans hc
theorem heap_setCell_same {w:World} {b i:Nat} {c:Array Value} {t:TypeId} {z:Nat×Nat} (h:w.heap[b]?=some (.cells c t z)) (v:Value):
 (w.setCell ⟨b,i,none⟩ v).heap[b]?=some (.cells (c.setIfInBounds i v) t z):=by
 simp [World.setCell,Array.getElem?_modify,h]
theorem Xy {w:World} {a:Addr} {b:Nat} {o:Obj} (h:w.heap[b]?=some o) (hne:b≠a.block) (v:Value):(w.setCell a v).heap[b]?=some o:=by
 rw [Below.heap_setCell _ _ _ _ hne];exact h
theorem Qh {w:World} {b:Nat} {o:Obj} (h:w.heap[b]?=some o) (o':Obj):(w.alloc o').heap[b]?=some o:=by
 rw [Below.heap_alloc _ _ _ (Array.getElem?_eq_some_iff.1 h).1];exact h
theorem Q9 {w:World} {b:Nat} {o:Obj} (h:w.heap[b]?=some o):b<w.heap.size:=(Array.getElem?_eq_some_iff.1 h).1
theorem cell_of {w:World} {b i:Nat} {c:Array Value} {t:TypeId} {z:Nat×Nat} (h:w.heap[b]?=some (.cells c t z)) {v:Value} (hv:c[i]?=some v):w.cell? ⟨b,i,none⟩=some v:=by
 simp [World.cell?,h,hv]
theorem Qb {w:World} {b i:Nat} {c:Array Value} {t:TypeId} (h:w.heap[b]?=some (.cells c t (0,0))):w.frozen? ⟨b,i,none⟩=false:=by
 simp [World.frozen?,h]
@[simp] theorem drew_heap (w:World):w.drew.heap=w.heap:=rfl
theorem J8 {P:Program} (w:World) {t:TypeId} {ps rs:Array TypeId} {v:Bool} (h:P.underlying t=some (.func ps rs v)) (f:Fn) (a b:Array Value):
 (binOp .eql t (.func f a b) .nilFunc).run P w=.ok (.bool false) w:=by
 have hd:∀d:Nat,(Op.equalIn (d+1) t (.func f a b) .nilFunc).run P w=.ok false w:=fun d=>by simp [Op.equalIn,run_underlying h]
 simp only [binOp]
 simp [Op.equal,Op.maxDepth,hd 9999]
abbrev Blk:=Nat→Prop
structure Stp (O:Blk) (W W':World):Prop where
 os:W'.os=W.os
 tape:W'.tape=W.tape
 output:W'.output=W.output
 size:W.heap.size≤W'.heap.size
 block:∀k,k<W.heap.size→¬O k→W'.heap[k]?=W.heap[k]?
theorem Stp.refl (O:Blk) (W:World):Stp O W W:=⟨rfl,rfl,rfl,Nat.le_refl _,fun _ _ _=>rfl⟩
theorem Stp.then {O O':Blk} {a b c:World} (h:Stp O a b) (k:Stp O' b c) (hs:∀x,O' x→O x∨a.heap.size≤x):Stp O a c:=
 ⟨k.os.trans h.os,k.tape.trans h.tape,k.output.trans h.output,Nat.le_trans h.size k.size,
  fun i hi hn=>(k.block i (Nat.lt_of_lt_of_le hi h.size) (fun m=>(hs i m).elim hn (fun hle=>Lb))).trans (h.block i hi hn)⟩
theorem Stp.mono {O O':Blk} {a b:World} (h:Stp O a b) (hs:∀x,O x→O' x):Stp O' a b:=
 ⟨h.os,h.tape,h.output,h.size,fun k hk hn=>h.block k hk fun m=>hn (hs k m)⟩
theorem Stp.alloc {O:Blk} {a w:World} (h:Stp O a w) (o:Obj):Stp O a (w.alloc o):=
 h.then (O':=fun _=>False) ⟨rfl,rfl,rfl,Lc,fun k hk _=>Below.heap_alloc _ _ _ hk⟩ (fun _ hx=>hx.elim)
theorem Stp.drew {O:Blk} {a w:World} (h:Stp O a w):Stp O a w.drew:=⟨h.os,h.tape,h.output,h.size,h.block⟩
theorem Stp.setCell {O:Blk} {a w:World} (h:Stp O a w) {p:Addr} (hp:O p.block∨a.heap.size≤p.block) (u:Value):Stp O a (w.setCell p u):=by
 exact Z0J
theorem Stp.putObj {O:Blk} {a w:World} (h:Stp O a w) {l:Nat} (hl:O l∨a.heap.size≤l) (o:Obj):Stp O a (w.putObj l o):=by
 refine ⟨h.os,h.tape,h.output,by simpa using h.size,fun k hk hn=> ?_⟩
 rw [World.putObj_heap_other (fun e=>hl.elim (fun m=>hn (by rw [e];exact m)) (fun hle=>Lb))]
 exact h.block k hk hn
theorem Stp.Z9 {S:List Nat} {w w':World} (h:Fr S w w'):Stp (fun k=>k∈S) w w':=⟨h.os,h.tape,h.output,h.size,h.block⟩
theorem Stp.Gq {O:Blk} {S:List Nat} {w w':World} (h:Stp O w w') (hs:∀x,O x→x∈S∨w.heap.size≤x):Fr S w w':=
 ⟨h.os,h.tape,h.output,h.size,fun k hk hn=>h.block k hk fun m=>(hs k m).elim hn (fun hle=>Lb)⟩
theorem Stp.at {O:Blk} {w w':World} (h:Stp O w w') {k:Nat} {o:Obj} (hk:w.heap[k]?=some o) (hs:¬O k):w'.heap[k]?=some o:=
 (h.block k (Array.getElem?_eq_some_iff.1 hk).1 hs).trans hk
theorem Stp.cell {O:Blk} {w w':World} (h:Stp O w w') {p:Addr} {v:Value} (hc:w.cell? p=some v) (hs:¬O p.block):w'.cell? p=some v:=
 (World.cell?_of_block (w:=w) (h.block p.block (World.block_lt_of_cell? w p hc) hs)).trans hc
def Grw (O O':Blk) (W W':World):Prop:=∀b,O' b→b<W'.heap.size∧(O b∨W.heap.size≤b)
theorem Grw.refl {O:Blk} {W:World} (h:∀b,O b→b<W.heap.size):Grw O O W W:=fun b hb=>⟨h b hb,.inl hb⟩
theorem Grw.then {O O' O'':Blk} {a b c:World} (h:Grw O O' a b) (hs:a.heap.size≤b.heap.size) (k:Grw O' O'' b c):Grw O O'' a c:=fun x hx=>by
 obtain ⟨h1,h2⟩:=k x hx
 refine ⟨h1, ?_⟩
 rcases h2 with h2|h2
 · exact (h x h2).2
 · exact .inr Lb
def Stable (B:Nat) (J:Nat→World→Blk→Prop):Prop:=
 ∀k W O W',J k W O→W'.os=W.os→W'.tape=W.tape→W'.output=W.output→W.heap.size≤W'.heap.size→(∀b,(O b∨b<B)→W'.heap[b]?=W.heap[b]?)→J k W' O
theorem Stable.putObj {B:Nat} {J:Nat→World→Blk→Prop} (h:Stable B J) {k:Nat} {W:World} {O:Blk} {l:Nat} (hj:J k W O) (hl:¬O l) (hB:B≤l) (o:Obj):J k (W.putObj l o) O:=
 h k W O _ hj rfl rfl rfl Lc (fun b hb=>World.putObj_heap_other (fun e=>by subst e;rcases hb with h1|h1;exact hl h1;omega))
theorem Stable.alloc {B:Nat} {J:Nat→World→Blk→Prop} (h:Stable B J) {k:Nat} {W:World} {O:Blk} (hj:J k W O) (hO:∀b,O b→b<W.heap.size) (hB:B≤W.heap.size) (o:Obj):J k (W.alloc o) O:=
 h k W O _ hj rfl rfl rfl Lc (fun b hb=>Below.heap_alloc _ _ _ (by rcases hb with h1|h1;exact hO b h1;omega))
def EZ (P:Program) (l:Nat) (args:Array Value) (W:World) (R:Ending→World→Prop):Prop:=YieldAt Fence.wide 0 P l args W R
def Q7F (J Jx:Nat→World→Blk→Prop) (n:Nat) (O:Blk) (W:World) (e:Ending) (W':World):Prop:=
 (∃v,e=.returned v)∧((∃O',J n W' O'∧Stp O W W'∧Grw O O' W W')∨(∃k O',k≤n∧Jx k W' O'∧Stp O W W'∧Grw O O' W W'))
def Q7H {α:Type} (P:Program) (w:World) (C:Blk) (g:FuncId) (lb:Array Value) (enc:α→Array Value) (xs:List α):Prop:=
 (∀b,C b→b<w.heap.size)∧
 ∀(W:World) (l:Nat) (O:Blk) (J Jx:Nat→World→Blk→Prop),
  w.heap.size≤W.heap.size→(∀b,C b→W.heap[b]?=w.heap[b]?)→(∀b,C b→¬O b)→(∀b,O b→b<W.heap.size)→Stable W.heap.size J→Stable W.heap.size Jx→
  (∀k x W1 O1,xs[k]?=some x→J k W1 O1→(∀b,O1 b→b<W1.heap.size)→EZ P l (enc x) W1 fun e W2=>
    (e=.returned (.bool true)∧∃O2,J (k+1) W2 O2∧Stp O1 W1 W2∧Grw O1 O2 W1 W2)∨
    (e=.returned (.bool false)∧∃O2,Jx (k+1) W2 O2∧Stp O1 W1 W2∧Grw O1 O2 W1 W2))→
  J 0 W O→
  Calls P g (#[.func (.yield l) #[] #[]]++lb) W (Q7F J Jx xs.length O W)
theorem Et {P:Program} {l:Nat} {f:FuncId} {tmps:Array Value} {assign body:Code} {w:World} {R:Ending→World→Prop} {n:Nat} (m:Nat) (h:RoundIn Fence.wide n P l f tmps assign body w R):RoundIn Fence.wide m P l f tmps assign body w R:=
 ⟨h.1,fun c cs _=>h.2 c cs (room_wide _)⟩
theorem EZ.at {P:Program} {l:Nat} {args:Array Value} {W:World} {R:Ending→World→Prop} (h:EZ P l args W R) (m:Nat):YieldAt Fence.wide m P l args W R:=by
 obtain ⟨fn,tmps,assign,body,hy,hR⟩:=h
 exact ⟨fn,tmps,assign,body,hy,Et m hR⟩
def roundEnd (I:Nat→World→Blk→Prop) (Ix:Code→Nat→World→Blk→Prop) (k:Nat) (O:Blk) (W:World):Exit→Act→World→Prop
 |.normal,_,W'=>∃O',Stp O W W'∧Grw O O' W W'∧I (k+1) W' O'
 |.ret,_,W'=>∃O',Stp O W W'∧Grw O O' W W'∧Ix .ret (k+1) W' O'
 |.exit id,_,W'=>∃O',Stp O W W'∧Grw O O' W W'∧Ix (.exit id) (k+1) W' O'
 |.goto t,_,W'=>∃O',Stp O W W'∧Grw O O' W W'∧Ix (.goto t) (k+1) W' O'
 |.panic _,_,_=>False
 |.outgrown,_,_=>False
def Q7M (P:Program) (l:Nat) (body:Code) (B:Nat) (I:Nat→World→Blk→Prop) (Ix:Code→Nat→World→Blk→Prop) (k:Nat) (O:Blk) (W:World) (a':Act) (W':World):Prop:=
 W=W'∧∀W2,I k W2 O→(∀b,O b→b<W2.heap.size)→B≤W2.heap.size→body.wpIn (Fence.wide.inRound l) 0 P (roundEnd I Ix k O W2) a' W2
theorem EJ {P:Program} {n:Nat} {fn:Func} {R:Ending→World→Prop} {tmps:Array Value} {D:Nat} {W:World} (v:Value) (hK:W.heap[D]?=some (.deferred (some [])))
 (hv:∀w,(results fn tmps).run P w=.ok v w) (hR:R (.returned v) (W.putObj D (.deferred none))):
 bodyPostM Fence.wide n P fn R .normal {tmps,defers:=[{target:=.collected D,args:=#[]}]} W:=by
 refine ⟨Lc,.inl ⟨_,_,rfl,run_takeDeferred hK, ?_⟩⟩
 exact ⟨v,hv _,hR⟩
def Xx (B:Nat) (E:Blk) (J:Nat→World→Blk→Prop):Prop:=
 ∀k W O W',J k W O→W'.os=W.os→W'.tape=W.tape→W'.output=W.output→W.heap.size≤W'.heap.size→(∀b,(O b∨(b<B∧¬E b))→W'.heap[b]?=W.heap[b]?)→J k W' O
theorem Xx.setCell {B:Nat} {E:Blk} {J:Nat→World→Blk→Prop} (h:Xx B E J) {k:Nat} {W:World} {O:Blk} {l i:Nat} (hj:J k W O) (hl:¬O l) (hB:B≤l∨E l) (v:Value):J k (W.setCell ⟨l,i,none⟩ v) O:=
 h k W O _ hj rfl rfl rfl (by simp [World.setCell]) (fun b hb=>Below.heap_setCell _ _ _ _ (fun e=>by
   have e':b=l:=e
   subst e'
   rcases hb with h1|h1
   · exact hl h1
   · rcases hB with h2|h2
     · omega
     · exact h1.2 h2))
theorem Xx.putObj {B:Nat} {E:Blk} {J:Nat→World→Blk→Prop} (h:Xx B E J) {k:Nat} {W:World} {O:Blk} {l:Nat} (hj:J k W O) (hl:¬O l) (hB:B≤l) (o:Obj):J k (W.putObj l o) O:=
 h k W O _ hj rfl rfl rfl Lc (fun b hb=>World.putObj_heap_other (fun e=>by subst e;rcases hb with h1|h1;exact hl h1;omega))
theorem Xx.never {B:Nat} {E:Blk}:Xx B E (fun _ _ _=>False):=fun _ _ _ _ h _ _ _ _ _=>h
def Q5E (E:Blk) (T:Nat→World→Prop) (tick:Nat→Nat) (tend:Nat) (J Jx:Nat→World→Blk→Prop) (n:Nat) (O:Blk) (W:World) (e:Ending) (W':World):Prop:=
 (∃v,e=.returned v)∧((∃O',J n W' O'∧T tend W'∧Stp (fun b=>O b∨E b) W W'∧Grw O O' W W')∨(∃k O',k<n∧Jx (k+1) W' O'∧T (tick k) W'∧Stp (fun b=>O b∨E b) W W'∧Grw O O' W W'))
def Q7G {α:Type} (P:Program) (w:World) (C E:Blk) (T:Nat→World→Prop) (tick:Nat→Nat) (tend:Nat) (g:FuncId) (lb:Array Value) (enc:α→Array Value) (xs:List α):Prop:=
 (∀b,C b∨E b→b<w.heap.size)∧(∀(j:Nat) (W W':World),T j W→(∀b,E b→W'.heap[b]?=W.heap[b]?)→T j W')∧
 ∀(W:World) (l:Nat) (O:Blk) (J Jx:Nat→World→Blk→Prop),
  w.heap.size≤W.heap.size→(∀b,C b∨E b→W.heap[b]?=w.heap[b]?)→(∀b,C b∨E b→¬O b)→(∀b,O b→b<W.heap.size)→Xx W.heap.size E J→Xx W.heap.size E Jx→
  (∀k x W1 O1,xs[k]?=some x→J k W1 O1→T (tick k) W1→(∀b,O1 b→b<W1.heap.size)→EZ P l (enc x) W1 fun e W2=>
    (e=.returned (.bool true)∧∃O2,J (k+1) W2 O2∧Stp O1 W1 W2∧Grw O1 O2 W1 W2)∨
    (e=.returned (.bool false)∧∃O2,Jx (k+1) W2 O2∧Stp O1 W1 W2∧Grw O1 O2 W1 W2))→
  J 0 W O→
  Calls P g (#[.func (.yield l) #[] #[]]++lb) W (Q5E E T tick tend J Jx xs.length O W)
theorem Z0y {P:Prop} (h:P:=by
 obtain ⟨O3,h3,g3,hi3⟩:=hp
 obtain ⟨W4,e4,he,n1,n0,bd,l4,k4,s4,gr4,sW,gW⟩:=fin (some (.exit id)) W3 O3 h3 g3
 exact ⟨_,_,he,.inr ⟨rfl,_,⟨.exit id,O3,rfl,by rw [e4];exact (hIx _).putObj hi3 n1 Lb _,n1,n0,bd,l4,k4,s4,gr4⟩,sW,gW⟩⟩):P:=h
theorem Z0A {P:Prop} (h:P:=by
 obtain ⟨O3,h3,g3,hi3⟩:=hp
 obtain ⟨W4,e4,he,n1,n0,bd,l4,k4,s4,gr4,sW,gW⟩:=fin (some (.goto t)) W3 O3 h3 g3
 exact ⟨_,_,he,.inr ⟨rfl,_,⟨.goto t,O3,rfl,by rw [e4];exact (hIx _).putObj hi3 n1 Lb _,n1,n0,bd,l4,k4,s4,gr4⟩,sW,gW⟩⟩):P:=h
theorem Z0B {P:Prop} (h:P:=by
 obtain ⟨O3,h3,g3,hi3⟩:=hp
 obtain ⟨W4,e4,he,n1,n0,bd,l4,k4,s4,gr4,sW,gW⟩:=fin (some .ret) W3 O3 h3 g3
 exact ⟨_,_,he,.inr ⟨rfl,_,⟨.ret,O3,rfl,by rw [e4];exact (hIx _).putObj hi3 n1 Lb _,n1,n0,bd,l4,k4,s4,gr4⟩,sW,gW⟩⟩):P:=h
theorem Z0G {P:Prop} (h:P:=by
 obtain ⟨O3,h3,g3,hi3⟩:=hp
 obtain ⟨W4,e4,he,n1,n0,bd,l4,k4,s4,gr4,sW,gW⟩:=fin none W3 O3 h3 g3
 exact ⟨_,_,he,.inl ⟨rfl,_,⟨O3,rfl,by rw [e4];exact hI.putObj hi3 n1 Lb _,n1,n0,bd,l4,k4,s4,gr4⟩,sW,gW⟩⟩):P:=h
theorem Z0U {P:Prop} (h:P:=by
 rw [←hW1];have:=World.alloc_heap_new (w.alloc (.deferred (some []))) (.loop (rec .ready none));rwa [World.size_alloc] at this):P:=h
theorem VX {α:Type} {P:Program} {g:Operand} {ps:Array Tmp} {assign body:Code} {Q:Exit→Act→World→Prop} {a:Act} {w:World}
 {gf:Nat} {lb:Array Value} (hg:a.eval g=.func (.func gf) #[] lb) (eg:∀args w,(callFunc gf args).run P w=.ok (.enter gf args) w)
 {C:Blk} {enc:α→Array Value} {xs:List α} {E:Blk} {T:Nat→World→Prop} {tick:Nat→Nat} {tend:Nat} (hseq:Q7G P w C E T tick tend gf lb enc xs) (hps:∀x,(enc x).size=ps.size)
 (I:Nat→World→Blk→Prop) (Ix:Code→Nat→World→Blk→Prop) (hI:Xx w.heap.size E I) (hIx:∀c,Xx w.heap.size E (Ix c))
 (O:Blk) (hO:∀b,O b→b<w.heap.size) (hC:∀b,C b∨E b→¬O b) (h0:I 0 w O)
 (hround:∀(l k:Nat) (x:α) (W:World) (O:Blk),xs[k]?=some x→assign.wpIn (Fence.wide.inRound l) 0 P (Exit.then (Q7M P l body w.heap.size I Ix k O W) (fun _ _ _=>False)) {tmps:=(ps.zip (enc x)).foldl (fun t (p,v)=>t.setIfInBounds p v) a.tmps,defers:=[]} W)
 (hdone:∀(D:Nat) (W':World) (O':Blk),w.heap.size≤D→I xs.length W' O'→T tend W'→Stp (fun b=>O b∨E b) w W'→Grw O O' w W'→W'.heap[D]?=some (.deferred (some []))→¬O' D→Q .normal {a with defers:={target:=.collected D,args:=#[]}::a.defers} W')
 (hstop:∀(D:Nat) (c:Code) (k:Nat) (W':World) (O':Blk),w.heap.size≤D→k<xs.length→Ix c (k+1) W' O'→T (tick k) W'→Stp (fun b=>O b∨E b) w W'→Grw O O' w W'→W'.heap[D]?=some (.deferred (some []))→¬O' D→c.wp P Q {a with defers:={target:=.collected D,args:=#[]}::a.defers} W'):
 (Code.rangeFunc g ps assign body).wp P Q a w:=by
 refine (wpIn_wide (n:=0)).1 (wpIn_rangeFunc ?_)
 intro fn _
 obtain ⟨rec,hrec⟩:∃rec:LoopState→Option Code→Loop,rec=fun st pe=>{state:=st,pending:=pe,fn,tmps:=a.tmps,params:=ps,assign,body,defers:=w.heap.size}:=⟨_,rfl⟩
 obtain ⟨W1,hW1⟩:∃W1,(w.alloc (.deferred (some []))).alloc (.loop (rec .ready none))=W1:=⟨_,rfl⟩
 have hs1:W1.heap.size=w.heap.size+2:=by rw [←hW1];simp
 have hL1:W1.heap[w.heap.size+1]?=some (.loop (rec .ready none)):=by
  exact Z0U
 have hK1:W1.heap[w.heap.size]?=some (.deferred (some [])):=by
  rw [←hW1];exact (Below.heap_alloc _ _ _ Lc).trans (World.alloc_heap_new w _)
 have hE:∀b,E b→b<w.heap.size:=fun b hb=>hseq.1 b (.inr hb)
 have hst1:Stp (fun b=>O b∨E b) w W1:=by rw [←hW1];exact ((Stp.refl _ w).alloc _).alloc _
 have hb1:∀b,b<w.heap.size→W1.heap[b]?=w.heap[b]?:=fun b hb=>by
  rw [←hW1];exact (Below.heap_alloc _ _ _ (by simp;omega)).trans (Below.heap_alloc _ _ _ hb)
 have hI1:I 0 W1 O:=by
  refine hI 0 w O W1 h0 hst1.os hst1.tape hst1.output hst1.size (fun b hb=>hb1 b ?_)
  rcases hb with h|h
  · exact hO b h
  · exact h.1
 have hnO:∀b,w.heap.size≤b→¬O b:=fun b hb ho=>by have:=hO b ho;omega
 refine ⟨w.heap.size+1,[{target:=.collected w.heap.size,args:=#[]}],W1,{target:=.fn (.func gf) lb,args:=#[.func (.yield (w.heap.size+1)) #[] #[]]},W1,gf,
  #[.func (.yield (w.heap.size+1)) #[] #[]]++lb,W1, ?_, ?_, ?_, ?_,fun h=>by simp [Fence.wide] at h, ?_⟩
 · rw [←hW1,hrec];exact run_enterLoop_outer _ _ _ _ _
 · simp only [resolve,hg]
   simp [go_sem]
 · intro f' _;trivial
 · simp [invoke,go_sem,eg]
 · refine callsIn_wide.2 ((hseq.2.2 W1 (w.heap.size+1) (fun b=>O b∨b=w.heap.size+1)
    (fun k W O1=>∃O0,O1=(fun b=>O0 b∨b=w.heap.size+1)∧I k W O0∧¬O0 (w.heap.size+1)∧¬O0 w.heap.size∧(∀b,O0 b→b<W.heap.size)∧W.heap[w.heap.size+1]?=some (.loop (rec .ready none))∧W.heap[w.heap.size]?=some (.deferred (some []))∧Stp (fun b=>O b∨E b) w W∧Grw O O0 w W)
    (fun k W O1=>∃c O0,O1=(fun b=>O0 b∨b=w.heap.size+1)∧Ix c k W O0∧¬O0 (w.heap.size+1)∧¬O0 w.heap.size∧(∀b,O0 b→b<W.heap.size)∧W.heap[w.heap.size+1]?=some (.loop (rec .done (some c)))∧W.heap[w.heap.size]?=some (.deferred (some []))∧Stp (fun b=>O b∨E b) w W∧Grw O O0 w W)
    Lb (fun b hb=>hb1 b (hseq.1 b hb)) (fun b hb ho=>by rcases ho with ho|ho;exact hC b hb ho;have:=hseq.1 b hb;omega)
    (fun b hb=>by rcases hb with hb|hb;have:=hO b hb;omega;omega) ?sJ ?sX ?round ⟨O,rfl,hI1,hnO _ Lb,hnO _ (Nat.le_refl _),fun b hb=>by have:=hO b hb;omega,hL1,hK1,hst1,fun b hb=>⟨by have:=hO b hb;omega,.inl hb⟩⟩).mono ?back)
   case sJ=>
    rintro k W _ W' ⟨O0,rfl,hi,hl0,hk0,hbd,hl,hk,hst,hgr⟩ e1 e2 e3 e4 e5
    have hst':Stp (fun b=>O b∨E b) w W':=⟨e1.trans hst.os,e2.trans hst.tape,e3.trans hst.output,Nat.le_trans hst.size e4,fun b hb hn=>(e5 b (.inr ⟨Lb,fun h=>hn (.inr h)⟩)).trans (hst.block b hb hn)⟩
    refine ⟨O0,rfl,hI k W O0 W' hi e1 e2 e3 e4 (fun b hb=>e5 b ?_),hl0,hk0,fun b hb=>Nat.lt_of_lt_of_le (hbd b hb) e4,(e5 _ (.inl (.inr rfl))).trans hl,(e5 _ (.inr ⟨Lb,fun h=>by have:=hE _ h;omega⟩)).trans hk,hst',fun b hb=>⟨Nat.lt_of_lt_of_le (hbd b hb) e4,(hgr b hb).2⟩⟩
    rcases hb with h|h
    · exact .inl (.inl h)
    · exact .inr ⟨Lb,h.2⟩
   case sX=>
    rintro k W _ W' ⟨c,O0,rfl,hi,hl0,hk0,hbd,hl,hk,hst,hgr⟩ e1 e2 e3 e4 e5
    have hst':Stp (fun b=>O b∨E b) w W':=⟨e1.trans hst.os,e2.trans hst.tape,e3.trans hst.output,Nat.le_trans hst.size e4,fun b hb hn=>(e5 b (.inr ⟨Lb,fun h=>hn (.inr h)⟩)).trans (hst.block b hb hn)⟩
    refine ⟨c,O0,rfl,hIx c k W O0 W' hi e1 e2 e3 e4 (fun b hb=>e5 b ?_),hl0,hk0,fun b hb=>Nat.lt_of_lt_of_le (hbd b hb) e4,(e5 _ (.inl (.inr rfl))).trans hl,(e5 _ (.inr ⟨Lb,fun h=>by have:=hE _ h;omega⟩)).trans hk,hst',fun b hb=>⟨Nat.lt_of_lt_of_le (hbd b hb) e4,(hgr b hb).2⟩⟩
    rcases hb with h|h
    · exact .inl (.inl h)
    · exact .inr ⟨Lb,h.2⟩
   case round=>
    rintro k x W _ hx ⟨O0,rfl,hi,hl0,hk0,hbd,hl,hk,hst,hgr⟩ _ _
    have hlt:w.heap.size+1<W.heap.size:=(Array.getElem?_eq_some_iff.1 hl).1
    have hy:=run_yield (P:=P) (args:=enc x) hl (by rw [hrec];exact hps x)
    rw [hrec] at hy
    refine ⟨fn,_,assign,body,hy,roundIn_of_wpIn trivial (wpIn_mono (hround _ k x W O0 hx) ?_)⟩
    clear hy
    intro e a' W' he
    cases e with
    |normal=> ?_
    |exit id=>exact he.elim
    |goto t=>exact he.elim
    |ret=>exact he.elim
    |panic ch=>exact he.elim
    |outgrown=>exact he.elim
    obtain ⟨rfl,hbody⟩:=he
    refine ⟨_,run_beginRound hl (by rw [hrec]), ?_⟩
    obtain ⟨W2,hW2⟩:∃W2,W.putObj (w.heap.size+1) (.loop {rec .ready none with state:=.busy})=W2:=⟨_,rfl⟩
    rw [hW2]
    have hs2:W2.heap.size=W.heap.size:=by rw [←hW2];simp
    have hl2:W2.heap[w.heap.size+1]?=some (.loop {rec .ready none with state:=.busy}):=by rw [←hW2];exact World.putObj_heap_same hlt
    have hk2:W2.heap[w.heap.size]?=some (.deferred (some [])):=by rw [←hW2];exact (World.putObj_heap_other Lb).trans hk
    have hi2:I k W2 O0:=by rw [←hW2];exact hI.putObj hi hl0 Lb _
    have hst2:Stp (fun b=>O b∨E b) w W2:=by rw [←hW2];exact hst.putObj (.inr Lb) _
    have hstW:Stp (fun b=>O0 b∨b=w.heap.size+1) W W2:=by rw [←hW2];exact (Stp.refl _ _).putObj (.inl (.inr rfl)) _
    refine wpIn_mono (hbody W2 hi2 (fun b hb=>by rw [hs2];exact hbd b hb) hst2.size) ?_
    -- what any way out of the body owes
    have fin:∀(jump:Option Code) (W3:World) (O3:Blk),Stp O0 W2 W3→Grw O0 O3 W2 W3→∃W4,W4=W3.putObj (w.heap.size+1) (.loop (rec (if jump.isNone then .ready else .done) jump))∧
     (Instr.endRound (w.heap.size+1) jump).run P W3=.ok (.bool jump.isNone) W4∧¬O3 (w.heap.size+1)∧¬O3 w.heap.size∧(∀b,O3 b→b<W4.heap.size)∧
     W4.heap[w.heap.size+1]?=some (.loop (rec (if jump.isNone then .ready else .done) jump))∧W4.heap[w.heap.size]?=some (.deferred (some []))∧Stp (fun b=>O b∨E b) w W4∧Grw O O3 w W4∧
     Stp (fun b=>O0 b∨b=w.heap.size+1) W W4∧Grw (fun b=>O0 b∨b=w.heap.size+1) (fun b=>O3 b∨b=w.heap.size+1) W W4:=fun jump W3 O3 h3 g3=>by
     have hl3:=h3.at hl2 hl0
     have hk3:=h3.at hk2 hk0
     have he:=run_endRound (P:=P) jump hl3
     rw [hrec] at he ⊢
     have n1:¬O3 (w.heap.size+1):=fun hb=>by rcases (g3 _ hb).2 with h|h;exact hl0 h;omega
     have n0:¬O3 w.heap.size:=fun hb=>by rcases (g3 _ hb).2 with h|h;exact hk0 h;omega
     have s4:=h3.size
     have e4:(W3.putObj (w.heap.size+1) (.loop (rec (if jump.isNone then .ready else .done) jump))).heap.size=W3.heap.size:=Lc
     rw [hrec] at e4
     refine ⟨_,rfl,he,n1,n0,fun b hb=>by rw [e4];exact (g3 b hb).1,World.putObj_heap_same (Array.getElem?_eq_some_iff.1 hl3).1,(World.putObj_heap_other Lb).trans hk3, ?_, ?_, ?_, ?_⟩
     · exact (hst2.then h3 (fun b hb=>(hgr b hb).2.imp .inl id)).putObj (.inr Lb) _
     · intro b hb
       refine ⟨by rw [e4];exact (g3 b hb).1, ?_⟩
       rcases (g3 b hb).2 with h|h
       · exact (hgr b h).2
       · right;omega
     · exact (hstW.then h3 (fun b hb=>.inl (.inl hb))).putObj (.inl (.inr rfl)) _
     · intro b hb
       rcases hb with hb|hb
       · refine ⟨by rw [e4];exact (g3 b hb).1, ?_⟩
         rcases (g3 b hb).2 with h|h
         · exact .inl (.inl h)
         · right;omega
       · subst hb
         exact ⟨by rw [e4];omega,.inl (.inr rfl)⟩
    rintro e a3 W3 hp
    cases e with
    |normal=>
     exact Z0G
    |ret=>
     exact Z0B
    |exit id=>
     exact Z0y
    |goto t=>
     exact Z0A
    |panic ch=>exact hp.elim
    |outgrown=>exact hp.elim
   case back=>
    rintro e W2 ⟨⟨v,rfl⟩,(⟨_,⟨O0,rfl,hi,hl0,hk0,hbd,hl,hk,hst,hgr⟩,hT,_,_⟩|⟨k,_,hkx,⟨c,O0,rfl,hi,hl0,hk0,hbd,hl,hk,hst,hgr⟩,hT,_,_⟩)⟩
    · have he:=run_endLoop (P:=P) hl (by rw [hrec];simp)
      rw [hrec] at he
      refine ⟨none,_,he,hdone _ _ O0 (Nat.le_refl _) (hI.putObj hi hl0 Lb _) (hseq.2.1 _ _ _ hT (fun b hb=>World.putObj_heap_other (fun e=>by have:=hE b hb;omega))) (hst.putObj (.inr Lb) _) (fun b hb=>⟨by simpa using hbd b hb,(hgr b hb).2⟩) ((World.putObj_heap_other Lb).trans hk) hk0⟩
    · have he:=run_endLoop (P:=P) hl (by rw [hrec];simp)
      rw [hrec] at he
      refine ⟨some c,_,he,(wpIn_wide (n:=0)).2 (hstop _ c k _ O0 (Nat.le_refl _) hkx ((hIx c).putObj hi hl0 Lb _) (hseq.2.1 _ _ _ hT (fun b hb=>World.putObj_heap_other (fun e=>by have:=hE b hb;omega))) (hst.putObj (.inr Lb) _) (fun b hb=>⟨by simpa using hbd b hb,(hgr b hb).2⟩) ((World.putObj_heap_other Lb).trans hk) hk0)⟩
def XM (w:World) (g:Option Addr) (L:List Int):Prop:=
 L.length≤9223372036854775807∧∀(j:Nat) (x:Int),L[j]?=some x→∃b o,g=some ⟨b,o,none⟩∧w.cell? ⟨b,o+j,none⟩=some (.int .i64 x)
theorem XM.empty (w:World) (g:Option Addr):XM w g []:=⟨Lc,fun j x h=>by simp at h⟩
theorem XM.base {w:World} {g:Option Addr} {L:List Int} (h:XM w g L) (hn:L≠[]):
 ∃b o,g=some ⟨b,o,none⟩∧∀(j:Nat) (x:Int),L[j]?=some x→w.cell? ⟨b,o+j,none⟩=some (.int .i64 x):=by
 cases L with
 |nil=>exact absurd rfl hn
 |cons a l=>
  obtain ⟨b,o,hg,_⟩:=h.2 0 a rfl
  refine ⟨b,o,hg,fun j x hx=> ?_⟩
  obtain ⟨b',o',hg',hc⟩:=h.2 j x hx
  rw [hg] at hg'
  simp only [Option.some.injEq,Addr.mk.injEq,and_true] at hg'
  obtain ⟨rfl,rfl⟩:=hg'
  exact hc
theorem XM.fr {S:List Nat} {w w':World} {g:Option Addr} {L:List Int} (h:XM w g L) (f:Fr S w w') (hs:∀a,g=some a→a.block∉S):XM w' g L:=
 ⟨h.1,fun j x hx=>let ⟨b,o,hg,hc⟩:=h.2 j x hx;⟨b,o,hg,f.cell hc (hs ⟨b,o,none⟩ hg)⟩⟩
theorem XM.Q8I {w:World} {base e n c:Nat} {g:Nat} {L:List Int} (h:w.ownsRow base e 1 (.slice (some ⟨g,0,none⟩) n c) n (L.map (Value.int .i64))):XM w (some ⟨g,0,none⟩) L:=by
 have hl:L.length=n:=by have:=h.1;simpa using this
 refine ⟨?_,fun j x hx=>⟨g,0,rfl, ?_⟩⟩
 · rcases h.2 with ⟨h',_⟩|⟨g',cap',cur,h',_,hg,hl',hm,_⟩
   · simp at h'
   · simp only [Value.slice.injEq,Option.some.injEq,Addr.mk.injEq,and_true,true_and] at h'
     obtain ⟨rfl,rfl⟩:=h'
     unfold maxLen at hm
     omega
 · have hj:j<L.length:=(List.getElem?_eq_some_iff.1 hx).1
   have:=h.cellAt j Lb
   rw [Nat.zero_add,this,List.getElem?_map,hx]
   rfl
theorem Hf {L:List Int} {k:Nat} (h:k<L.length):L[k]?=some (L.getD k 0):=by
 simp [h]
end
end Go.Proofs.YtgjklfmnmljilaaGreatDoor

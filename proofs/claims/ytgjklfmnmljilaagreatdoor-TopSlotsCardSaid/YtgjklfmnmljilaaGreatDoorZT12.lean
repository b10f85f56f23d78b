/- A part of the proof: TpHn to TpD. -/
import Derived.Test.YtgjklfmnmljilaaGreatDoorZT03
import Derived.Test.YtgjklfmnmljilaaGreatDoorZT10
import Derived.Test.YtgjklfmnmljilaaGreatDoorZT11
namespace Go.Proofs.YtgjklfmnmljilaaGreatDoor
set_option linter.unusedVariables false
set_option linter.unusedSimpArgs false
set_option linter.unusedSectionVars false
set_option linter.unnecessarySimpa false
set_option maxRecDepth 100000
set_option maxHeartbeats 8000000
section
open Go.RowKit Go.Shelf Go.Lib
attribute [local go_sem] Oper.semAt_some
abbrev Xo (f:Nat) (s:Q8) (own more:Int) (t:Q8) (b:Bool):Prop:=∀w,Calls Tryz.prog f #[Xv s own more] w fun e w'=>e=.returned (.tuple #[t.val,.bool b])∧Fr [] w w'
theorem ten (s:Q8) (own more:Int) (h:s.right):Xo 125 s own more (toV s 1 own) (isV s 0)∧Xo 126 s own more (Jt s own) (Jj s 1 own)∧Xo 127 s own more (toV s 0 own) (Jj s 1 own)∧Xo 128 s own more (Jt s own) (JL s)∧Xo 130 s own more (toV s 4 own) (JL s)∧Xo 131 s own more (toV s 2 own) (isV s 4)∧Xo 132 s own more (toV s 5 own) (isV s 0)∧Xo 133 s own more (toV s 0 own) (isV s 5)∧Xo 134 s own more (toV s 2 own) (isV s 2)∧Xo 137 s own more (toV s 0 own) (isV s 6):=by
 unfold isV Xo
 refine ⟨?_, ?_, ?_, ?_, ?_, ?_, ?_, ?_, ?_, ?_⟩
 all_goals
  intro w
  unfold Xv
  go_in
  go_wp2_with fail
  generalize hw:World.alloc w _=w1,hb:(World.heap w).size=b
  generalize hw2:World.alloc w1 _=w2
  have B:=(Bag.nil [] w).al2 hw hb hw2
  clear hb hw hw2
  refine rga 1 B fun _ B=> ?_
  refine tj 0 ?_
  refine tj 2 ?_
  refine tc 1 fun K hK=> ?_
  go_simp
  first
  |refine (U9 _ s own more _ (by decide) (by decide)).mono ?_
  |refine (Uv _ s own more h).mono ?_
  rintro e w3 ⟨rfl,f⟩
  replace B:=B.tm f
  dsimp only [Q8.val]
  go_wp2_with fail
  refine bk hK ?_
  clear hK K
  try go_frame
  refine tc 3 fun K hK=> ?_
  go_simp
  first
  |refine (Ve _ s own more _).mono ?_
  |refine (YS _ s own more _).mono ?_
  |refine (Q4w _ s own more).mono ?_
  rintro e w4 ⟨rfl,f⟩
  replace B:=B.tm f
  go_wp2_with fail
  refine bk hK ?_
  clear hK K
  try go_frame
  have q:=B.q 1;have u:=B.u 1
  refine tc 4 fun K hK=> ?_
  go_simp
  clear q u
  generalize hw:World.setCell _ _ _=w5
  replace B:=(((((((((B.s 1).s 1).s 1).s 1).s 1).s 1).s 1).s 1).s 1).e hw
  refine bk hK ?_
  clear hK K
  try go_frame
  refine tb ?_
  refine wpAnyH_done (by decide+kernel) ?_ _
  have q:=B.q 1
  go_wp2
  refine ⟨rfl,_, ?_,rfl,B.fr⟩
  simp [results,Tryz.f125,Tryz.f126,Tryz.f127,Tryz.f128,Tryz.f130,Tryz.f131,Tryz.f132,Tryz.f133,Tryz.f134,Tryz.f137,go_sem,q,Q8.val]
theorem Q5h (s:Q8) (own more:Int):Xo 204 s own more (ZA s own more) (ZH more):=by
 intro w
 have hcase:(decide (0≤more)=true∧decide (more≤4095)=true)∨(decide (0≤more)=true∧decide (more≤4095)=false)∨decide (0≤more)=false:=by cases decide (0≤more)<;>cases decide (more≤4095)<;>simp
 unfold Xv ZH
 rcases hcase with ⟨h1,h2⟩|⟨h1,h2⟩|h1
 all_goals
  go_in
  go_wp2_with fail
  generalize hw:World.alloc w _=w1,hb:(World.heap w).size=b
  generalize hw2:World.alloc w1 _=w2
  have B:=(Bag.nil [] w).al2 hw hb hw2
  clear hb hw hw2
  refine (U9 _ s own more _ (by decide) (by decide)).mono ?_
  rintro e w3 ⟨rfl,f⟩
  replace B:=B.tm f
  clear f
  dsimp only [Q8.val]
  have q:=B.qa 0
  go_wp2_with fail
  clear q
  generalize hw:World.alloc w3 _=w4,hb:(World.heap w3).size=b3
  replace B:=B.al hw hb
  clear hw hb
  refine rga 1 B fun _ B=> ?_
  repeat first|refine tb ?_|refine tv ?_
  have q:=B.q 1;have u:=B.u 1
  refine tc 9 fun K hK=> ?_
  go_simp
  clear q u
  generalize hw:World.setCell _ _ _=w5
  replace B:=(((((((((B.s 1).s 1).s 1).s 1).s 1).s 1).s 1).s 1).s 1).e hw
  refine bk hK ?_
  clear hK K
  try go_frame
  refine tb ?_
  refine wpAnyH_done (by decide+kernel) ?_ _
  have q:=B.q 1
  go_wp2
  refine ⟨rfl,_, ?_,rfl,B.fr⟩
  simp [results,Tryz.f204,go_sem,q,Q8.val,ZA,h1]
  try simpa using h2
theorem Q7j {P:Prop} (h:P:=by
 intro w
 go_in
 go_wp2_with fail
 generalize hw:World.alloc w _=w1,hb:(World.heap w).size=b
 generalize hw2:World.alloc w1 _=w2
 first
  |(generalize hw3:World.alloc w2 _=w3
    have B:=(Bag.nil [] w).al3 hw hb hw2 hw3
    clear hb hw hw2 hw3)
  |(have B:=(Bag.nil [] w).al2 hw hb hw2
    clear hb hw hw2)
 try
  (refine (HL.out _).mono ?_
   rintro e w3 ⟨rfl,f⟩
   replace B:=B.tm f
   clear f
   have q:=B.qa 0
   go_wp2_with fail
   clear q
   generalize hw:World.alloc w3 _=w4,hb:(World.heap w3).size=b3
   replace B:=B.al hw hb
   clear hw hb)
 refine rga 1 B fun _ B=> ?_
 repeat first
  |refine tb ?_
  |refine tv ?_
  |refine tj 2 ?_
  |(first
    |refine to fun K hK=> ?_
    |refine tc 1 fun K hK=> ?_
    go_simp
    first
    |with_reducible refine (H2.out _).mono ?_
    |with_reducible refine (H3.out _).mono ?_
    |with_reducible refine (H4.out _).mono ?_
    |with_reducible refine (H6.out _).mono ?_
    |with_reducible refine (HM.out _).mono ?_
    |with_reducible refine (HA.out _).mono ?_
    rintro e w9 ⟨rfl,f⟩
    replace B:=B.tm f
    clear f
    go_wp2_with fail
    refine bk hK ?_
    clear hK K
    try go_frame)
 have q:=B.q 1;have u:=B.u 1
 refine to fun K hK=> ?_
 go_simp
 clear q u
 generalize hw:World.setCell _ _ _=w5
 replace B:=(((((((((B.s 1).s 1).s 1).s 1).s 1).s 1).s 1).s 1).s 1).e hw
 clear hw
 refine bk hK ?_
 clear hK K
 try go_frame
 refine tb ?_
 refine wpAnyH_done (by decide+kernel) ?_ _
 have q:=B.q 1
 go_wp2
 refine ⟨rfl,_, ?_,rfl,B.fr⟩
 simp [results,Tryz.f136,Tryz.f142,Tryz.f129,Tryz.f135,Tryz.f138,go_sem,q]
 try rfl):P:=h
theorem three (s:Q8) (own more:Int):Xo 136 s own more (ZA s own more) (ZH more&&(isV s 2||isV s 3))∧Xo 142 s own more (ZA s own more) (ZH more&&isV s 6)∧Xo 129 s own more (toV s 2 own) (Jj s 3 own&&decide (s.str=0)):=by
 have HL:=hid fun w'=>Q5h s own more w'
 have HA:=hid fun w'=>U9 w' s own more 2 (by decide) (by decide)
 have HM:=hid fun w'=>YS w' s own more 3
 have H2:=hid fun w'=>Ve w' s own more 2
 have H3:=hid fun w'=>Ve w' s own more 3
 have H6:=hid fun w'=>Ve w' s own more 6
 unfold isV Xo
 generalize decide (s.st=2)=b2 at H2 ⊢
 generalize decide (s.st=3)=b3 at H3 ⊢
 generalize decide (s.st=6)=b6 at H6 ⊢
 generalize ZA s own more=r at HL ⊢
 generalize ZH more=ok at HL ⊢
 generalize toV s 2 own=r2 at HA ⊢
 generalize Jj s 3 own=m at HM ⊢
 obtain ⟨st,so,str,br,mkd,us,gen,ep,ver⟩:=s
 dsimp only [Xv,Q8.val] at*
 have hcr:ok=false∨(ok=true∧b2=true)∨(ok=true∧b2=false):=by cases ok<;>cases b2<;>simp
 refine ⟨?_, ?_, ?_⟩
 · rcases hcr with rfl|⟨rfl,rfl⟩|⟨rfl,rfl⟩<;>exact Q7j
 · cases ok<;>exact Q7j
 · cases m<;>exact Q7j
theorem two (s:Q8) (own more:Int):Xo 135 s own more {s with mkd:=true} (isV s 2&& !s.mkd)∧Xo 138 s own more {s with br:=true} (!s.br&&(isV s 2||isV s 3||isV s 4)):=by
 have H2:=hid fun w'=>Ve w' s own more 2
 have H3:=hid fun w'=>Ve w' s own more 3
 have H4:=hid fun w'=>Ve w' s own more 4
 unfold isV Xo
 generalize decide (s.st=2)=b2 at H2 ⊢
 generalize decide (s.st=3)=b3 at H3 ⊢
 generalize decide (s.st=4)=b4 at H4 ⊢
 obtain ⟨st,so,str,br,mkd,us,gen,ep,ver⟩:=s
 dsimp only [Xv,Q8.val] at*
 have hcb:br=true∨(br=false∧b2=true)∨(br=false∧b2=false∧b3=true)∨(br=false∧b2=false∧b3=false):=by cases br<;>cases b2<;>cases b3<;>simp
 refine ⟨?_, ?_⟩
 · cases b2<;>exact Q7j
 · rcases hcb with rfl|⟨rfl,rfl⟩|⟨rfl,rfl,rfl⟩|⟨rfl,rfl,rfl⟩<;>exact Q7j
theorem Q9B {n i:Nat} (hn:n<256) (hi:i<8):bits .and .i64 (n:Int) ((2 ^ i:Nat):Int)=if n.testBit i then ((2 ^ i:Nat):Int) else 0:=by
 have:∀n:Nat,n<256→∀i:Nat,i<8→bits .and .i64 (n:Int) ((2 ^ i:Nat):Int)=if n.testBit i then ((2 ^ i:Nat):Int) else 0:=by decide+kernel
 exact this n hn i hi
theorem or_bit {n i:Nat} (hn:n<256) (hi:i<8):bits .or .i64 (n:Int) ((2 ^ i:Nat):Int)=((n|||2 ^ i:Nat):Int):=by
 have:∀n:Nat,n<256→∀i:Nat,i<8→bits .or .i64 (n:Int) ((2 ^ i:Nat):Int)=((n|||2 ^ i:Nat):Int):=by decide+kernel
 exact this n hn i hi
theorem Q3n {n i:Nat} (hn:n<256) (hi:i<8) (h:n.testBit i=true):bits .andNot .i64 (n:Int) ((2 ^ i:Nat):Int)=(n:Int) - ((2 ^ i:Nat):Int):=by
 have:∀n:Nat,n<256→∀i:Nat,i<8→n.testBit i=true→bits .andNot .i64 (n:Int) ((2 ^ i:Nat):Int)=(n:Int) - ((2 ^ i:Nat):Int):=by decide+kernel
 exact this n hn i hi h
theorem Dl {str:Int} {n i:Nat} (hall:∀j<i,Xz str j=true) (hoff:Xz str i=false) (hi:i<n):Yt str n=some i:=by
 unfold Yt
 rw [List.find?_range_eq_some]
 exact ⟨by rw [hoff];rfl,List.mem_range.2 hi,fun j hj=>by rw [hall j hj];rfl⟩
theorem Dm {str:Int} {n i:Nat} (hall:∀j<i,Xz str j=true) (hi:n≤i):Yt str n=none:=by
 unfold Yt
 rw [List.find?_eq_none]
 intro j hj
 rw [hall j (by have:=List.mem_range.1 hj;omega)]
 simp
theorem Q0x {str:Int} {i:Nat} (h0:0≤str) (h1:str≤255) (hi:i<8):(bits .and .i64 str (wrap64 ((2:Int) ^ i))==0)= !Xz str i:=by
 rw [KE (by omega)]
 have e:((str.toNat:Nat):Int)=str:=Int.toNat_of_nonneg h0
 rw [←e,Q9B (by omega) hi]
 unfold Xz
 rw [Int.toNat_natCast]
 have hp:=Nat.two_pow_pos i
 cases str.toNat.testBit i with
 |true=>
  rw [if_pos rfl,Bool.not_true,beq_eq_false_iff_ne]
  intro h2
  have:=Int.natCast_eq_zero.1 h2
  omega
 |false=>rfl
theorem set_or {str:Int} {i:Nat} (h0:0≤str) (h1:str≤255) (hi:i<8):bits .or .i64 str (wrap64 ((2:Int) ^ i))=((str.toNat|||2 ^ i:Nat):Int):=by
 rw [KE (by omega)]
 have e:((str.toNat:Nat):Int)=str:=Int.toNat_of_nonneg h0
 rw [←e,or_bit (by omega) hi,Int.toNat_natCast]
theorem Q2l {str:Int} {i:Nat} (h0:0≤str) (h1:str≤255) (hi:i<8) (h:Xz str i=true):bits .andNot .i64 str (wrap64 ((2:Int) ^ i))=str - ((2 ^ i:Nat):Int):=by
 rw [KE (by omega)]
 have e:((str.toNat:Nat):Int)=str:=Int.toNat_of_nonneg h0
 rw [←e,Q3n (by omega) hi h]
theorem Eh (P:Int):IntKind.i64.wrap P=wrap64 P:=by rw [IntKind.wrap_i64];unfold wrap64;omega
theorem Q4p {str more:Int} (h0:0≤str) (h1:str≤255) (h2:0≤more) (h3:more<8):(bits .and .i64 str (IntKind.i64.wrap ((2:Int) ^ more.toNat))==0)= !Xz str more.toNat:=by
 have e:IntKind.i64.wrap ((2:Int) ^ more.toNat)=wrap64 ((2:Int) ^ more.toNat):=Eh _
 rw [e]
 exact Q0x h0 h1 (by omega)
theorem Q6x {str more:Int} (h0:0≤str) (h1:str≤255) (h2:0≤more) (h3:more<8) (h:Xz str more.toNat=true):bits .andNot .i64 str (IntKind.i64.wrap ((2:Int) ^ more.toNat))=str - ((2 ^ more.toNat:Nat):Int):=by
 rw [Eh]
 exact Q2l h0 h1 (by omega) h
theorem Q5E (s:Q8) (own more:Int) (h:s.right):Xo 141 s own more (if Jj s 5 own=true then toV s 1 own else Jt s own) (Jj s 5 own||Jj s 4 own):=by
 intro w
 have H5:=hid fun w'=>YS w' s own more 5
 have H4:=hid fun w'=>YS w' s own more 4
 have HT:=hid fun w'=>U9 w' s own more 1 (by decide) (by decide)
 have HL:=hid fun w'=>Uv w' s own more h
 clear h
 generalize Jj s 5 own=m5 at H5 ⊢
 generalize Jj s 4 own=m4 at H4 ⊢
 generalize toV s 1 own=r1 at HT ⊢
 generalize Jt s own=r2 at HL ⊢
 dsimp only [Xv,Q8.val] at*
 cases m5
 all_goals
  simp only [Bool.false_eq_true,if_false,if_true,Bool.false_or,Bool.true_or]
  go_in
  go_wp2_with fail
  generalize hw:World.alloc w _=w1,hb:(World.heap w).size=b
  generalize hw2:World.alloc w1 _=w2
  have B:=(Bag.nil [] w).al2 hw hb hw2
  clear hb hw hw2
  refine (H5.out _).mono ?_
  rintro e w3 ⟨rfl,f⟩
  replace B:=B.tm f
  clear f
  have q:=B.q 0
  go_wp2_with fail
  clear q
 · refine rga 1 B fun _ B=> ?_
   refine tj 0 ?_
   refine tj 2 ?_
   refine tc 1 fun K hK=> ?_
   go_simp
   refine (HL.out _).mono ?_
   rintro e w4 ⟨rfl,f⟩
   replace B:=B.tm f
   go_wp2_with fail
   refine bk hK ?_
   clear hK K
   try go_frame
   refine tc 3 fun K hK=> ?_
   go_simp
   refine (H4.out _).mono ?_
   rintro e w5 ⟨rfl,f⟩
   replace B:=B.tm f
   go_wp2_with fail
   refine bk hK ?_
   clear hK K
   try go_frame
   have q:=B.q 1;have u:=B.u 1
   refine to fun K hK=> ?_
   go_simp
   clear q u
   generalize hw:World.setCell _ _ _=w5
   replace B:=(((((((((B.s 1).s 1).s 1).s 1).s 1).s 1).s 1).s 1).s 1).e hw
   refine bk hK ?_
   clear hK K
   try go_frame
   refine tb ?_
   refine wpAnyH_done (by decide+kernel) ?_ _
   have q:=B.q 1
   go_wp2
   refine ⟨rfl,_, ?_,rfl,B.fr⟩
   simp [results,Tryz.f141,go_sem,q]
 · refine (HT.out _).mono ?_
   rintro e w4 ⟨rfl,f⟩
   replace B:=B.tm f
   have q:=B.q 1;have u:=B.u 1
   go_wp2_with fail
   clear q u
   generalize hw:World.setCell _ _ _=w5
   replace B:=(((((((((B.s 1).s 1).s 1).s 1).s 1).s 1).s 1).s 1).s 1).e hw
   have q:=B.q 1
   refine ⟨rfl,_, ?_,rfl,B.fr⟩
   simp [results,Tryz.f141,go_sem,q]
theorem Q72 {P:Prop} (h:P:=by
 have q:=B.q 2;have v:=B.q 1;have u:=B.u 1
 go_wp2_with fail
 clear q v u
 generalize hw:World.setCell _ _ _=w9
 replace B:=(((((((((B.s 1).s 1).s 1).s 1).s 1).s 1).s 1).s 1).s 1).e hw
 have q:=B.q 1
 refine ⟨rfl,_, ?_,rfl,B.fr⟩
 simp [results,Tryz.f139,Tryz.f140,go_sem,q]):P:=h
theorem Q5G (s:Q8) (own more:Int) (h:s.right):Xo 140 s own more ((VA s own more).getD s) (VA s own more).isSome:=by
 intro w
 have HM:=hid fun w'=>YS w' s own more 3
 have hs0:=h.str0;have hs1:=h.str1
 clear h
 unfold VA
 generalize Jj s 3 own=m at HM ⊢
 obtain ⟨st,so,str,br,mkd,us,gen,ep,ver⟩:=s
 dsimp only [Xv,Q8.val] at*
 have hcase:m=false∨(m=true∧¬0≤more∧more<0)∨(m=true∧0≤more∧¬more<8)∨(m=true∧0≤more∧more<8∧Xz str more.toNat=false)∨(m=true∧0≤more∧more<8∧Xz str more.toNat=true):=by
  cases m<;>cases Xz str more.toNat<;>simp<;>omega
 generalize hSV:(if m=true∧0≤more∧more<8∧Xz str more.toNat=true then some _ else none:Option Q8)=SV
 rcases hcase with rfl|⟨rfl,h1,h2⟩|⟨rfl,h1,h2⟩|⟨rfl,h1,h2,h3⟩|⟨rfl,h1,h2,h3⟩
 all_goals
  simp [*] at hSV
  subst hSV
  first
   |have hd1:decide (more<0)=true:=decide_eq_true (by omega)
   |have hd1:decide (more<0)=false:=decide_eq_false (by omega)
   |skip
  first
   |have hd2:decide (8≤more)=true:=decide_eq_true (by omega)
   |have hd2:decide (8≤more)=false:=decide_eq_false (by omega)
   |skip
  try have HTA:=hid (Q4p hs0 hs1 h1 h2)
  try rw [h3] at HTA
  try have HAN:=hid (Q6x hs0 hs1 h1 h2 h3)
  simp only [Option.getD_none,Option.getD_some,Option.isSome_none,Option.isSome_some]
  go_in
  go_wp2_with fail
  generalize hw:World.alloc w _=w1,hb:(World.heap w).size=b
  generalize hw2:World.alloc w1 _=w2
  generalize hw3:World.alloc w2 _=w3
  have B:=(Bag.nil [] w).al3 hw hb hw2 hw3
  clear hb hw hw2 hw3
  refine rg B fun _ B=> ?_
  refine tb ?_
  refine to fun K hK=> ?_
  go_simp
  refine (HM.out _).mono ?_
  rintro e w9 ⟨rfl,f⟩
  replace B:=B.tm f
  clear f
  go_wp2_with fail
  refine bk hK ?_
  clear hK K
  try go_frame
  first
   |(iterate 19 refine tb ?_
     rw [HTA.out]
     refine tb ?_)
   |(repeat first|refine tb ?_|refine tv ?_)
  refine wpAnyH_done (by decide+kernel) ?_ _
 iterate 4
  · exact Q72
 go_wp2_with fail
 refine rgc 2 2 B fun _ B=> ?_
 refine tj 0 ?_
 refine tj 2 ?_
 refine tj 3 ?_
 refine tj 4 ?_
 have q:=B.q 2
 refine tc 1 fun K hK=> ?_
 go_simp
 refine bk hK ?_
 clear hK K q
 try go_frame
 refine tj 5 ?_
 rw [HAN.out]
 refine tj 6 ?_
 have q:=B.q 2;have u:=B.u 2
 refine to fun K hK=> ?_
 go_simp
 clear q u
 generalize hw:World.setCell _ _ _=w5
 replace B:=(B.s 2).e hw
 refine bk hK ?_
 clear hK K
 try go_frame
 refine wpAnyH_done (by decide+kernel) ?_ _
 exact Q72
theorem Q5J (s:Q8) (own more:Int) (h:s.right):Xo 139 s own more ((VF s own more).getD s) (VF s own more).isSome:=by
 intro w
 have HM:=hid fun w'=>YS w' s own more 3
 have hs0:=h.str0;have hs1:=h.str1
 clear h
 unfold VF
 generalize Jj s 3 own=m at HM ⊢
 obtain ⟨st,so,str,br,mkd,us,gen,ep,ver⟩:=s
 dsimp only [Xv,Q8.val] at*
 obtain ⟨SV,hSV⟩:∃SV,(if m=true∧br=false then (Yt str (min more.toNat 8)).map fun i=>(⟨st,so,((str.toNat|||2 ^ i:Nat):Int),br,mkd,us,gen,ep,ver⟩:Q8) else none)=SV:=⟨_,rfl⟩
 rw [hSV]
 rcases (by cases m<;>cases br<;>simp:m=false∨(m=true∧br=true)∨(m=true∧br=false)) with rfl|⟨rfl,rfl⟩|⟨rfl,rfl⟩
 all_goals
  simp at hSV
  have HX:=hid hSV
  clear hSV
  go_in
  go_wp2_with fail
  generalize hw:World.alloc w _=w1,hb:(World.heap w).size=b
  generalize hw2:World.alloc w1 _=w2
  generalize hw3:World.alloc w2 _=w3
  have B:=(Bag.nil [] w).al3 hw hb hw2 hw3
  clear hb hw hw2 hw3
  refine (HM.out _).mono ?_
  rintro e w4 ⟨rfl,f⟩
  replace B:=B.tm f
  clear f
 iterate 2
  · have hx:=HX.out
    subst hx
    simp only [Option.getD_none,Option.isSome_none]
    exact Q72
 by_cases hmo:more≤8
 all_goals
  have q:=B.q 2;have q0:=B.q 0
  go_wp2_with fail
  clear q q0
  go_loopw [19] (fun s19 wr=>∃i:Nat,(i:Int)≤8∧s19=.int .i64 i∧(∀j<i,Xz str j=true)∧Fr [] w4 wr) (fun s19 _=>9 - (intOf s19).toNat)
  case atStart=>exact ⟨0,by omega,rfl,fun j hj=>absurd hj (Nat.not_lt_zero _),Fr.refl _ _⟩
  case round=>
   obtain ⟨i,hi8,rfl,hall,f5⟩:=hrel
   replace B:=B.tm f5
   have hi0:(0:Int)≤(i:Int):=by omega
   have hi1e:(0:Int)≤(i:Int)+1:=by omega
   have HF5:=hid f5;have HALL:=hid hall
   clear f5 hall
   by_cases hlt:(i:Int)<min more 8
   · have hl1:(i:Int)<more:=by omega
     have hl2:(i:Int)<8:=by omega
     have HTA:=hid (Q0x hs0 hs1 (show i<8 by omega))
     have HOR:=hid (show bits .or .i64 str (IntKind.i64.wrap ((2:Int) ^ i))=((str.toNat|||2 ^ i:Nat):Int) from by rw [Eh];exact set_or hs0 hs1 (show i<8 by omega))
     have q:=B.q 2;have u:=B.u 2
     go_wp2_with fail
     go_region
     rw [HTA.out]
     by_cases hbit:Xz str i=true
     · rw [hbit]
       clear q u
       go_wp2
       exact ⟨⟨i+1,by omega,by go_num,fun j hj=>by rcases Nat.lt_or_ge j i with h|h;exact HALL.out j h;rw [show j=i by omega];exact hbit,HF5.out.drew⟩,by simp [intOf];omega⟩
     · have hbit:Xz str i=false:=by simpa using hbit
       have hfo:=Dl HALL.out hbit (show i<min more.toNat 8 by omega)
       have hx:=HX.out
       rw [hfo] at hx
       subst hx
       try simp only [Option.map_some,Option.getD_some,Option.isSome_some]
       rw [hbit]
       clear q u
       replace B:=B.drew
       go_wp2_with fail
       refine rgc 2 2 B fun _ B=> ?_
       refine tj 0 ?_
       refine tj 2 ?_
       refine tj 3 ?_
       have q:=B.q 2
       refine tc 1 fun K hK=> ?_
       go_simp
       refine bk hK ?_
       clear hK K q
       try go_frame
       refine tj 4 ?_
       rw [HOR.out]
       refine tj 5 ?_
       have q:=B.q 2;have u:=B.u 2
       refine to fun K hK=> ?_
       go_simp
       clear q u
       generalize hw:World.setCell _ _ _=w5
       replace B:=(B.s 2).e hw
       refine bk hK ?_
       clear hK K
       try go_frame
       refine wpAnyH_done (by decide+kernel) ?_ _
       exact Q72
   · have hfo:=Dm HALL.out (show min more.toNat 8≤i by omega)
     have hx:=HX.out
     rw [hfo] at hx
     subst hx
     try simp only [Option.map_none,Option.getD_none,Option.isSome_none]
     first
      |have hn:¬(i:Int)<more:=by omega
      |have hn:¬(i:Int)<8:=by omega
     exact Q72
theorem Q2j (w:World) (s:Q8) (h:s.right) (hG:Qf w 0 Qc):Calls Tryz.prog 89 #[s.val] w fun e w'=>e=.returned (.bool true)∧Fr [] w w':=by
 have HE:=hid fun (w':World) (hg:Qf w' 0 Qc)=>XI w' s h hg
 have HR:=hid h
 have HG:=hid hG
 clear hG h
 generalize s.enc=en at HE
 obtain ⟨st,own,str,br,mkd,us,gen,ep,ver⟩:=s
 unfold Q8.val at HE ⊢
 dsimp only at HE ⊢
 have f1:=(Fr.refl [] w).alloc (.cells #[.int .i64 st,.int .i64 own,.int .i64 str,.bool br,.bool mkd,.int .i64 us,.int .i64 gen,.int .i64 ep,.int .i64 ver] 54)
 have FF:=hid f1
 have HG1:=hid (HG.out.fr f1 (by simp))
 clear f1
 go_in
 go_wp2_with fail
 refine (HE.out _ HG1.out).mono ?_
 rintro e w2 ⟨rfl,f2⟩
 have F2:=hid (FF.out.trans f2)
 clear f2
 go_wp2
 go_ret
 exact ⟨rfl,F2.out⟩
theorem Q7P (b:Bool):(Yb b==1)=b:=by cases b<;>rfl
def partsOf (st own str:Int) (br mkd:Bool) (us gen ep ver:Int):List Value:=[.int .i64 st,.int .i64 own,.int .i64 str,.int .i64 (Yb br),.int .i64 (Yb mkd),.int .i64 us,.int .i64 gen,.int .i64 ep,.int .i64 ver]
theorem Q4Q {s:Q8} (h:s.right):VE s.enc.toNat 9=partsOf s.st s.own s.str s.br s.mkd s.us s.gen s.ep s.ver:=by
 obtain ⟨p1,p2,p3,p4,p5,p6,p7,p8,p9⟩:=Gp h
 have hx:((s.enc.toNat:Nat):Int)=s.enc:=Int.toNat_of_nonneg (Hw h)
 have hb:=h.ver1;have hb0:=h.ver0
 generalize s.enc.toNat=x at hx ⊢
 show [Value.int .i64 ((x / 1 % 8:Nat):Int),.int .i64 ((x / 8 % 16:Nat):Int),.int .i64 ((x / 128 % 256:Nat):Int),.int .i64 ((x / 32768 % 2:Nat):Int),.int .i64 ((x / 65536 % 2:Nat):Int),.int .i64 ((x / 131072 % 64:Nat):Int),.int .i64 ((x / 8388608 % 4096:Nat):Int),.int .i64 ((x / 34359738368 % 4096:Nat):Int),.int .i64 ((x / 140737488355328 % 32768:Nat):Int)]=_
 rw [show ((x / 1 % 8:Nat):Int)=s.st by omega,show ((x / 8 % 16:Nat):Int)=s.own by omega,show ((x / 128 % 256:Nat):Int)=s.str by omega,show ((x / 32768 % 2:Nat):Int)=Yb s.br by omega,show ((x / 65536 % 2:Nat):Int)=Yb s.mkd by omega,show ((x / 131072 % 64:Nat):Int)=s.us by omega,show ((x / 8388608 % 4096:Nat):Int)=s.gen by omega,show ((x / 34359738368 % 4096:Nat):Int)=s.ep by omega,show ((x / 140737488355328 % 32768:Nat):Int)=s.ver by omega]
 rfl
theorem Je (w:World) (s:Q8) (h:s.right) (hG:Qf w 0 Qc):Calls Tryz.prog 64 #[.int .i64 s.enc] w fun e w'=>e=.returned (.tuple #[s.val,.bool true])∧Fr [] w w':=by
 have HE:=hid fun (w':World) (hg:Qf w' 0 Qc)=>XI w' s h hg
 have HP:=hid fun (w':World) (b:Nat) (hb:Qf w' b Qc)=>Q4R w' b s.enc.toNat hb (by have:=Q7G h;have:=Hw h;omega)
 have HPE:=hid (Q4Q h)
 have HR:=hid h
 have HX:=hid (Int.toNat_of_nonneg (Hw h))
 clear h
 obtain ⟨en,hen⟩:∃en,s.enc=en:=⟨_,rfl⟩
 rw [hen] at HE HP HPE HX ⊢
 clear hen
 obtain ⟨st,own,str,br,mkd,us,gen,ep,ver⟩:=s
 unfold Q8.val at HE ⊢
 dsimp only at HE HPE ⊢
 have HG1:=hid (hG.fr ((Fr.refl [] w).alloc (.cells #[.int .i64 0,.int .i64 0,.int .i64 0,.bool false,.bool false,.int .i64 0,.int .i64 0,.int .i64 0,.int .i64 0] 54)) (by simp))
 have F1:=hid ((Fr.refl [] w).alloc (.cells #[.int .i64 0,.int .i64 0,.int .i64 0,.bool false,.bool false,.int .i64 0,.int .i64 0,.int .i64 0,.int .i64 0] 54))
 have HB1:=hid (heap_alloc_new w (.cells #[.int .i64 0,.int .i64 0,.int .i64 0,.bool false,.bool false,.int .i64 0,.int .i64 0,.int .i64 0,.int .i64 0] 54))
 have hld:=DV _ 0 HG1.out
 unfold E5 at hld
 clear hG
 go_in
 go_wp2_with (first|(refine ZI rfl _ _ rfl _ _ rfl hld ?_)|fail)
 have HG2:=hid (Q1v (heap_alloc_new (w.alloc (.cells #[.int .i64 0,.int .i64 0,.int .i64 0,.bool false,.bool false,.int .i64 0,.int .i64 0,.int .i64 0,.int .i64 0] 54)) (.cells #[.int .i64 0,.int .i64 3,.int .i64 3,.int .i64 4,.int .i64 7,.int .i64 8,.int .i64 15,.int .i64 1,.int .i64 16,.int .i64 1,.int .i64 17,.int .i64 6,.int .i64 23,.int .i64 12,.int .i64 35,.int .i64 12,.int .i64 47,.int .i64 15] 143)))
 have F2:=hid (F1.out.alloc (.cells #[.int .i64 0,.int .i64 3,.int .i64 3,.int .i64 4,.int .i64 7,.int .i64 8,.int .i64 15,.int .i64 1,.int .i64 16,.int .i64 1,.int .i64 17,.int .i64 6,.int .i64 23,.int .i64 12,.int .i64 35,.int .i64 12,.int .i64 47,.int .i64 15] 143))
 have HB2:=hid (Qd HB1.out (.cells #[.int .i64 0,.int .i64 3,.int .i64 3,.int .i64 4,.int .i64 7,.int .i64 8,.int .i64 15,.int .i64 1,.int .i64 16,.int .i64 1,.int .i64 17,.int .i64 6,.int .i64 23,.int .i64 12,.int .i64 35,.int .i64 12,.int .i64 47,.int .i64 15] 143))
 have HG02:=hid (HG1.out.fr ((Fr.refl [] _).alloc (.cells #[.int .i64 0,.int .i64 3,.int .i64 3,.int .i64 4,.int .i64 7,.int .i64 8,.int .i64 15,.int .i64 1,.int .i64 16,.int .i64 1,.int .i64 17,.int .i64 6,.int .i64 23,.int .i64 12,.int .i64 35,.int .i64 12,.int .i64 47,.int .i64 15] 143)) (by simp))
 rw [World.size_alloc] at HG2
 clear HG1 HB1 F1 hld
 have hpc:=HP.out _ _ HG2.out
 rw [HX.out] at hpc
 refine hpc.mono ?_
 rintro e w3 ⟨v,rfl,hrow,f3⟩
 clear hpc
 rw [HPE.out] at hrow
 obtain ⟨hlen,hn|⟨g,cap,cur,rfl,hbg,hg,hcap,hcm,hcs,htk⟩⟩:=hrow
 · exact absurd hn.2 (by decide)
 have hrow:w3.ownsRow _ 3 1 (.slice (some ⟨g,0,none⟩) 9 cap) 9 (partsOf st own str br mkd us gen ep ver):=⟨hlen,.inr ⟨g,cap,cur,rfl,hbg,hg,hcap,hcm,hcs,htk⟩⟩
 have F3:=hid (F2.out.trans f3)
 have HB3:=hid (f3.at HB2.out (by simp))
 have HG3:=hid (HG02.out.fr f3 (by simp))
 have y0:w3.cell? ⟨g,0,none⟩=some (.int .i64 st):=by rw [hrow.cellAt 0 (by decide)];rfl
 have y1:w3.cell? ⟨g,1,none⟩=some (.int .i64 own):=by rw [hrow.cellAt 1 (by decide)];rfl
 have y2:w3.cell? ⟨g,2,none⟩=some (.int .i64 str):=by rw [hrow.cellAt 2 (by decide)];rfl
 have y3:w3.cell? ⟨g,3,none⟩=some (.int .i64 (Yb br)):=by rw [hrow.cellAt 3 (by decide)];rfl
 have y4:w3.cell? ⟨g,4,none⟩=some (.int .i64 (Yb mkd)):=by rw [hrow.cellAt 4 (by decide)];rfl
 have y5:w3.cell? ⟨g,5,none⟩=some (.int .i64 us):=by rw [hrow.cellAt 5 (by decide)];rfl
 have y6:w3.cell? ⟨g,6,none⟩=some (.int .i64 gen):=by rw [hrow.cellAt 6 (by decide)];rfl
 have y7:w3.cell? ⟨g,7,none⟩=some (.int .i64 ep):=by rw [hrow.cellAt 7 (by decide)];rfl
 have y8:w3.cell? ⟨g,8,none⟩=some (.int .i64 ver):=by rw [hrow.cellAt 8 (by decide)];rfl
 clear hrow hlen hbg hg hcm hcs htk f3
 go_wp2_with fail
 have HBR:=hid (Q7P br)
 have HMK:=hid (Q7P mkd)
 refine wp_region_held_drew (S:=fun w'=>w'.cell? ⟨g,0,none⟩=some (.int .i64 st)∧w'.cell? ⟨g,1,none⟩=some (.int .i64 own)∧w'.cell? ⟨g,2,none⟩=some (.int .i64 str)∧w'.cell? ⟨g,3,none⟩=some (.int .i64 (Yb br))∧w'.cell? ⟨g,4,none⟩=some (.int .i64 (Yb mkd))∧w'.cell? ⟨g,5,none⟩=some (.int .i64 us)∧w'.cell? ⟨g,6,none⟩=some (.int .i64 gen)∧w'.cell? ⟨g,7,none⟩=some (.int .i64 ep)∧w'.cell? ⟨g,8,none⟩=some (.int .i64 ver)) (by kernel_rfl) ⟨y0,y1,y2,y3,y4,y5,y6,y7,y8⟩ (fun hHeld=> ?_)
 refine tk 0 ?_
 refine tk 1 ?_
 refine tk 2 ?_
 refine tk 3 ?_
 refine tk 4 ?_
 refine tk 5 ?_
 refine tk 6 ?_
 refine tk 7 ?_
 refine tk 8 ?_
 refine tk 9 ?_
 refine tk 10 ?_
 refine tk 11 ?_
 refine tk 12 ?_
 try rw [HBR.out]
 refine tk 13 ?_
 refine tk 14 ?_
 refine tk 15 ?_
 refine tk 16 ?_
 try rw [HMK.out]
 refine tk 17 ?_
 refine tk 18 ?_
 refine tk 19 ?_
 refine tk 20 ?_
 refine tk 21 ?_
 refine tk 22 ?_
 refine tk 23 ?_
 refine tk 24 ?_
 refine tk 25 ?_
 refine tk 26 ?_
 refine tk 27 ?_
 refine tk 28 ?_
 refine tk 29 ?_
 refine tc 30 (fun K hK=> ?_)
 go_simp
 refine hK.out _ _ ⟨((Fr.refl [] w3).drew.alloc _).cell y0 (by simp),((Fr.refl [] w3).drew.alloc _).cell y1 (by simp),((Fr.refl [] w3).drew.alloc _).cell y2 (by simp),((Fr.refl [] w3).drew.alloc _).cell y3 (by simp),((Fr.refl [] w3).drew.alloc _).cell y4 (by simp),((Fr.refl [] w3).drew.alloc _).cell y5 (by simp),((Fr.refl [] w3).drew.alloc _).cell y6 (by simp),((Fr.refl [] w3).drew.alloc _).cell y7 (by simp),((Fr.refl [] w3).drew.alloc _).cell y8 (by simp)⟩ (fun hHeld=> ?_)
 clear hK K
 try go_frame
 refine tc 31 (fun K hK=> ?_)
 go_simp
 refine hK.out _ _ ⟨((Fr.refl [] w3).alloc _).drew.cell y0 (by simp),((Fr.refl [] w3).alloc _).drew.cell y1 (by simp),((Fr.refl [] w3).alloc _).drew.cell y2 (by simp),((Fr.refl [] w3).alloc _).drew.cell y3 (by simp),((Fr.refl [] w3).alloc _).drew.cell y4 (by simp),((Fr.refl [] w3).alloc _).drew.cell y5 (by simp),((Fr.refl [] w3).alloc _).drew.cell y6 (by simp),((Fr.refl [] w3).alloc _).drew.cell y7 (by simp),((Fr.refl [] w3).alloc _).drew.cell y8 (by simp)⟩ (fun hHeld=> ?_)
 clear hK K
 try go_frame
 refine wpAnyH_done (by kernel_rfl) ?_ _
 have hb5:=heap_alloc_new w3 (.cells #[.int .i64 st,.int .i64 own,.int .i64 str,.bool br,.bool mkd,.int .i64 us,.int .i64 gen,.int .i64 ep,.int .i64 ver] 54)
 have f35:=(Fr.refl [] w3).alloc (.cells #[.int .i64 st,.int .i64 own,.int .i64 str,.bool br,.bool mkd,.int .i64 us,.int .i64 gen,.int .i64 ep,.int .i64 ver] 54)
 have HB5:=hid (f35.at HB3.out (by simp))
 have HG5:=hid (HG3.out.fr f35.drew (by simp))
 have F5:=hid (F3.out.trans f35.drew)
 obtain ⟨w5,hw5⟩:∃x,w3.alloc (.cells #[.int .i64 st,.int .i64 own,.int .i64 str,.bool br,.bool mkd,.int .i64 us,.int .i64 gen,.int .i64 ep,.int .i64 ver] 54)=x:=⟨_,rfl⟩
 rw [hw5] at hb5 HB5 HG5 F5 ⊢
 have x0:w5.cell? ⟨w3.heap.size,0,none⟩=some (.int .i64 st):=cell_of hb5 rfl
 have x1:w5.cell? ⟨w3.heap.size,1,none⟩=some (.int .i64 own):=cell_of hb5 rfl
 have x2:w5.cell? ⟨w3.heap.size,2,none⟩=some (.int .i64 str):=cell_of hb5 rfl
 have x3:w5.cell? ⟨w3.heap.size,3,none⟩=some (.bool br):=cell_of hb5 rfl
 have x4:w5.cell? ⟨w3.heap.size,4,none⟩=some (.bool mkd):=cell_of hb5 rfl
 have x5:w5.cell? ⟨w3.heap.size,5,none⟩=some (.int .i64 us):=cell_of hb5 rfl
 have x6:w5.cell? ⟨w3.heap.size,6,none⟩=some (.int .i64 gen):=cell_of hb5 rfl
 have x7:w5.cell? ⟨w3.heap.size,7,none⟩=some (.int .i64 ep):=cell_of hb5 rfl
 have x8:w5.cell? ⟨w3.heap.size,8,none⟩=some (.int .i64 ver):=cell_of hb5 rfl
 clear f35 hw5 HG3 F3 HB3 hHeld y0 y1 y2 y3 y4 y5 y6 y7 y8
 have hb5d:w5.drew.heap[w3.heap.size]?=_:=hb5
 have HB5X:=hid hb5d
 clear hb5 hb5d
 go_wp2_with fail
 refine (HE.out _ HG5.out).mono ?_
 rintro e w6 ⟨rfl,f6⟩
 have HB6:=f6.at (show w5.drew.heap[w.heap.size]?=_ from HB5.out) (by simp)
 have hb6:=f6.at HB5X.out (by simp)
 have F6:=hid (F5.out.trans f6)
 clear f6 HB5 HB5X HG5 F5 x0 x1 x2 x3 x4 x5 x6 x7 x8
 have x0:w6.cell? ⟨w3.heap.size,0,none⟩=some (.int .i64 st):=cell_of hb6 rfl
 have x1:w6.cell? ⟨w3.heap.size,1,none⟩=some (.int .i64 own):=cell_of hb6 rfl
 have x2:w6.cell? ⟨w3.heap.size,2,none⟩=some (.int .i64 str):=cell_of hb6 rfl
 have x3:w6.cell? ⟨w3.heap.size,3,none⟩=some (.bool br):=cell_of hb6 rfl
 have x4:w6.cell? ⟨w3.heap.size,4,none⟩=some (.bool mkd):=cell_of hb6 rfl
 have x5:w6.cell? ⟨w3.heap.size,5,none⟩=some (.int .i64 us):=cell_of hb6 rfl
 have x6:w6.cell? ⟨w3.heap.size,6,none⟩=some (.int .i64 gen):=cell_of hb6 rfl
 have x7:w6.cell? ⟨w3.heap.size,7,none⟩=some (.int .i64 ep):=cell_of hb6 rfl
 have x8:w6.cell? ⟨w3.heap.size,8,none⟩=some (.int .i64 ver):=cell_of hb6 rfl
 have v0:w6.cell? ⟨w.heap.size,0,none⟩=some (.int .i64 0):=cell_of HB6 rfl
 have v1:w6.cell? ⟨w.heap.size,1,none⟩=some (.int .i64 0):=cell_of HB6 rfl
 have v2:w6.cell? ⟨w.heap.size,2,none⟩=some (.int .i64 0):=cell_of HB6 rfl
 have v3:w6.cell? ⟨w.heap.size,3,none⟩=some (.bool false):=cell_of HB6 rfl
 have v4:w6.cell? ⟨w.heap.size,4,none⟩=some (.bool false):=cell_of HB6 rfl
 have v5:w6.cell? ⟨w.heap.size,5,none⟩=some (.int .i64 0):=cell_of HB6 rfl
 have v6:w6.cell? ⟨w.heap.size,6,none⟩=some (.int .i64 0):=cell_of HB6 rfl
 have v7:w6.cell? ⟨w.heap.size,7,none⟩=some (.int .i64 0):=cell_of HB6 rfl
 have v8:w6.cell? ⟨w.heap.size,8,none⟩=some (.int .i64 0):=cell_of HB6 rfl
 have u0:=Q9 (i:=0) HB6
 have u1:=Q9 (i:=1) HB6
 have u2:=Q9 (i:=2) HB6
 have u3:=Q9 (i:=3) HB6
 have u4:=Q9 (i:=4) HB6
 have u5:=Q9 (i:=5) HB6
 have u6:=Q9 (i:=6) HB6
 have u7:=Q9 (i:=7) HB6
 have u8:=Q9 (i:=8) HB6
 go_wp2_with fail
 have FE:=hid (((((((((F6.out.setCell (p:=⟨w.heap.size,0,none⟩) (.inr (Nat.le_refl _)) (.int .i64 st)).setCell (p:=⟨w.heap.size,1,none⟩) (.inr (Nat.le_refl _)) (.int .i64 own)).setCell (p:=⟨w.heap.size,2,none⟩) (.inr (Nat.le_refl _)) (.int .i64 str)).setCell (p:=⟨w.heap.size,3,none⟩) (.inr (Nat.le_refl _)) (.bool br)).setCell (p:=⟨w.heap.size,4,none⟩) (.inr (Nat.le_refl _)) (.bool mkd)).setCell (p:=⟨w.heap.size,5,none⟩) (.inr (Nat.le_refl _)) (.int .i64 us)).setCell (p:=⟨w.heap.size,6,none⟩) (.inr (Nat.le_refl _)) (.int .i64 gen)).setCell (p:=⟨w.heap.size,7,none⟩) (.inr (Nat.le_refl _)) (.int .i64 ep)).setCell (p:=⟨w.heap.size,8,none⟩) (.inr (Nat.le_refl _)) (.int .i64 ver))
 refine ⟨rfl,_, ?_,rfl,FE.out⟩
 simp [results,Tryz.f64,go_sem,v0,v1,v2,v3,v4,v5,v6,v7,v8]
end
end Go.Proofs.YtgjklfmnmljilaaGreatDoor

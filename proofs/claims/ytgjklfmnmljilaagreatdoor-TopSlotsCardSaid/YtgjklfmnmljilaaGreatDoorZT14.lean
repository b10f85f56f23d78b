/- A part of the proof: TpX to TpZa. -/
import Derived.Test.YtgjklfmnmljilaaGreatDoorZT03
import Derived.Test.YtgjklfmnmljilaaGreatDoorZT13
import Derived.Deep.AppendSrc
import Derived.Laws.AppendOwn
namespace Go.Proofs.YtgjklfmnmljilaaGreatDoor
set_option linter.unusedVariables false
set_option linter.unusedSimpArgs false
set_option linter.unusedSectionVars false
set_option linter.unnecessarySimpa false
set_option maxRecDepth 100000
set_option maxHeartbeats 8000000
section
open Go.RowKit Go.Shelf Go.Lib
attribute [local go_sem] Oper.semAt_some
theorem add_in (w:World) (p q:Nat) (L:List Int) (t i d:Int) (hM:QD 112 w p q L t) (ht0:0≤t) (ht1:t<4611686018427387904) (hi0:0≤i) (hi1:i<L.length):
 Calls Tryz.prog 272 #[.pointer (some ⟨p,0,none⟩),.int .i64 i,.int .i64 d] w fun e w'=>e=.returned (.int .i64 (L.getD i.toNat 0))∧Left 112 p q (L.set i.toNat (wrap64 (L.getD i.toNat 0+d))) (t+1) w w':=by
 obtain ⟨cap,cur,h⟩:=hM
 have hL:L.length≤9223372036854775807:=by have:=h.hl;have:=h.hm;unfold maxLen at this;omega
 have c0:=h.c0;have c1:=h.c1;have f1:=h.f1 1;have hp:=h.plt;have hq:=h.qlt
 have cq:=h.cq (XG hi0 hi1)
 have fq:=h.fq i.toNat
 have hne:=h.hne
 have H:=(((h.touch (t+1)).put i.toNat (wrap64 (L.getD i.toNat 0+d))).alloc (.cells #[.int .i64 d] 3)).drew
 generalize L.getD i.toNat 0=u at cq H ⊢
 go_in
 go_wp2
 go_region
 all_goals go_wp2
 all_goals (go_ret;exact ⟨rfl,⟨cap,_,H⟩,((((Fr.refl _ _).setCell (.inl (by simp)) _).setCell (.inl (by simp)) _).alloc _).drew⟩)
theorem Q9C (w:World) (p q:Nat) (L:List Int) (t i d:Int) (hM:QD 112 w p q L t) (hi:i<0):
 Calls Tryz.prog 272 #[.pointer (some ⟨p,0,none⟩),.int .i64 i,.int .i64 d] w fun e w'=>e=.returned (.int .i64 0)∧Left 112 p q L t w w':=by
 obtain ⟨cap,cur,h⟩:=hM
 have hL:L.length≤9223372036854775807:=by have:=h.hl;have:=h.hm;unfold maxLen at this;omega
 have c0:=h.c0;have c1:=h.c1;have f1:=h.f1 1;have hp:=h.plt;have hq:=h.qlt
 go_in
 go_wp2
 go_ret
 exact ⟨rfl,⟨cap,cur,(h.alloc _)⟩,(Fr.refl _ _).alloc _⟩
theorem Q7X (w:World) (p q:Nat) (L:List Int) (t i d:Int) (hM:QD 112 w p q L t) (hi0:0≤i) (hi:(L.length:Int)≤i):
 Calls Tryz.prog 272 #[.pointer (some ⟨p,0,none⟩),.int .i64 i,.int .i64 d] w fun e w'=>e=.returned (.int .i64 0)∧Left 112 p q L t w w':=by
 obtain ⟨cap,cur,h⟩:=hM
 have hL:L.length≤9223372036854775807:=by have:=h.hl;have:=h.hm;unfold maxLen at this;omega
 have c0:=h.c0;have c1:=h.c1;have f1:=h.f1 1;have hp:=h.plt;have hq:=h.qlt
 go_in
 go_wp2
 go_ret
 exact ⟨rfl,⟨cap,cur,(h.alloc _)⟩,(Fr.refl _ _).alloc _⟩
theorem Q9D (w:World) (p q:Nat) (L:List Int) (t i d:Int) (hM:QD 112 w p q L t) (ht0:0≤t) (ht1:t<4611686018427387904):
 Calls Tryz.prog 272 #[.pointer (some ⟨p,0,none⟩),.int .i64 i,.int .i64 d] w fun e w'=>e=.returned (.int .i64 (Q7 L i))∧Left 112 p q (Gw L i d) (t+tch L i) w w':=by
 rcases KF L i with h|⟨h0,h⟩|⟨h0,h1⟩
 · simpa [Q7,Gw,tch,YT h] using Q9C w p q L t i d hM h
 · simpa [Q7,Gw,tch,VX h] using Q7X w p q L t i d hM h0 h
 · simpa [Q7,Gw,tch,Jh h0 h1] using add_in w p q L t i d hM ht0 ht1 h0 h1
def Ql (w:World) (pm qm:Nat) (M:List Int) (n:Int):Prop:=∃t,QD 112 w pm qm M t∧0≤t∧t≤n
theorem Ql.fr {w w':World} {pm qm:Nat} {M:List Int} {n:Int} (h:Ql w pm qm M n) {S:List Nat} (f:Fr S w w') (hp:pm∉S) (hq:qm∉S):Ql w' pm qm M n:=by
 obtain ⟨t,h,a,b⟩:=h;exact ⟨t,h.fr f hp hq,a,b⟩
theorem Ql.mono {w:World} {pm qm:Nat} {M:List Int} {n n':Int} (h:Ql w pm qm M n) (hn:n≤n'):Ql w pm qm M n':=by
 obtain ⟨t,h,a,b⟩:=h;exact ⟨t,h,a,by omega⟩
theorem Ql.plt {w:World} {pm qm:Nat} {M:List Int} {n:Int} (h:Ql w pm qm M n):pm<w.heap.size:=by obtain ⟨_,h,_⟩:=h;exact h.plt
theorem Ql.qlt {w:World} {pm qm:Nat} {M:List Int} {n:Int} (h:Ql w pm qm M n):qm<w.heap.size:=by obtain ⟨_,h,_⟩:=h;exact h.qlt
theorem Ql.ne {w:World} {pm qm:Nat} {M:List Int} {n:Int} (h:Ql w pm qm M n):pm≠qm:=by obtain ⟨_,h,_⟩:=h;exact h.ne
theorem Za (w:World) (pm qm:Nat) (M:List Int) (n i:Int) (h:Ql w pm qm M n) (hn:n≤1000000000):
 Calls Tryz.prog 44 #[.pointer (some ⟨pm,0,none⟩),.int .i64 i] w fun e w'=>e=.returned (.int .i64 (Q7 M i))∧Ql w' pm qm M (n+1)∧Fr [pm,qm] w w':=by
 obtain ⟨t,h,a,b⟩:=h
 refine (XF w pm qm M t i h a (by omega)).mono ?_
 rintro e w' ⟨rfl,h',f⟩
 have:=Q3w M i
 exact ⟨rfl,⟨_,h',by omega,by omega⟩,f⟩
theorem Vz (w:World) (pm qm:Nat) (M:List Int) (n i v:Int) (h:Ql w pm qm M n) (hn:n≤1000000000):
 Calls Tryz.prog 45 #[.pointer (some ⟨pm,0,none⟩),.int .i64 i,.int .i64 v] w fun e w'=>e=.returned (.bool (isIn M i))∧Ql w' pm qm (Qz M i v) (n+1)∧Fr [pm,qm] w w':=by
 obtain ⟨t,h,a,b⟩:=h
 refine (Dw w pm qm M t i v h a (by omega)).mono ?_
 rintro e w' ⟨rfl,h',f⟩
 have:=Q3w M i
 exact ⟨rfl,⟨_,h',by omega,by omega⟩,f⟩
theorem UH (w:World) (pm qm:Nat) (M:List Int) (n i o v:Int) (h:Ql w pm qm M n) (hn:n≤1000000000):
 Calls Tryz.prog 159 #[.pointer (some ⟨pm,0,none⟩),.int .i64 i,.int .i64 o,.int .i64 v] w fun e w'=>e=.returned (.bool (Qv M i o))∧Ql w' pm qm (QL M i o v) (n+1)∧Fr [pm,qm] w w':=by
 obtain ⟨t,h,a,b⟩:=h
 refine (Vj w pm qm M t i o v h a (by omega)).mono ?_
 rintro e w' ⟨rfl,h',f⟩
 have:=Q3w M i
 exact ⟨rfl,⟨_,h',by omega,by omega⟩,f⟩
theorem addN (w:World) (pm qm:Nat) (M:List Int) (n i v:Int) (h:Ql w pm qm M n) (hn:n≤1000000000):
 Calls Tryz.prog 272 #[.pointer (some ⟨pm,0,none⟩),.int .i64 i,.int .i64 v] w fun e w'=>e=.returned (.int .i64 (Q7 M i))∧Ql w' pm qm (Gw M i v) (n+1)∧Fr [pm,qm] w w':=by
 obtain ⟨t,h,a,b⟩:=h
 refine (Q9D w pm qm M t i v h a (by omega)).mono ?_
 rintro e w' ⟨rfl,h',f⟩
 have:=Q3w M i
 exact ⟨rfl,⟨_,h',by omega,by omega⟩,f⟩
theorem Q7N {M:List Int} {i o v:Int} (h:Qv M i o=true):QL M i o v=M.set i.toNat v:=by unfold QL;rw [if_pos h]
theorem K4 {M:List Int} {i o v:Int} (h:Qv M i o=false):QL M i o v=M:=by unfold QL;rw [if_neg (by rw [h];simp)]
end
section
open Go.RowKit Go.Lib
theorem Fr.setRow' {S:List Nat} {a w:World} (h:Fr S a w) {g:Nat} (hp:g∈S) (cs:Array Value):Fr S a (w.setRow g cs):=
 ⟨h.os,h.tape,h.output,by rw [setRow_size];exact h.size,fun k hk hn=>by
   rw [setRow_other w g k cs (fun e=>hn (by rw [e];exact hp))];exact h.block k hk hn⟩
def QX (e:TypeId) (k:Nat) (w:World) (v:Value) (n:Nat) (C:List Value):Prop:=
 C.length=n*k∧((v=.slice none 0 0∧n=0)∨∃(g off cap:Nat) (cur:Array Value),v=.slice (some ⟨g,off,none⟩) n cap∧w.heap[g]?=some (.cells cur e (0,0))∧n≤cap∧cap≤maxLen∧off+cap*k≤cur.size∧
  ∀(j:Nat) (u:Value),C[j]?=some u→cur[off+j]?=some u)
theorem QX.nil (e:TypeId) (k:Nat) (w:World):QX e k w (.slice none 0 0) 0 []:=⟨by simp,.inl ⟨rfl,rfl⟩⟩
theorem QX.fr {e:TypeId} {k:Nat} {w w':World} {v:Value} {n:Nat} {C:List Value} (h:QX e k w v n C) {S:List Nat} (f:Fr S w w') (hs:∀b,v.ownBlock=some b→b∉S):QX e k w' v n C:=by
 refine ⟨h.1, ?_⟩
 rcases h.2 with h|⟨g,off,cap,cur,rfl,hg,h1⟩
 · exact .inl h
 · exact .inr ⟨g,off,cap,cur,rfl,f.at hg (hs g rfl),h1⟩
theorem QX.lt {e:TypeId} {k:Nat} {w:World} {v:Value} {n:Nat} {C:List Value} (h:QX e k w v n C):∀b,v.ownBlock=some b→b<w.heap.size:=by
 intro b hb
 rcases h.2 with ⟨rfl,_⟩|⟨g,off,cap,cur,rfl,hg,h1⟩
 · cases hb
 · cases hb;exact Q6 hg
theorem QX.form {e:TypeId} {k:Nat} {w:World} {v:Value} {n:Nat} {C:List Value} (h:QX e k w v n C):∃(a:Option Addr) (cap:Nat),v=.slice a n cap:=by
 rcases h.2 with ⟨rfl,rfl⟩|⟨g,off,cap,cur,rfl,_⟩
 · exact ⟨_,_,rfl⟩
 · exact ⟨_,_,rfl⟩
theorem QX.cell {e:TypeId} {k:Nat} {w:World} {g off cap n:Nat} {C:List Value} (h:QX e k w (.slice (some ⟨g,off,none⟩) n cap) n C) {j:Nat} {u:Value} (hj:C[j]?=some u):w.cell? ⟨g,off+j,none⟩=some u:=by
 rcases h.2 with ⟨h,_⟩|⟨g',off',cap',cur,h0,hg,h1,h2,h3,h4⟩
 · cases h
 · simp only [Value.slice.injEq,Option.some.injEq,Addr.mk.injEq,and_true,true_and] at h0
   obtain ⟨⟨rfl,rfl⟩,rfl⟩:=h0
   exact cell_of hg (h4 j u hj)
theorem Wx {P:Program} (w:World) (t ty e:TypeId) (i:TypeInfo) (ht:P.underlying t=some (.slice e)) (hi:P.info? e=some i) (k:Nat) (hk:i.size=k)
 (g off sLen sCap:Nat) (cur:Array Value) (hg:w.heap[g]?=some (.cells cur e (0,0)))
 (a:Addr) (c:Nat) (news:List Value) (hl:news.length=k) (hnews:∀j u,news[j]?=some u→w.cell? (a.add j)=some u) (h1:∀u∈news,u.oneCell'=true)
 (hroom:sLen+1≤sCap) (hfit:off+sCap*k≤cur.size):
 (Builtin.append_ #[t,t] ty #[.slice (some ⟨g,off,none⟩) sLen sCap,.slice (some a) 1 c]).run P w=
   .ok (.slice (some ⟨g,off,none⟩) (sLen+1) sCap) (w.setRow g (cur.toList.take (off+sLen*k)++news++cur.toList.drop (off+sLen*k+k)).toArray):=by
 have hf:=run_firstCells_some (P:=P) w i.size 1 a 1 c news (by rw [hl,hk];omega) hnews
 have hmul:sLen*k+k≤sCap*k:=by
  have:=Nat.mul_le_mul_right k hroom
  rwa [Nat.add_mul,Nat.one_mul] at this
 have hst:=run_storeCells_at P g (off+sLen*k) e news 0 cur w hg (by simp only [hl];omega) h1
 simp only [Nat.add_zero,hl] at hst
 simp [Builtin.append_,run_underlying ht,sizeOf,typeInfo,hi,hk,Builtin.lenOf,hroom,Addr.add_lit]
 rw [hk] at hf
 simp [hf,hst]
theorem VD {P:Program} (w:World) (t ty e:TypeId) (i:TypeInfo) (z:Value) (k:Nat) (ht:P.underlying t=some (.slice e)) (hi:P.info? e=some i) (hz:i.zero=some z) (hk:i.size=k) (hby:i.bytes≤1000)
 (hzs:z.cells.size=k) (v:Value) (n:Nat) (C:List Value) (hv:QX e k w v n C) (ad:Addr) (c:Nat) (news:List Value) (hl:news.length=k) (hnews:∀j u,news[j]?=some u→w.cell? (ad.add j)=some u)
 (h1:∀u∈news,u.oneCell'=true) (hlen:n≤100000):
 ∃g off cap w',(Builtin.append_ #[t,t] ty #[v,.slice (some ad) 1 c]).run P w=.ok (.slice (some ⟨g,off,none⟩) (n+1) cap) w'∧QX e k w' (.slice (some ⟨g,off,none⟩) (n+1) cap) (n+1) (C++news)∧Fr v.ownBlock.toList w w'∧
  (v.ownBlock=some g∨g=w.heap.size)∧g<w'.heap.size:=by
 have hC:=hv.1
 have hb2:∀m:Nat,m≤100001→m*i.bytes≤140737488355328:=fun m hm=>by
  have:=Nat.mul_le_mul hm hby;omega
 have grown:∀(old:Nat),QX e k (w.drew.alloc (.cells ((C.toArray++news.toArray)++Builtin.zeroCells z.cells (grownCap w (n+1) old e - (n+1))) e))
  (.slice (some ⟨w.heap.size,0,none⟩) (n+1) (grownCap w (n+1) old e)) (n+1) (C++news):=by
  intro old
  have hge:=grownCap_ge w (n+1) old e
  have hcm:grownCap w (n+1) old e≤maxLen:=grownCap_le_maxLen w (n+1) old e (by unfold maxLen;omega)
  refine ⟨by rw [List.length_append,hC,hl,Nat.add_mul,Nat.one_mul],.inr ⟨w.heap.size,0,_,_,rfl,heap_alloc_new w.drew _,hge,hcm, ?_,fun j u hj=> ?_⟩⟩
  · simp only [Array.size_append,List.size_toArray,hC,hl,size_zeroCells,hzs]
    rw [Nat.zero_add,←Nat.one_mul k,←Nat.mul_assoc,Nat.mul_one,Nat.one_mul,←Nat.add_one_mul,←Nat.add_mul]
    exact Nat.mul_le_mul_right k (by omega)
  · rw [Nat.zero_add,←Array.getElem?_toList]
    simp only [Array.toList_append]
    rw [List.getElem?_append_left (by have:=(List.getElem?_eq_some_iff.1 hj).1;simpa using this)]
    exact hj
 have fgrown:∀o S,Fr S w (w.drew.alloc o):=fun o S=>((Fr.refl S w).drew).alloc o
 rcases hv.2 with ⟨rfl,rfl⟩|⟨g,off,cap,cur,rfl,hg,h2,h3,h4,h5⟩
 · have hC0:C=[]:=List.eq_nil_of_length_eq_zero (by rw [hC,Nat.zero_mul])
   subst hC0
   have hr:=run_append_nil (P:=P) w t ty e i z ht hi hz ad 1 c news (by rw [hl,hk,Nat.one_mul]) hnews (by omega) (by omega) (by have:=hb2 1 (by omega);omega)
   have hgr:=grown 0
   simp only [Nat.zero_add,List.nil_append,Array.empty_append] at hgr
   exact ⟨_,_,_,_,hr,hgr,fgrown _ _,.inr rfl,by simp⟩
 · by_cases hroom:n+1≤cap
   · have hr:=Wx (P:=P) w t ty e i ht hi k hk g off n cap cur hg ad c news hl hnews h1 hroom h4
     have hmul:n*k+k≤cap*k:=by
      have:=Nat.mul_le_mul_right k hroom
      rwa [Nat.add_mul,Nat.one_mul] at this
     have hlt:off+n*k+k≤cur.size:=by omega
     have e0:(cur.toList.take (off+n*k)).length=off+n*k:=by rw [List.length_take,Array.length_toList];omega
     refine ⟨g,off,cap,_,hr,⟨by rw [List.length_append,hC,hl,Nat.add_mul,Nat.one_mul],.inr ⟨g,off,cap,_,rfl,setRow_heap w g cur _ e _ hg,hroom,h3, ?_,fun j u hj=> ?_⟩⟩, ?_,.inl rfl, ?_⟩
     · simp [hl];omega
     · rw [List.getElem?_toArray,List.append_assoc]
       rcases Nat.lt_or_ge j (n*k) with hjn|hjn
       · rw [List.getElem?_append_left (by omega)] at hj
         rw [List.getElem?_append_left (by omega),List.getElem?_take,if_pos (by omega),Array.getElem?_toList]
         exact h5 j u hj
       · rw [List.getElem?_append_right (by omega),hC] at hj
         have hj2:=(List.getElem?_eq_some_iff.1 hj).1
         rw [List.getElem?_append_right (by omega),e0,List.getElem?_append_left (by omega),show off+j - (off+n*k)=j - n*k by omega]
         exact hj
     · exact ((Fr.refl _ w).setRow' (by simp [Value.ownBlock]) _)
     · rw [setRow_size];exact Q6 hg
   · have hr:=run_append_grow (P:=P) w t ty e i z ht hi hz ⟨g,off,none⟩ n cap C (by rw [hC,hk]) (fun j u hu=>by rw [Addr.add_lit];exact cell_of hg (h5 j u hu)) ad 1 c news (by rw [hl,hk,Nat.one_mul]) hnews (by omega) (by omega) (growslice_fits (by omega) (hb2 _ (by omega)))
     exact ⟨_,_,_,_,hr,grown cap,fgrown _ _,.inr rfl,by simp⟩
end
section
open Go.RowKit Go.Shelf Go.Lib
attribute [local go_sem] Oper.semAt_some
def Y3 (w:World) (p:Nat) (now:Int):Prop:=w.heap[p]?=some (.cells #[.int .i64 now] 103 (0,0))
theorem Y3.fr {w w':World} {p:Nat} {now:Int} (h:Y3 w p now) {S:List Nat} (f:Fr S w w') (hp:p∉S):Y3 w' p now:=f.at h hp
def GH (now n:Int):Int:=now+min (max n 0) (1099511627776 - now)
theorem Q5D (w:World) (p:Nat) (now n:Int) (h:Y3 w p now) (h0:0≤now) (h1:now≤1099511627776):
 Calls Tryz.prog 27 #[.pointer (some ⟨p,0,none⟩),.int .i64 n] w fun e w'=>e=.returned (.int .i64 (GH now n))∧Y3 w' p (GH now n)∧Fr [p] w w':=by
 unfold Y3 at h
 have q0:=cl 0 h
 have u0:=Q9 (i:=0) h
 go_in
 go_wp2_with fail
 go_region
 rw [show (now+if 1099511627776 - now<if n<0 then 0 else n then 1099511627776 - now else if n<0 then 0 else n)=GH now n by unfold GH;rw [Int.max_def,Int.min_def];split<;>split<;>split<;>split<;>omega]
 have hb:=Q9A (heap_setCell_same (i:=0) h (.int .i64 (GH now n)))
 simp only [List.setIfInBounds_toArray,List.set_cons_zero] at hb
 have hf:=((Fr.refl [p] w).sc p 0 (.int .i64 (GH now n))).drew
 generalize (w.setCell ⟨p,0,none⟩ (.int .i64 (GH now n))).drew=w1 at hb hf ⊢
 have r0:=cl 0 hb
 clear q0 u0 h
 go_wp2
 all_goals go_ret
 all_goals exact ⟨rfl,hb,hf⟩
theorem Q3e (w:World) (m now:Int):Calls Tryz.prog 72 #[.int .i64 m,.int .i64 now] w fun e w'=>e=.returned (.bool (decide (m≤now)))∧Fr [] w w':=by
 go_in
 go_wp2
 go_ret
 exact ⟨by simp,Fr.refl _ _⟩
theorem Q5H (w:World) (p:Nat) (now dl:Int) (h:Y3 w p now):
 Calls Tryz.prog 54 #[.pointer (some ⟨p,0,none⟩),.int .i64 dl] w fun e w'=>e=.returned (.bool (decide (dl≤now)))∧Fr [] w w':=by
 unfold Y3 at h
 have q0:=cl 0 h
 have HP:=hid fun (w':World)=>Q3e w' dl now
 go_in
 go_wp2_with fail
 refine (HP.out w).mono ?_
 rintro e w1 ⟨rfl,f⟩
 go_wp2
 go_ret
 exact ⟨rfl,f⟩
theorem Q7L (w:World):Calls Tryz.prog 33 #[] w fun e w'=>∃p,e=.returned (.pointer (some ⟨p,0,none⟩))∧w.heap.size≤p∧p<w'.heap.size∧Y3 w' p 0∧Fr [] w w':=by
 have hb:=heap_alloc_new w (.cells #[.int .i64 0] 103 (0,0))
 have HX:=hid (show Y3 _ w.heap.size 0∧Fr [] w _∧w.heap.size<_ from ⟨hb,(Fr.refl [] w).alloc (.cells #[.int .i64 0] 103 (0,0)),Q6 hb⟩)
 clear hb
 go_in
 go_wp2
 go_ret
 exact ⟨_,rfl,Nat.le_refl _,HX.out.2.2,HX.out.1,HX.out.2.1⟩
def RingAt (w:World) (p:Nat) (v:Value) (L:List Bool):Prop:=w.heap[p]?=some (.cells #[v,.int .i64 1000] 119 (0,0))∧QX 4 1 w v L.length (L.map .bool)
theorem RingAt.ov {w w':World} {p:Nat} {v:Value} {L:List Bool} (h:RingAt w p v L) {S:List Nat} (f:Fr S w w') (hp:p∉S) (hv:∀b,v.ownBlock=some b→b∉S):RingAt w' p v L:=by
 obtain ⟨h1,h2⟩:=h
 exact ⟨f.at h1 hp,h2.fr f hv⟩
def Q1R (w:World) (p:Nat) (v:Value) (L:List Bool) (x:Bool) (e:Ending) (w':World):Prop:=
 ∃v',e=.returned (.bool (decide (L.length<1000)))∧RingAt w' p v' (if L.length<1000 then L++[x] else L)∧Fr (p::v.ownBlock.toList) w w'∧(∀b,v'.ownBlock=some b→v.ownBlock=some b∨w.heap.size≤b)
theorem Q5M:(Tryz.prog.info? 4).map (fun i=>(i.zero,i.size,i.bytes))=some (some (.bool false),1,1):=by kernel_rfl
theorem wpList_append_run {P:Program} (w:World) {ops:Array Oper} {rest:List Oper} {o:Oper} {a:Act} {Q:Exit→Act→World→Prop} (hgd:o.guard=none) (d x:Operand) (dT sT:TypeId)
 (ho:o.op=Op.call {callee:=Callee.builtin Builtin.append,args:=#[d,x],argTypes:=#[dT,sT]}) (v u:Value) (hd:a.eval d=v) (hx:a.eval x=u) {v':Value} {w':World}
 (hr:(Builtin.append_ #[dT,sT] o.type #[v,u]).run P w=.ok v' w') (h:wpList P ops Q rest (a.put o.dst v') w'):wpList P ops Q (o::rest) a w:=
 wpList_plain hgd fun _ hK=>by
  unfold Oper.wp execOp
  simp only [ho,resolve,invoke,builtin,Sem.run_bind,Sem.run_pure,Result.andThen_ok,List.map_toArray,List.map_cons,List.map_nil,hd,hx,hr]
  exact hK _ _ h
theorem Q4C (w:World) (p:Nat) (v:Value) (L:List Bool) (x:Bool) (h:RingAt w p v L) (hp:∀b,v.ownBlock=some b→b≠p) (hL:L.length≤1000):
 Calls Tryz.prog 41 #[.pointer (some ⟨p,0,none⟩),.bool x] w (Q1R w p v L x):=by
 obtain ⟨hb,hr⟩:=h
 obtain ⟨a,cap,rfl⟩:=hr.form
 obtain ⟨n,hn⟩:∃n,L.length=n:=⟨_,rfl⟩
 rw [hn] at hb hr hp hL
 have q0:=cl 0 hb
 have q1:=cl 1 hb
 have u0:=Q9 (i:=0) hb
 have HN:=hid hn
 clear hn
 unfold Q1R
 rw [HN.out]
 go_in
 go_wp2_with fail
 go_region
 by_cases hfull:n<1000
 · rw [show decide ((1000:Int)≤(n:Int))=false by simp;omega]
   obtain ⟨i0,hi,hz0,hz1,hz2⟩:=info_parts Q5M
   have hW:Fr [] w (w.alloc (.cells #[.bool x] 4)).drew:=((Fr.refl [] w).alloc _).drew
   obtain ⟨g,off,cap2,w2,hrun,hr2,f2,hg,hlt⟩:=VD (P:=Tryz.prog) (w.alloc (.cells #[.bool x] 4)).drew 59 59 4 i0 (.bool false) 1 Tryz.underlying59 hi hz0 hz1 (by omega) rfl _ n _ (hr.fr hW (by simp)) ⟨w.heap.size,0,none⟩ 1 [.bool x] rfl (fun j u hj=>by
    cases j with
    |zero=>simp at hj;subst hj;exact cell_of (heap_alloc_new w (.cells #[.bool x] 4 (0,0))) rfl
    |succ j=>simp at hj) (by simp [Value.oneCell']) (by omega)
   have hF:=(hW.mono (S':=p::(Value.slice a n cap).ownBlock.toList) (by simp)).trans (f2.mono (fun b hb=>List.mem_cons_of_mem _ hb))
   have hb2:w2.heap[p]?=some (.cells #[.slice a n cap,.int .i64 1000] 119 (0,0)):=f2.at (hW.at hb (by simp)) (fun hm=>hp p (by simpa using hm) rfl)
   have hgp:g≠p:=by
    rcases hg with hg|hg
    · exact hp g hg
    · have:=Q6 hb;simp at hg;omega
   have hgs:(Value.slice a n cap).ownBlock=some g∨w.heap.size≤g:=hg.imp id (fun h=>by simp at h;omega)
   have r0:=cl 0 hb2
   have v0:=Q9 (i:=0) hb2
   have HR:=hid hr2;have HF:=hid hF;have HG:=hid hgs
   clear hr2 hF hg hgs hr hb q1 hW f2 hp
   go_wp2_with (first|(at_builtin;refine wpList_append_run _ rfl _ _ _ _ rfl _ _ rfl rfl hrun ?_))
   have hb3:=heap_setCell_same (i:=0) hb2 (.slice (some ⟨g,off,none⟩) (n+1) cap2)
   simp only [List.setIfInBounds_toArray,List.set_cons_zero] at hb3
   have HR3:=hid (HR.out.fr ((Fr.refl [p] w2).sc p 0 (.slice (some ⟨g,off,none⟩) (n+1) cap2)) (fun b hb=>by cases hb;simpa using hgp))
   have HF3:=hid (HF.out.sc p 0 (.slice (some ⟨g,off,none⟩) (n+1) cap2))
   go_ret
   exact ⟨rfl,_,⟨hb3,by rw [List.length_append,HN.out,List.map_append];exact HR3.out⟩,HF3.out,fun b hb=>by cases hb;exact HG.out⟩
 · rw [show decide ((1000:Int)≤(n:Int))=true by simp;omega]
   go_wp2
   go_ret
   exact ⟨rfl,_,⟨hb,by rw [HN.out];exact hr⟩,(Fr.refl _ w).drew,fun b hb=>.inl hb⟩
def Q0b (w:World) (p:Nat) (v:Value) (L:List Bool) (e:Ending) (w':World):Prop:=
 ∃v',e=.returned (.tuple #[.bool (L.headD false),.bool (decide (L≠[]))])∧RingAt w' p v' L.tail∧Fr (p::v.ownBlock.toList) w w'∧(∀b,v'.ownBlock=some b→v.ownBlock=some b)
theorem Q6B (w:World) (p:Nat) (v:Value) (h:RingAt w p v []):Calls Tryz.prog 175 #[.pointer (some ⟨p,0,none⟩)] w (Q0b w p v []):=by
 obtain ⟨hb,hr⟩:=h
 obtain ⟨a,cap,rfl⟩:=hr.form
 rw [List.length_nil] at hb hr
 have q0:=cl 0 hb
 have HX:=hid (show RingAt w p (.slice a 0 cap) [] from ⟨hb,hr⟩)
 clear hb hr
 go_in
 go_wp2
 go_ret2
 exact ⟨_,rfl,HX.out,Fr.refl _ w,fun b hb=>hb⟩
theorem Q4D (w:World) (p:Nat) (v:Value) (x:Bool) (t:List Bool) (h:RingAt w p v (x::t)) (hp:∀b,v.ownBlock=some b→b≠p):Calls Tryz.prog 175 #[.pointer (some ⟨p,0,none⟩)] w (Q0b w p v (x::t)):=by
 obtain ⟨hb,hr⟩:=h
 rcases hr.2 with ⟨_,h0⟩|⟨g,off,cap,cur,rfl,hg,h1,h2,h3,h4⟩
 · simp at h0
 obtain ⟨n,hn⟩:∃n,t.length=n:=⟨_,rfl⟩
 rw [List.length_cons,hn] at hb hr h1
 have hgp:=hp g rfl
 have q0:=cl 0 hb
 have u0:=Q9 (i:=0) hb
 have e0:w.cell? ⟨g,off,none⟩=some (.bool x):=by have:=hr.cell (j:=0) (u:=.bool x) rfl;simpa using this
 have ue:=Q9 (i:=off) hg
 have HN:=hid hn
 have HGP:=hid hgp;have HB:=hid hb;have HR:=hid hr
 clear hr hn hb hp
 have hcap:¬cap=0:=by omega
 have hpos:¬n+1=0:=by omega
 have hpg:¬p=g:=fun e=>hgp e.symm
 have hgp':¬g=p:=hgp
 have hq:∀j u,(t.map Value.bool)[j]?=some u→(cur.setIfInBounds off (.bool false))[off+1+j]?=some u:=fun j u hj=>by
  rw [Array.getElem?_setIfInBounds_ne (by omega),show off+1+j=off+(j+1) by omega]
  exact h4 (j+1) u (by simpa using hj)
 have HQ:=hid hq
 clear hq h4
 rcases Nat.eq_zero_or_pos n with h0|h0
 · subst h0
   have ht:t=[]:=List.eq_nil_of_length_eq_zero HN.out
   subst ht
   go_in
   go_wp2_with fail
   all_goals go_ret2
   all_goals exact ⟨.slice none 0 0,rfl,⟨heap_setCell_same (i:=0) (heap_setCell_same (i:=0) (X4 (a:=⟨g,off,none⟩) HB.out HGP.out.symm (.bool false)) _) (.slice none 0 0),QX.nil _ _ _⟩,(((Fr.refl _ w).setCell (p:=⟨g,off,none⟩) (.inl (by simp [Value.ownBlock])) _).setCell (p:=⟨p,0,none⟩) (.inl (by simp)) _).setCell (p:=⟨p,0,none⟩) (.inl (by simp)) _,fun b hb=>by cases hb⟩
 · have hc1:¬cap=1:=by omega
   have hn0:¬n=0:=by omega
   have hn1:((n:Int)==0)=false:=by simp;omega
   go_in
   go_wp2_with fail
   go_ret2
   refine ⟨_,rfl,⟨heap_setCell_same (i:=0) (X4 (a:=⟨g,off,none⟩) HB.out HGP.out.symm (.bool false)) _,by simp,.inr ⟨g,off+1,cap - 1,cur.setIfInBounds off (.bool false),by rw [List.tail_cons,HN.out],X4 (a:=⟨p,0,none⟩) (heap_setCell_same (i:=off) hg (.bool false)) HGP.out _,by rw [List.tail_cons,HN.out];omega,by omega,by simp;omega,HQ.out⟩⟩,((Fr.refl _ w).setCell (p:=⟨g,off,none⟩) (.inl (by simp [Value.ownBlock])) _).setCell (p:=⟨p,0,none⟩) (.inl (by simp)) _,fun b hb=>hb⟩
structure Ze (w:World) (pw pr:Nat) (v:Value) (L:List Bool) (good bad:Int):Prop where
 b:w.heap[pw]?=some (.cells #[.pointer (some ⟨pr,0,none⟩),.int .i64 good,.int .i64 bad] 106 (0,0))
 r:RingAt w pr v L
 n:pw≠pr
 o:∀b,v.ownBlock=some b→b≠pr∧b≠pw
theorem Ze.ov {w w':World} {pw pr:Nat} {v:Value} {L:List Bool} {good bad:Int} (h:Ze w pw pr v L good bad) {S:List Nat} (f:Fr S w w') (h1:pw∉S) (h2:pr∉S) (h3:∀b,v.ownBlock=some b→b∉S):Ze w' pw pr v L good bad:=by
 obtain ⟨a,b,c,d⟩:=h
 exact ⟨f.at a h1,b.ov f h2 h3,c,d⟩
def Q86 (w:World) (pw pr:Nat) (v:Value) (L:List Bool) (good bad:Int) (x:Bool) (e:Ending) (w':World):Prop:=
 ∃v',e=.returned (.bool (decide (L.length<1000)))∧Ze w' pw pr v' (if L.length<1000 then L++[x] else L) good bad∧Fr (pr::v.ownBlock.toList) w w'∧(∀b,v'.ownBlock=some b→v.ownBlock=some b∨w.heap.size≤b)
theorem Q4g (w:World) (pw pr:Nat) (v:Value) (L:List Bool) (good bad:Int) (x:Bool) (h:Ze w pw pr v L good bad) (hL:L.length≤1000):
 Calls Tryz.prog 28 #[.pointer (some ⟨pw,0,none⟩),.bool x] w (Q86 w pw pr v L good bad x):=by
 have q0:=cl 0 h.b
 have HC:=hid (Q4C w pr v L x h.r (fun b hb=>(h.o b hb).1) hL)
 have H:=hid h
 clear h
 go_in
 go_wp2_with fail
 refine HC.out.mono ?_
 rintro e w1 ⟨v',rfl,hr,f,hb⟩
 have hpw:=Q6 H.out.b;have hpr:=Q6 H.out.r.1
 have h1:=f.at H.out.b (by
  intro hm
  rcases List.mem_cons.1 hm with h|h
  · exact H.out.n h
  · exact (H.out.o pw (by simpa using h)).2 rfl)
 have HX:=hid (show Ze w1 pw pr v' (if L.length<1000 then L++[x] else L) good bad from ⟨h1,hr,H.out.n,fun b hv=>by
  rcases hb b hv with h|h
  · exact H.out.o b h
  · exact ⟨by omega,by omega⟩⟩)
 have HF:=hid f;have HB:=hid hb
 clear f hb hr h1 q0
 go_wp2
 go_ret
 exact ⟨v',rfl,HX.out,HF.out,HB.out⟩
def Q5T (w:World) (pw pr:Nat) (v:Value) (L:List Bool) (good bad:Int) (e:Ending) (w':World):Prop:=
 ∃v',e=.returned (.bool (L.headD true))∧Ze w' pw pr v' L.tail (if L.headD true=true then good+1 else good) (if L.headD true=true then bad else bad+1)∧Fr (pw::pr::v.ownBlock.toList) w w'∧(∀b,v'.ownBlock=some b→v.ownBlock=some b)
theorem Q6C (w:World) (p:Nat) (v:Value) (L:List Bool) (h:RingAt w p v L) (hp:∀b,v.ownBlock=some b→b≠p):Calls Tryz.prog 175 #[.pointer (some ⟨p,0,none⟩)] w (Q0b w p v L):=by
 cases L with
 |nil=>exact Q6B w p v h
 |cons x t=>exact Q4D w p v x t h hp
theorem Q4f (w:World) (pw pr:Nat) (v:Value) (L:List Bool) (good bad:Int) (h:Ze w pw pr v L good bad) (g0:0≤good) (g1:good≤1000000000) (b0:0≤bad) (b1:bad≤1000000000):
 Calls Tryz.prog 115 #[.pointer (some ⟨pw,0,none⟩)] w (Q5T w pw pr v L good bad):=by
 have q0:=cl 0 h.b
 have HC:=hid (Q6C w pr v L h.r (fun b hb=>(h.o b hb).1))
 have H:=hid h
 clear h
 go_in
 go_wp2_with fail
 refine HC.out.mono ?_
 rintro e w1 ⟨v',rfl,hr,f,hb⟩
 have h1:=f.at H.out.b (by
  intro hm
  rcases List.mem_cons.1 hm with h|h
  · exact H.out.n h
  · exact (H.out.o pw (by simpa using h)).2 rfl)
 have ho:∀b,v'.ownBlock=some b→b≠pr∧b≠pw:=fun b hv=>H.out.o b (hb b hv)
 have HX:∀(g' b':Int) (w2:World),w2.heap[pw]?=some (.cells #[.pointer (some ⟨pr,0,none⟩),.int .i64 g',.int .i64 b'] 106 (0,0))→Fr [pw] w1 w2→Ze w2 pw pr v' L.tail g' b'∧Fr (pw::pr::v.ownBlock.toList) w w2∧(∀b,v'.ownBlock=some b→v.ownBlock=some b):=fun g' b' w2 hw2 f2=>
  ⟨⟨hw2,hr.ov f2 (by simpa using H.out.n.symm) (fun b hv=>by simpa using (ho b hv).2),H.out.n,ho⟩,(f.mono (fun k hk=>List.mem_cons_of_mem _ hk)).trans (f2.mono (fun k hk=>by simp at hk;simp [hk])),hb⟩
 have HX':=hid HX
 have H1:=hid h1
 have q1:=cl 1 h1;have q2:=cl 2 h1;have u1:=Q9 (i:=1) h1;have u2:=Q9 (i:=2) h1
 clear hr f hb h1 ho HX H HC
 have hg:Fr [pw] w1 (w1.setCell ⟨pw,1,none⟩ (.int .i64 (good+1))):=(Fr.refl [pw] w1).sc pw 1 _
 have hbd:Fr [pw] w1 (w1.setCell ⟨pw,2,none⟩ (.int .i64 (bad+1))):=(Fr.refl [pw] w1).sc pw 2 _
 have k1:=heap_setCell_same (i:=1) H1.out (.int .i64 (good+1))
 have k2:=heap_setCell_same (i:=2) H1.out (.int .i64 (bad+1))
 simp only [List.setIfInBounds_toArray,List.set_cons_zero,List.set_cons_succ] at k1 k2
 have HG:=hid (HX'.out _ _ _ k1 hg);have HB:=hid (HX'.out _ _ _ k2 hbd)
 clear k1 k2 hg hbd H1 HX'
 rcases L with _|⟨x,t⟩
 · simp only [List.headD_nil,ne_eq,not_true_eq_false,decide_false]
   go_wp2
   go_ret
   exact ⟨v',rfl,HG.out⟩
 · simp only [List.headD_cons,ne_eq,reduceCtorEq,not_false_eq_true,decide_true]
   cases x
   · go_wp2
     go_ret
     exact ⟨v',rfl,HB.out⟩
   · go_wp2
     go_ret
     exact ⟨v',rfl,HG.out⟩
theorem Q62 (w:World):Calls Tryz.prog 34 #[] w fun e w'=>∃pw pr,e=.returned (.pointer (some ⟨pw,0,none⟩))∧w.heap.size≤pw∧w.heap.size≤pr∧Ze w' pw pr (.slice none 0 0) [] 0 0∧Fr [] w w':=by
 have HR:∀w:World,Calls Tryz.prog 50 #[.int .i64 1000] w fun e w'=>∃p,e=.returned (.pointer (some ⟨p,0,none⟩))∧w.heap.size≤p∧w'.heap[p]?=some (.cells #[.slice none 0 0,.int .i64 1000] 119 (0,0))∧Fr [] w w':=by
  intro w
  have hb:=heap_alloc_new w (.cells #[.slice none 0 0,.int .i64 1000] 119 (0,0))
  have HX:=hid (And.intro hb ((Fr.refl [] w).alloc (.cells #[.slice none 0 0,.int .i64 1000] 119 (0,0))))
  clear hb
  go_in
  go_wp2
  go_ret
  exact ⟨_,rfl,Nat.le_refl _,HX.out⟩
 have HR':=hid HR
 clear HR
 go_in
 go_wp2_with fail
 refine (HR'.out w).mono ?_
 rintro e w1 ⟨p,rfl,hp,hb,f⟩
 have h1:=heap_alloc_new w1 (.cells #[.pointer (some ⟨p,0,none⟩),.int .i64 0,.int .i64 0] 106 (0,0))
 have h2:=Qd hb (.cells #[.pointer (some ⟨p,0,none⟩),.int .i64 0,.int .i64 0] 106 (0,0))
 have hl:=Q6 hb
 have HX:=hid (show Ze _ w1.heap.size p (.slice none 0 0) [] 0 0∧Fr [] w _ from ⟨⟨h1,⟨h2,QX.nil _ _ _⟩,by omega,fun b hb=>by cases hb⟩,f.alloc (.cells #[.pointer (some ⟨p,0,none⟩),.int .i64 0,.int .i64 0] 106 (0,0))⟩)
 have HS:=hid f.size
 clear h1 h2 hb f
 go_wp2
 go_ret
 exact ⟨_,p,rfl,HS.out,hp,HX.out⟩
end
end Go.Proofs.YtgjklfmnmljilaaGreatDoor

/- A part of the proof. -/
import Derived.Test.YtgjklfmnmljilaaGreatDoorZR20
import Derived.Laws.AppendOwn
import Derived.Deep.AppendSrc
namespace Go.Proofs.YtgjklfmnmljilaaGreatDoor
set_option linter.unusedVariables false
set_option linter.unusedSimpArgs false
set_option linter.unusedSectionVars false
set_option linter.unnecessarySimpa false
set_option maxRecDepth 100000
set_option maxHeartbeats 8000000
section
open Go.RowKit Go.Lib
theorem Fr.setRow' {S:List Nat} {a w:World} (h:Fr S a w) {g:Nat} (hp:g∈S) (cs:Array Value):Fr S a (w.setRow g cs):=
 ⟨h.os,h.tape,h.output,by rw [setRow_size];exact h.size,fun k hk hn=>by
   rw [setRow_other w g k cs (fun e=>hn (by rw [e];exact hp))];exact h.block k hk hn⟩
def J3 (e:TypeId) (k:Nat) (w:World) (v:Value) (n:Nat) (C:List Value):Prop:=
 C.length=n*k∧((v=.slice none 0 0∧n=0)∨∃(g off cap:Nat) (cur:Array Value),v=.slice (some ⟨g,off,none⟩) n cap∧w.heap[g]?=some (.cells cur e (0,0))∧n≤cap∧cap≤maxLen∧off+cap*k≤cur.size∧
  ∀(j:Nat) (u:Value),C[j]?=some u→cur[off+j]?=some u)
theorem J3.nil (e:TypeId) (k:Nat) (w:World):J3 e k w (.slice none 0 0) 0 []:=⟨Lc,.inl ⟨rfl,rfl⟩⟩
theorem J3.fr {e:TypeId} {k:Nat} {w w':World} {v:Value} {n:Nat} {C:List Value} (h:J3 e k w v n C) {S:List Nat} (f:Fr S w w') (hs:∀b,v.ownBlock=some b→b∉S):J3 e k w' v n C:=by
 refine ⟨h.1, ?_⟩
 rcases h.2 with h|⟨g,off,cap,cur,rfl,hg,h1⟩
 · exact .inl h
 · exact .inr ⟨g,off,cap,cur,rfl,f.at hg (hs g rfl),h1⟩
theorem J3.lt {e:TypeId} {k:Nat} {w:World} {v:Value} {n:Nat} {C:List Value} (h:J3 e k w v n C):∀b,v.ownBlock=some b→b<w.heap.size:=by
 intro b hb
 rcases h.2 with ⟨rfl,_⟩|⟨g,off,cap,cur,rfl,hg,h1⟩
 · cases hb
 · cases hb;exact Q9 hg
theorem J3.form {e:TypeId} {k:Nat} {w:World} {v:Value} {n:Nat} {C:List Value} (h:J3 e k w v n C):∃(a:Option Addr) (cap:Nat),v=.slice a n cap:=by
 rcases h.2 with ⟨rfl,rfl⟩|⟨g,off,cap,cur,rfl,_⟩
 · exact ⟨_,_,rfl⟩
 · exact ⟨_,_,rfl⟩
theorem J3.cell {e:TypeId} {k:Nat} {w:World} {g off cap n:Nat} {C:List Value} (h:J3 e k w (.slice (some ⟨g,off,none⟩) n cap) n C) {j:Nat} {u:Value} (hj:C[j]?=some u):w.cell? ⟨g,off+j,none⟩=some u:=by
 rcases h.2 with ⟨h,_⟩|⟨g',off',cap',cur,h0,hg,h1,h2,h3,h4⟩
 · cases h
 · simp only [Value.slice.injEq,Option.some.injEq,Addr.mk.injEq,and_true,true_and] at h0
   obtain ⟨⟨rfl,rfl⟩,rfl⟩:=h0
   exact cell_of hg (h4 j u hj)
theorem Wj {P:Program} (w:World) (t ty e:TypeId) (i:TypeInfo) (ht:P.underlying t=some (.slice e)) (hi:P.info? e=some i) (k:Nat) (hk:i.size=k)
 (g off sLen sCap:Nat) (cur:Array Value) (hg:w.heap[g]?=some (.cells cur e (0,0)))
 (a:Addr) (c:Nat) (news:List Value) (hl:news.length=k) (hnews:∀j u,news[j]?=some u→w.cell? (a.add j)=some u) (h1:∀u∈news,u.oneCell'=true)
 (hroom:sLen+1≤sCap) (hfit:off+sCap*k≤cur.size):
 (Builtin.append_ #[t,t] ty #[.slice (some ⟨g,off,none⟩) sLen sCap,.slice (some a) 1 c]).run P w=
   .ok (.slice (some ⟨g,off,none⟩) (sLen+1) sCap) (w.setRow g (cur.toList.take (off+sLen*k)++news++cur.toList.drop (off+sLen*k+k)).toArray):=by
 have hf:=run_firstCells_some (P:=P) w i.size 1 a 1 c news (by rw [hl,hk];omega) hnews
 have hmul:sLen*k+k≤sCap*k:=by
  have:=Nat.mul_le_mul_right k hroom
  rwa [Nat.add_mul,Nat.one_mul] at this
 have hst:=run_storeCells_at P g (off+sLen*k) e news 0 cur w hg (by simp only [hl];omega) h1
 simp only [Nat.add_zero,hl] at hst
 simp [Builtin.append_,run_underlying ht,sizeOf,typeInfo,hi,hk,Builtin.lenOf,hroom,Addr.add_lit]
 rw [hk] at hf
 simp [hf,hst]
theorem Yq {P:Program} (w:World) (t ty e:TypeId) (i:TypeInfo) (z:Value) (k:Nat) (ht:P.underlying t=some (.slice e)) (hi:P.info? e=some i) (hz:i.zero=some z) (hk:i.size=k) (hby:i.bytes≤1000)
 (hzs:z.cells.size=k) (v:Value) (n:Nat) (C:List Value) (hv:J3 e k w v n C) (ad:Addr) (c:Nat) (news:List Value) (hl:news.length=k) (hnews:∀j u,news[j]?=some u→w.cell? (ad.add j)=some u)
 (h1:∀u∈news,u.oneCell'=true) (hlen:n≤100000):
 ∃g off cap w',(Builtin.append_ #[t,t] ty #[v,.slice (some ad) 1 c]).run P w=.ok (.slice (some ⟨g,off,none⟩) (n+1) cap) w'∧J3 e k w' (.slice (some ⟨g,off,none⟩) (n+1) cap) (n+1) (C++news)∧Fr v.ownBlock.toList w w'∧
  (v.ownBlock=some g∨g=w.heap.size)∧g<w'.heap.size:=by
 have hC:=hv.1
 have hb2:∀m:Nat,m≤100001→m*i.bytes≤140737488355328:=fun m hm=>by
  have:=Nat.mul_le_mul hm hby;omega
 have grown:∀(old:Nat),J3 e k (w.drew.alloc (.cells ((C.toArray++news.toArray)++Builtin.zeroCells z.cells (grownCap w (n+1) old e - (n+1))) e))
  (.slice (some ⟨w.heap.size,0,none⟩) (n+1) (grownCap w (n+1) old e)) (n+1) (C++news):=by
  intro old
  have hge:=grownCap_ge w (n+1) old e
  have hcm:grownCap w (n+1) old e≤maxLen:=grownCap_le_maxLen w (n+1) old e (by unfold maxLen;omega)
  refine ⟨by rw [List.length_append,hC,hl,Nat.add_mul,Nat.one_mul],.inr ⟨w.heap.size,0,_,_,rfl,heap_alloc_new w.drew _,hge,hcm, ?_,fun j u hj=> ?_⟩⟩
  · simp only [Array.size_append,List.size_toArray,hC,hl,size_zeroCells,hzs]
    rw [Nat.zero_add,←Nat.one_mul k,←Nat.mul_assoc,Nat.mul_one,Nat.one_mul,←Nat.add_one_mul,←Nat.add_mul]
    exact Nat.mul_le_mul_right k Lb
  · rw [Nat.zero_add,←Array.getElem?_toList]
    simp only [Array.toList_append]
    rw [List.getElem?_append_left (by have:=(List.getElem?_eq_some_iff.1 hj).1;simpa using this)]
    exact hj
 have fgrown:∀o S,Fr S w (w.drew.alloc o):=fun o S=>((Fr.refl S w).drew).alloc o
 rcases hv.2 with ⟨rfl,rfl⟩|⟨g,off,cap,cur,rfl,hg,h2,h3,h4,h5⟩
 · have hC0:C=[]:=List.eq_nil_of_length_eq_zero (by rw [hC,Nat.zero_mul])
   subst hC0
   have hr:=run_append_nil (P:=P) w t ty e i z ht hi hz ad 1 c news (by rw [hl,hk,Nat.one_mul]) hnews Lb Lb (by have:=hb2 1 Lb;omega)
   have hgr:=grown 0
   simp only [Nat.zero_add,List.nil_append,Array.empty_append] at hgr
   exact ⟨_,_,_,_,hr,hgr,fgrown _ _,.inr rfl,Lc⟩
 · by_cases hroom:n+1≤cap
   · have hr:=Wj (P:=P) w t ty e i ht hi k hk g off n cap cur hg ad c news hl hnews h1 hroom h4
     have hmul:n*k+k≤cap*k:=by
      have:=Nat.mul_le_mul_right k hroom
      rwa [Nat.add_mul,Nat.one_mul] at this
     have hlt:off+n*k+k≤cur.size:=Lb
     have e0:(cur.toList.take (off+n*k)).length=off+n*k:=by rw [List.length_take,Array.length_toList];omega
     refine ⟨g,off,cap,_,hr,⟨by rw [List.length_append,hC,hl,Nat.add_mul,Nat.one_mul],.inr ⟨g,off,cap,_,rfl,setRow_heap w g cur _ e _ hg,hroom,h3, ?_,fun j u hj=> ?_⟩⟩, ?_,.inl rfl, ?_⟩
     · simp [hl];omega
     · rw [List.getElem?_toArray,List.append_assoc]
       rcases Nat.lt_or_ge j (n*k) with hjn|hjn
       · rw [List.getElem?_append_left Lb] at hj
         rw [List.getElem?_append_left Lb,List.getElem?_take,if_pos Lb,Array.getElem?_toList]
         exact h5 j u hj
       · rw [List.getElem?_append_right Lb,hC] at hj
         have hj2:=(List.getElem?_eq_some_iff.1 hj).1
         rw [List.getElem?_append_right Lb,e0,List.getElem?_append_left Lb,show off+j - (off+n*k)=j - n*k by omega]
         exact hj
     · exact ((Fr.refl _ w).setRow' (by simp [Value.ownBlock]) _)
     · rw [setRow_size];exact Q9 hg
   · have hr:=run_append_grow (P:=P) w t ty e i z ht hi hz ⟨g,off,none⟩ n cap C (by rw [hC,hk]) (fun j u hu=>by rw [Addr.add_lit];exact cell_of hg (h5 j u hu)) ad 1 c news (by rw [hl,hk,Nat.one_mul]) hnews Lb Lb (growslice_fits Lb (hb2 _ Lb))
     exact ⟨_,_,_,_,hr,grown cap,fgrown _ _,.inr rfl,Lc⟩
end
section
open Go.RowKit Go.Shelf Go.Lib
attribute [local go_sem] Oper.semAt_some
def Y6 (w:World) (p:Nat) (now:Int):Prop:=w.heap[p]?=some (.cells #[.int .i64 now] 103 (0,0))
theorem Y6.fr {w w':World} {p:Nat} {now:Int} (h:Y6 w p now) {S:List Nat} (f:Fr S w w') (hp:p∉S):Y6 w' p now:=f.at h hp
def Gs (now n:Int):Int:=now+min (max n 0) (1099511627776 - now)
theorem Q5n (w:World) (p:Nat) (now n:Int) (h:Y6 w p now) (h0:0≤now) (h1:now≤1099511627776):
 Calls Tryz.prog 27 #[.pointer (some ⟨p,0,none⟩),.int .i64 n] w fun e w'=>e=.returned (.int .i64 (Gs now n))∧Y6 w' p (Gs now n)∧Fr [p] w w':=by
 unfold Y6 at h
 have q0:=cl 0 h
 have u0:=Qb (i:=0) h
 go_in
 go_wp2_with fail
 go_region
 rw [show (now+if 1099511627776 - now<if n<0 then 0 else n then 1099511627776 - now else if n<0 then 0 else n)=Gs now n by unfold Gs;rw [Int.max_def,Int.min_def];split<;>split<;>split<;>split<;>omega]
 have hb:=Q3B (heap_setCell_same (i:=0) h (.int .i64 (Gs now n)))
 simp only [List.setIfInBounds_toArray,List.set_cons_zero] at hb
 have hf:=((Fr.refl [p] w).sc p 0 (.int .i64 (Gs now n))).drew
 generalize (w.setCell ⟨p,0,none⟩ (.int .i64 (Gs now n))).drew=w1 at hb hf ⊢
 have r0:=cl 0 hb
 clear q0 u0 h
 go_wp2
 all_goals go_ret
 all_goals exact ⟨rfl,hb,hf⟩
theorem Q2X (w:World) (m now:Int):Calls Tryz.prog 72 #[.int .i64 m,.int .i64 now] w fun e w'=>e=.returned (.bool (decide (m≤now)))∧Fr [] w w':=by
 go_in
 go_wp2
 go_ret
 exact ⟨Lc,Fr.refl _ _⟩
theorem Q5r (w:World) (p:Nat) (now dl:Int) (h:Y6 w p now):
 Calls Tryz.prog 54 #[.pointer (some ⟨p,0,none⟩),.int .i64 dl] w fun e w'=>e=.returned (.bool (decide (dl≤now)))∧Fr [] w w':=by
 unfold Y6 at h
 have q0:=cl 0 h
 have HP:=hid fun (w':World)=>Q2X w' dl now
 go_in
 go_wp2_with fail
 refine (HP.out w).mono ?_
 rintro e w1 ⟨rfl,f⟩
 go_wp2
 go_ret
 exact ⟨rfl,f⟩
theorem Q7l (w:World):Calls Tryz.prog 33 #[] w fun e w'=>∃p,e=.returned (.pointer (some ⟨p,0,none⟩))∧w.heap.size≤p∧p<w'.heap.size∧Y6 w' p 0∧Fr [] w w':=by
 have hb:=heap_alloc_new w (.cells #[.int .i64 0] 103 (0,0))
 have HX:=hid (show Y6 _ w.heap.size 0∧Fr [] w _∧w.heap.size<_ from ⟨hb,(Fr.refl [] w).alloc (.cells #[.int .i64 0] 103 (0,0)),Q9 hb⟩)
 clear hb
 go_in
 go_wp2
 go_ret
 exact ⟨_,rfl,Nat.le_refl _,HX.out.2.2,HX.out.1,HX.out.2.1⟩
def RingAt (w:World) (p:Nat) (v:Value) (L:List Bool):Prop:=w.heap[p]?=some (.cells #[v,.int .i64 1000] 119 (0,0))∧J3 4 1 w v L.length (L.map .bool)
theorem RingAt.ov {w w':World} {p:Nat} {v:Value} {L:List Bool} (h:RingAt w p v L) {S:List Nat} (f:Fr S w w') (hp:p∉S) (hv:∀b,v.ownBlock=some b→b∉S):RingAt w' p v L:=by
 obtain ⟨h1,h2⟩:=h
 exact ⟨f.at h1 hp,h2.fr f hv⟩
def Q1D (w:World) (p:Nat) (v:Value) (L:List Bool) (x:Bool) (e:Ending) (w':World):Prop:=
 ∃v',e=.returned (.bool (decide (L.length<1000)))∧RingAt w' p v' (if L.length<1000 then L++[x] else L)∧Fr (p::v.ownBlock.toList) w w'∧(∀b,v'.ownBlock=some b→v.ownBlock=some b∨w.heap.size≤b)
theorem Q5x:(Tryz.prog.info? 4).map (fun i=>(i.zero,i.size,i.bytes))=some (some (.bool false),1,1):=by kernel_rfl
theorem wpList_append_run {P:Program} (w:World) {ops:Array Oper} {rest:List Oper} {o:Oper} {a:Act} {Q:Exit→Act→World→Prop} (hgd:o.guard=none) (d x:Operand) (dT sT:TypeId)
 (ho:o.op=Op.call {callee:=Callee.builtin Builtin.append,args:=#[d,x],argTypes:=#[dT,sT]}) (v u:Value) (hd:a.eval d=v) (hx:a.eval x=u) {v':Value} {w':World}
 (hr:(Builtin.append_ #[dT,sT] o.type #[v,u]).run P w=.ok v' w') (h:wpList P ops Q rest (a.put o.dst v') w'):wpList P ops Q (o::rest) a w:=
 wpList_plain hgd fun _ hK=>by
  unfold Oper.wp execOp
  simp only [ho,resolve,invoke,builtin,Sem.run_bind,Sem.run_pure,Result.andThen_ok,List.map_toArray,List.map_cons,List.map_nil,hd,hx,hr]
  exact hK _ _ h
theorem Q4j (w:World) (p:Nat) (v:Value) (L:List Bool) (x:Bool) (h:RingAt w p v L) (hp:∀b,v.ownBlock=some b→b≠p) (hL:L.length≤1000):
 Calls Tryz.prog 41 #[.pointer (some ⟨p,0,none⟩),.bool x] w (Q1D w p v L x):=by
 obtain ⟨hb,hr⟩:=h
 obtain ⟨a,cap,rfl⟩:=hr.form
 obtain ⟨n,hn⟩:∃n,L.length=n:=⟨_,rfl⟩
 rw [hn] at hb hr hp hL
 have q0:=cl 0 hb
 have q1:=cl 1 hb
 have u0:=Qb (i:=0) hb
 have HN:=hid hn
 clear hn
 unfold Q1D
 rw [HN.out]
 go_in
 go_wp2_with fail
 go_region
 by_cases hfull:n<1000
 · rw [show decide ((1000:Int)≤(n:Int))=false by simp;omega]
   obtain ⟨i0,hi,hz0,hz1,hz2⟩:=info_parts Q5x
   have hW:Fr [] w (w.alloc (.cells #[.bool x] 4)).drew:=((Fr.refl [] w).alloc _).drew
   obtain ⟨g,off,cap2,w2,hrun,hr2,f2,hg,hlt⟩:=Yq (P:=Tryz.prog) (w.alloc (.cells #[.bool x] 4)).drew 59 59 4 i0 (.bool false) 1 Tryz.underlying59 hi hz0 hz1 Lb rfl _ n _ (hr.fr hW Lc) ⟨w.heap.size,0,none⟩ 1 [.bool x] rfl (fun j u hj=>by
    cases j with
    |zero=>simp at hj;subst hj;exact cell_of (heap_alloc_new w (.cells #[.bool x] 4 (0,0))) rfl
    |succ j=>simp at hj) (by simp [Value.oneCell']) Lb
   have hF:=(hW.mono (S':=p::(Value.slice a n cap).ownBlock.toList) Lc).trans (f2.mono (fun b hb=>List.mem_cons_of_mem _ hb))
   have hb2:w2.heap[p]?=some (.cells #[.slice a n cap,.int .i64 1000] 119 (0,0)):=f2.at (hW.at hb Lc) (fun hm=>hp p (by simpa using hm) rfl)
   have hgp:g≠p:=by
    rcases hg with hg|hg
    · exact hp g hg
    · have:=Q9 hb;simp at hg;omega
   have hgs:(Value.slice a n cap).ownBlock=some g∨w.heap.size≤g:=hg.imp id (fun h=>by simp at h;omega)
   have r0:=cl 0 hb2
   have v0:=Qb (i:=0) hb2
   have HR:=hid hr2;have HF:=hid hF;have HG:=hid hgs
   clear hr2 hF hg hgs hr hb q1 hW f2 hp
   go_wp2_with (first|(at_builtin;refine wpList_append_run _ rfl _ _ _ _ rfl _ _ rfl rfl hrun ?_))
   have hb3:=heap_setCell_same (i:=0) hb2 (.slice (some ⟨g,off,none⟩) (n+1) cap2)
   simp only [List.setIfInBounds_toArray,List.set_cons_zero] at hb3
   have HR3:=hid (HR.out.fr ((Fr.refl [p] w2).sc p 0 (.slice (some ⟨g,off,none⟩) (n+1) cap2)) (fun b hb=>by cases hb;simpa using hgp))
   have HF3:=hid (HF.out.sc p 0 (.slice (some ⟨g,off,none⟩) (n+1) cap2))
   go_ret
   exact ⟨rfl,_,⟨hb3,by rw [List.length_append,HN.out,List.map_append];exact HR3.out⟩,HF3.out,fun b hb=>by cases hb;exact HG.out⟩
 · rw [show decide ((1000:Int)≤(n:Int))=true by simp;omega]
   go_wp2
   go_ret
   exact ⟨rfl,_,⟨hb,by rw [HN.out];exact hr⟩,(Fr.refl _ w).drew,fun b hb=>.inl hb⟩
def Q03 (w:World) (p:Nat) (v:Value) (L:List Bool) (e:Ending) (w':World):Prop:=
 ∃v',e=.returned (.tuple #[.bool (L.headD false),.bool (decide (L≠[]))])∧RingAt w' p v' L.tail∧Fr (p::v.ownBlock.toList) w w'∧(∀b,v'.ownBlock=some b→v.ownBlock=some b)
theorem Q6b (w:World) (p:Nat) (v:Value) (h:RingAt w p v []):Calls Tryz.prog 175 #[.pointer (some ⟨p,0,none⟩)] w (Q03 w p v []):=by
 obtain ⟨hb,hr⟩:=h
 obtain ⟨a,cap,rfl⟩:=hr.form
 rw [List.length_nil] at hb hr
 have q0:=cl 0 hb
 have HX:=hid (show RingAt w p (.slice a 0 cap) [] from ⟨hb,hr⟩)
 clear hb hr
 go_in
 go_wp2
 go_ret2
 exact ⟨_,rfl,HX.out,Fr.refl _ w,fun b hb=>hb⟩
theorem Q4k (w:World) (p:Nat) (v:Value) (x:Bool) (t:List Bool) (h:RingAt w p v (x::t)) (hp:∀b,v.ownBlock=some b→b≠p):Calls Tryz.prog 175 #[.pointer (some ⟨p,0,none⟩)] w (Q03 w p v (x::t)):=by
 obtain ⟨hb,hr⟩:=h
 rcases hr.2 with ⟨_,h0⟩|⟨g,off,cap,cur,rfl,hg,h1,h2,h3,h4⟩
 · simp at h0
 obtain ⟨n,hn⟩:∃n,t.length=n:=⟨_,rfl⟩
 rw [List.length_cons,hn] at hb hr h1
 have hgp:=hp g rfl
 have q0:=cl 0 hb
 have u0:=Qb (i:=0) hb
 have e0:w.cell? ⟨g,off,none⟩=some (.bool x):=by have:=hr.cell (j:=0) (u:=.bool x) rfl;simpa using this
 have ue:=Qb (i:=off) hg
 have HN:=hid hn
 have HGP:=hid hgp;have HB:=hid hb;have HR:=hid hr
 clear hr hn hb hp
 have hcap:¬cap=0:=Lb
 have hpos:¬n+1=0:=Lb
 have hpg:¬p=g:=fun e=>hgp e.symm
 have hgp':¬g=p:=hgp
 have hq:∀j u,(t.map Value.bool)[j]?=some u→(cur.setIfInBounds off (.bool false))[off+1+j]?=some u:=fun j u hj=>by
  rw [Array.getElem?_setIfInBounds_ne Lb,show off+1+j=off+(j+1) by omega]
  exact h4 (j+1) u (by simpa using hj)
 have HQ:=hid hq
 clear hq h4
 rcases Nat.eq_zero_or_pos n with h0|h0
 · subst h0
   have ht:t=[]:=List.eq_nil_of_length_eq_zero HN.out
   subst ht
   go_in
   go_wp2_with fail
   all_goals go_ret2
   all_goals exact ⟨.slice none 0 0,rfl,⟨heap_setCell_same (i:=0) (heap_setCell_same (i:=0) (Xy (a:=⟨g,off,none⟩) HB.out HGP.out.symm (.bool false)) _) (.slice none 0 0),J3.nil _ _ _⟩,(((Fr.refl _ w).setCell (p:=⟨g,off,none⟩) (.inl (by simp [Value.ownBlock])) _).setCell (p:=⟨p,0,none⟩) (.inl Lc) _).setCell (p:=⟨p,0,none⟩) (.inl Lc) _,fun b hb=>by cases hb⟩
 · have hc1:¬cap=1:=Lb
   have hn0:¬n=0:=Lb
   have hn1:((n:Int)==0)=false:=by simp;omega
   go_in
   go_wp2_with fail
   go_ret2
   refine ⟨_,rfl,⟨heap_setCell_same (i:=0) (Xy (a:=⟨g,off,none⟩) HB.out HGP.out.symm (.bool false)) _,Lc,.inr ⟨g,off+1,cap - 1,cur.setIfInBounds off (.bool false),by rw [List.tail_cons,HN.out],Xy (a:=⟨p,0,none⟩) (heap_setCell_same (i:=off) hg (.bool false)) HGP.out _,by rw [List.tail_cons,HN.out];omega,Lb,by simp;omega,HQ.out⟩⟩,((Fr.refl _ w).setCell (p:=⟨g,off,none⟩) (.inl (by simp [Value.ownBlock])) _).setCell (p:=⟨p,0,none⟩) (.inl Lc) _,fun b hb=>hb⟩
structure Ze (w:World) (pw pr:Nat) (v:Value) (L:List Bool) (good bad:Int):Prop where
 b:w.heap[pw]?=some (.cells #[.pointer (some ⟨pr,0,none⟩),.int .i64 good,.int .i64 bad] 106 (0,0))
 r:RingAt w pr v L
 n:pw≠pr
 o:∀b,v.ownBlock=some b→b≠pr∧b≠pw
theorem Ze.ov {w w':World} {pw pr:Nat} {v:Value} {L:List Bool} {good bad:Int} (h:Ze w pw pr v L good bad) {S:List Nat} (f:Fr S w w') (h1:pw∉S) (h2:pr∉S) (h3:∀b,v.ownBlock=some b→b∉S):Ze w' pw pr v L good bad:=by
 obtain ⟨a,b,c,d⟩:=h
 exact ⟨f.at a h1,b.ov f h2 h3,c,d⟩
def Q7K (w:World) (pw pr:Nat) (v:Value) (L:List Bool) (good bad:Int) (x:Bool) (e:Ending) (w':World):Prop:=
 ∃v',e=.returned (.bool (decide (L.length<1000)))∧Ze w' pw pr v' (if L.length<1000 then L++[x] else L) good bad∧Fr (pr::v.ownBlock.toList) w w'∧(∀b,v'.ownBlock=some b→v.ownBlock=some b∨w.heap.size≤b)
theorem Q3V (w:World) (pw pr:Nat) (v:Value) (L:List Bool) (good bad:Int) (x:Bool) (h:Ze w pw pr v L good bad) (hL:L.length≤1000):
 Calls Tryz.prog 28 #[.pointer (some ⟨pw,0,none⟩),.bool x] w (Q7K w pw pr v L good bad x):=by
 have q0:=cl 0 h.b
 have HC:=hid (Q4j w pr v L x h.r (fun b hb=>(h.o b hb).1) hL)
 have H:=hid h
 clear h
 go_in
 go_wp2_with fail
 refine HC.out.mono ?_
 rintro e w1 ⟨v',rfl,hr,f,hb⟩
 have hpw:=Q9 H.out.b;have hpr:=Q9 H.out.r.1
 have h1:=f.at H.out.b (by
  intro hm
  rcases List.mem_cons.1 hm with h|h
  · exact H.out.n h
  · exact (H.out.o pw (by simpa using h)).2 rfl)
 have HX:=hid (show Ze w1 pw pr v' (if L.length<1000 then L++[x] else L) good bad from ⟨h1,hr,H.out.n,fun b hv=>by
  rcases hb b hv with h|h
  · exact H.out.o b h
  · exact ⟨Lb,Lb⟩⟩)
 have HF:=hid f;have HB:=hid hb
 clear f hb hr h1 q0
 go_wp2
 go_ret
 exact ⟨v',rfl,HX.out,HF.out,HB.out⟩
def Q5D (w:World) (pw pr:Nat) (v:Value) (L:List Bool) (good bad:Int) (e:Ending) (w':World):Prop:=
 ∃v',e=.returned (.bool (L.headD true))∧Ze w' pw pr v' L.tail (if L.headD true=true then good+1 else good) (if L.headD true=true then bad else bad+1)∧Fr (pw::pr::v.ownBlock.toList) w w'∧(∀b,v'.ownBlock=some b→v.ownBlock=some b)
theorem Q6c (w:World) (p:Nat) (v:Value) (L:List Bool) (h:RingAt w p v L) (hp:∀b,v.ownBlock=some b→b≠p):Calls Tryz.prog 175 #[.pointer (some ⟨p,0,none⟩)] w (Q03 w p v L):=by
 cases L with
 |nil=>exact Q6b w p v h
 |cons x t=>exact Q4k w p v x t h hp
theorem Q3U (w:World) (pw pr:Nat) (v:Value) (L:List Bool) (good bad:Int) (h:Ze w pw pr v L good bad) (g0:0≤good) (g1:good≤1000000000) (b0:0≤bad) (b1:bad≤1000000000):
 Calls Tryz.prog 115 #[.pointer (some ⟨pw,0,none⟩)] w (Q5D w pw pr v L good bad):=by
 have q0:=cl 0 h.b
 have HC:=hid (Q6c w pr v L h.r (fun b hb=>(h.o b hb).1))
 have H:=hid h
 clear h
 go_in
 go_wp2_with fail
 refine HC.out.mono ?_
 rintro e w1 ⟨v',rfl,hr,f,hb⟩
 have h1:=f.at H.out.b (by
  intro hm
  rcases List.mem_cons.1 hm with h|h
  · exact H.out.n h
  · exact (H.out.o pw (by simpa using h)).2 rfl)
 have ho:∀b,v'.ownBlock=some b→b≠pr∧b≠pw:=fun b hv=>H.out.o b (hb b hv)
 have HX:∀(g' b':Int) (w2:World),w2.heap[pw]?=some (.cells #[.pointer (some ⟨pr,0,none⟩),.int .i64 g',.int .i64 b'] 106 (0,0))→Fr [pw] w1 w2→Ze w2 pw pr v' L.tail g' b'∧Fr (pw::pr::v.ownBlock.toList) w w2∧(∀b,v'.ownBlock=some b→v.ownBlock=some b):=fun g' b' w2 hw2 f2=>
  ⟨⟨hw2,hr.ov f2 (by simpa using H.out.n.symm) (fun b hv=>by simpa using (ho b hv).2),H.out.n,ho⟩,(f.mono (fun k hk=>List.mem_cons_of_mem _ hk)).trans (f2.mono (fun k hk=>by simp at hk;simp [hk])),hb⟩
 have HX':=hid HX
 have H1:=hid h1
 have q1:=cl 1 h1;have q2:=cl 2 h1;have u1:=Qb (i:=1) h1;have u2:=Qb (i:=2) h1
 clear hr f hb h1 ho HX H HC
 have hg:Fr [pw] w1 (w1.setCell ⟨pw,1,none⟩ (.int .i64 (good+1))):=(Fr.refl [pw] w1).sc pw 1 _
 have hbd:Fr [pw] w1 (w1.setCell ⟨pw,2,none⟩ (.int .i64 (bad+1))):=(Fr.refl [pw] w1).sc pw 2 _
 have k1:=heap_setCell_same (i:=1) H1.out (.int .i64 (good+1))
 have k2:=heap_setCell_same (i:=2) H1.out (.int .i64 (bad+1))
 simp only [List.setIfInBounds_toArray,List.set_cons_zero,List.set_cons_succ] at k1 k2
 have HG:=hid (HX'.out _ _ _ k1 hg);have HB:=hid (HX'.out _ _ _ k2 hbd)
 clear k1 k2 hg hbd H1 HX'
 rcases L with _|⟨x,t⟩
 · simp only [List.headD_nil,ne_eq,not_true_eq_false,decide_false]
   go_wp2
   go_ret
   exact ⟨v',rfl,HG.out⟩
 · simp only [List.headD_cons,ne_eq,reduceCtorEq,not_false_eq_true,decide_true]
   cases x
   · go_wp2
     go_ret
     exact ⟨v',rfl,HB.out⟩
   · go_wp2
     go_ret
     exact ⟨v',rfl,HG.out⟩
theorem Q5N (w:World):Calls Tryz.prog 34 #[] w fun e w'=>∃pw pr,e=.returned (.pointer (some ⟨pw,0,none⟩))∧w.heap.size≤pw∧w.heap.size≤pr∧Ze w' pw pr (.slice none 0 0) [] 0 0∧Fr [] w w':=by
 have HR:∀w:World,Calls Tryz.prog 50 #[.int .i64 1000] w fun e w'=>∃p,e=.returned (.pointer (some ⟨p,0,none⟩))∧w.heap.size≤p∧w'.heap[p]?=some (.cells #[.slice none 0 0,.int .i64 1000] 119 (0,0))∧Fr [] w w':=by
  intro w
  have hb:=heap_alloc_new w (.cells #[.slice none 0 0,.int .i64 1000] 119 (0,0))
  have HX:=hid (And.intro hb ((Fr.refl [] w).alloc (.cells #[.slice none 0 0,.int .i64 1000] 119 (0,0))))
  clear hb
  go_in
  go_wp2
  go_ret
  exact ⟨_,rfl,Nat.le_refl _,HX.out⟩
 have HR':=hid HR
 clear HR
 go_in
 go_wp2_with fail
 refine (HR'.out w).mono ?_
 rintro e w1 ⟨p,rfl,hp,hb,f⟩
 have h1:=heap_alloc_new w1 (.cells #[.pointer (some ⟨p,0,none⟩),.int .i64 0,.int .i64 0] 106 (0,0))
 have h2:=Qh hb (.cells #[.pointer (some ⟨p,0,none⟩),.int .i64 0,.int .i64 0] 106 (0,0))
 have hl:=Q9 hb
 have HX:=hid (show Ze _ w1.heap.size p (.slice none 0 0) [] 0 0∧Fr [] w _ from ⟨⟨h1,⟨h2,J3.nil _ _ _⟩,Lb,fun b hb=>by cases hb⟩,f.alloc (.cells #[.pointer (some ⟨p,0,none⟩),.int .i64 0,.int .i64 0] 106 (0,0))⟩)
 have HS:=hid f.size
 clear h1 h2 hb f
 go_wp2
 go_ret
 exact ⟨_,p,rfl,HS.out,hp,HX.out⟩
def RSt.fn:RSt→FuncId
 |.swap=>250
 |.look=>266
 |.age=>270
 |.QO=>271
 |.done=>265
def JK (w:World) (p:Nat) (r:J2):Prop:=
 w.heap[p]?=some (.cells #[.int .i64 r.cell,.int .i64 r.word,.int .i64 r.epoch,.func (.func r.st.fn) #[.pointer (some ⟨p,0,none⟩)] #[],.bool r.swapped,.bool r.done] 227 (0,0))
theorem JK.fr {w w':World} {p:Nat} {r:J2} (h:JK w p r) {S:List Nat} (f:Fr S w w') (hp:p∉S):JK w' p r:=f.at h hp
theorem XK {s:Q7} (h:s.right) (d:Nat) (own more:Int):J6 s.enc d own more=(Qk s d own more).map fun t=>(t,t.enc):=by
 unfold J6;rw [QF h];rfl
def Y5 (w:World) (p pm qm:Nat) (n:Int) (x:J2×List Int) (e:Ending) (w':World):Prop:=
 e=.returned (.bool x.1.done)∧JK w' p x.1∧Qm w' pm qm x.2 (n+1)∧Fr [p,pm,qm] w w'
theorem KS (w:World) (p pm:Nat) (r:J2) (h:JK w p r):Calls Tryz.prog 265 #[.pointer (some ⟨p,0,none⟩),.pointer (some ⟨pm,0,none⟩)] w fun e w'=>e=.returned (.bool true)∧JK w' p r.fin∧Fr [p] w w':=by
 obtain ⟨cell,word,epoch,st,swapped,done⟩:=r
 unfold JK at h
 dsimp only at h
 have q3:=cell_of (i:=3) h rfl;have q5:=cell_of (i:=5) h rfl
 have u3:=Qb (i:=3) h;have u5:=Qb (i:=5) h
 have hb:=heap_setCell_same (i:=3) (heap_setCell_same (i:=5) h (.bool true)) (.func (.func 265) #[.pointer (some ⟨p,0,none⟩)] #[])
 simp only [List.setIfInBounds_toArray,List.set_cons_zero,List.set_cons_succ] at hb
 have HB:=hid (show JK _ p (J2.fin ⟨cell,word,epoch,st,swapped,done⟩) from hb)
 have HF:=hid (((Fr.refl [p] w).sc p 5 (.bool true)).setCell (p:=⟨p,3,none⟩) (.inl Lc) (.func (.func 265) #[.pointer (some ⟨p,0,none⟩)] #[]))
 clear hb h
 go_in
 go_wp2
 go_ret
 exact ⟨rfl,HB.out,HF.out⟩
theorem Q4m (w:World) (p pm qm:Nat) (r:J2) (M:List Int) (n:Int) (hst:r.st=.look) (hd:r.done=false) (h:JK w p r) (hM:Qm w pm qm M n) (hn:n≤1000000000) (hp:p≠pm∧p≠qm):
 Calls Tryz.prog 266 #[.pointer (some ⟨p,0,none⟩),.pointer (some ⟨pm,0,none⟩)] w (Y5 w p pm qm n (Qn r M)):=by
 obtain ⟨cell,word,epoch,st,swapped,done⟩:=r
 dsimp only at hst hd
 subst hst hd
 have HP:=hid hp
 have HL:=hid (Za w pm qm M n 2 hM hn)
 have HA:=hid h
 unfold Qn
 dsimp only
 generalize Q6 M 2=x at HL ⊢
 clear h hM
 go_in
 go_wp2_with fail
 refine HL.out.mono ?_
 rintro e w1 ⟨rfl,hm1,f1⟩
 have h1:=f1.at HA.out (by simp;exact HP.out)
 have q2:=cell_of (i:=2) h1 rfl;have q3:=cell_of (i:=3) h1 rfl
 have u2:=Qb (i:=2) h1;have u3:=Qb (i:=3) h1
 have hb:=heap_setCell_same (i:=3) (heap_setCell_same (i:=2) h1 (.int .i64 x)) (.func (.func 270) #[.pointer (some ⟨p,0,none⟩)] #[])
 simp only [List.setIfInBounds_toArray,List.set_cons_zero,List.set_cons_succ] at hb
 have fs:=((Fr.refl [p] w1).sc p 2 (.int .i64 x)).setCell (p:=⟨p,3,none⟩) (.inl Lc) (.func (.func 270) #[.pointer (some ⟨p,0,none⟩)] #[])
 have HR:=hid (show Y5 w p pm qm n (⟨cell,word,x,.age,swapped,false⟩,M) (.returned (.bool false)) _ from ⟨rfl,hb,hm1.fr fs (by simp;exact Ne.symm HP.out.1) (by simp;exact Ne.symm HP.out.2),(f1.mono (S':=[p,pm,qm]) (by simp+contextual)).trans (fs.mono Lc)⟩)
 clear hb fs h1 hm1 f1
 go_wp2
 go_ret
 exact HR.out
theorem Q4n (w:World) (p pm qm:Nat) (r:J2) (M:List Int) (n:Int) (hst:r.st=.QO) (h:JK w p r) (hM:Qm w pm qm M n) (hn:n≤1000000000) (hp:p≠pm∧p≠qm):
 Calls Tryz.prog 271 #[.pointer (some ⟨p,0,none⟩),.pointer (some ⟨pm,0,none⟩)] w (Y5 w p pm qm n (Qn r M)):=by
 have HP:=hid hp
 have HL:=hid (addN w pm qm M n 2 1 hM hn)
 have HA:=hid h
 have e:Qn r M=(r.fin,VU M 2 1):=by unfold Qn;rw [hst]
 rw [e]
 clear h hM e
 go_in
 go_wp2_with fail
 refine HL.out.mono ?_
 rintro e w1 ⟨rfl,hm1,f1⟩
 have HE:=hid (KS w1 p pm r (HA.out.fr f1 (by simp;exact HP.out)))
 have HM1:=hid hm1;have F1:=hid f1
 clear hm1 f1
 go_wp2_with fail
 refine HE.out.mono ?_
 rintro e w2 ⟨rfl,hr2,f2⟩
 have HR:=hid (show Y5 w p pm qm n (r.fin,VU M 2 1) (.returned (.bool true)) w2 from ⟨rfl,hr2,HM1.out.fr f2 (by simp;exact Ne.symm HP.out.1) (by simp;exact Ne.symm HP.out.2),(F1.out.mono (S':=[p,pm,qm]) (by simp+contextual)).trans (f2.mono Lc)⟩)
 clear hr2 f2
 go_wp2
 go_ret
 exact HR.out
theorem Q4i (w:World) (p pm qm:Nat) (r:J2) (s:Q7) (M:List Int) (n:Int) (hs:s.right) (hw:r.word=s.enc) (hst:r.st=.swap) (hd:r.done=false) (h:JK w p r) (hM:Qm w pm qm M n) (hn:n≤1000000000) (hp:p≠pm∧p≠qm) (hG:Qe w 0 Qc):
 Calls Tryz.prog 250 #[.pointer (some ⟨p,0,none⟩),.pointer (some ⟨pm,0,none⟩)] w (Y5 w p pm qm n (Qn r M)):=by
 have e:Qn r M=match Qk s 11 0 4095 with
  |some t=>if Qx M r.cell r.word then ({r with word:=t.enc,swapped:=true,st:=.look},QI M r.cell r.word t.enc) else (r.fin,M)
  |none=>(r.fin,M):=by
  unfold Qn
  rw [hst,hw,XK hs]
  cases Qk s 11 0 4095<;>rfl
 rw [e]
 have HA:=hid (Ub w s 11 4095 hs Lb hG)
 rw [←hw,show ((11:Nat):Int)=11 from rfl] at HA
 clear hG hs hw e
 generalize Qk s 11 0 4095=co at HA ⊢
 have HP:=hid hp
 have HR0:=hid h
 have HM:=hid hM
 obtain ⟨cell,word,epoch,st,swapped,done⟩:=r
 dsimp only at hst hd
 subst hst hd
 unfold JK at h
 dsimp only [J2.fin] at h HA ⊢
 have q0:=cell_of (i:=0) h rfl;have q1:=cell_of (i:=1) h rfl
 clear h hM
 cases co with
 |none=>
  dsimp only [ET,Option.isSome] at HA ⊢
  go_in
  go_wp2_with fail
  refine HA.out.mono ?_
  rintro e w1 ⟨rfl,f1⟩
  have y0:=f1.cell q0 Lc;have y1:=f1.cell q1 Lc
  have F1:=hid f1
  clear f1 q0 q1
  go_wp2_with fail
  refine wp_region_held_drew (S:=fun w'=>w'.cell? ⟨p,0,none⟩=some (.int .i64 cell)∧w'.cell? ⟨p,1,none⟩=some (.int .i64 word)) (by kernel_rfl) ⟨y0,y1⟩ (fun hHeld=> ?_)
  refine tk 0 ?_
  refine tk 1 ?_
  refine tk 2 ?_
  refine tu 3 ?_
  refine tu 4 ?_
  refine tu 5 ?_
  refine tu 6 ?_
  refine tu 7 ?_
  refine tu 8 ?_
  refine tu 9 ?_
  refine tu 10 ?_
  refine tu 11 ?_
  refine tu 12 ?_
  refine tu 13 ?_
  refine tu 14 ?_
  refine tk 15 ?_
  refine wpAnyH_done (by kernel_rfl) ?_ _
  have f02:=F1.out.drew
  have HE:=hid (KS _ p pm _ (HR0.out.fr f02 Lc))
  have HM2:=hid (HM.out.fr f02 Lc Lc)
  have F2:=hid f02
  clear f02 hHeld y0 y1
  go_wp2_with fail
  refine HE.out.mono ?_
  rintro e w3 ⟨rfl,hr3,f3⟩
  have HX:=hid (show Y5 w p pm qm n (_,M) (.returned (.bool true)) w3 from ⟨rfl,hr3,(HM2.out.fr f3 (by simp;exact Ne.symm HP.out.1) (by simp;exact Ne.symm HP.out.2)).mono Lb,(F2.out.mono (S':=[p,pm,qm]) Lc).trans (f3.mono Lc)⟩)
  clear hr3 f3
  go_wp2
  go_ret
  exact HX.out
 |some t=>
  dsimp only [ET,Option.isSome] at HA ⊢
  generalize t.enc=te at HA ⊢
  obtain ⟨cb,hcb⟩:∃cb,Qx M cell word=cb:=⟨_,rfl⟩
  rw [hcb]
  have HCB:=hid hcb
  clear hcb
  cases cb
  · rw [if_neg Lc]
    go_in
    go_wp2_with fail
    refine HA.out.mono ?_
    rintro e w1 ⟨rfl,f1⟩
    have y0:=f1.cell q0 Lc;have y1:=f1.cell q1 Lc
    have F1:=hid f1
    have HC:=hid (Uw w1.drew pm qm M n cell word te (HM.out.fr f1.drew Lc Lc) hn)
    rw [HCB.out,K8 HCB.out] at HC
    clear f1 q0 q1
    go_wp2_with fail
    refine wp_region_held_drew (S:=fun w'=>w'.cell? ⟨p,0,none⟩=some (.int .i64 cell)∧w'.cell? ⟨p,1,none⟩=some (.int .i64 word)) (by kernel_rfl) ⟨y0,y1⟩ (fun hHeld=> ?_)
    refine tk 0 ?_
    refine tk 1 ?_
    refine tk 2 ?_
    refine tk 3 ?_
    refine tk 4 ?_
    refine tk 5 ?_
    refine tk 6 ?_
    refine tk 7 ?_
    refine tk 8 ?_
    refine tk 9 ?_
    refine tk 10 ?_
    refine tk 11 ?_
    refine tk 12 ?_
    refine tc 13 (fun K hK=> ?_)
    go_simp
    refine (HC.out).mono ?_
    rintro e w4 ⟨rfl,hm4,f4⟩
    go_wp2_with fail
    refine hK.out _ _ ⟨f4.cell hHeld.1 (by simp;exact HP.out),f4.cell hHeld.2 (by simp;exact HP.out)⟩ (fun hHeld=> ?_)
    clear hK K
    try go_frame
    refine tk 14 ?_
    refine tk 15 ?_
    refine wpAnyH_done (by kernel_rfl) ?_ _
    have f04:=(F1.out.drew.mono (S':=[pm,qm]) Lc).trans f4
    have HE:=hid (KS _ p pm _ (HR0.out.fr f04 (by simp;exact HP.out)))
    have F4:=hid f04
    have HM4:=hid hm4
    clear f04 hm4 f4 hHeld y0 y1
    go_wp2_with fail
    refine HE.out.mono ?_
    rintro e w5 ⟨rfl,hr5,f5⟩
    have HX:=hid (show Y5 w p pm qm n (_,M) (.returned (.bool true)) w5 from ⟨rfl,hr5,HM4.out.fr f5 (by simp;exact Ne.symm HP.out.1) (by simp;exact Ne.symm HP.out.2),(F4.out.mono (S':=[p,pm,qm]) (by simp+contextual)).trans (f5.mono Lc)⟩)
    clear hr5 f5
    go_wp2
    go_ret
    exact HX.out
  · rw [if_pos rfl]
    go_in
    go_wp2_with fail
    refine HA.out.mono ?_
    rintro e w1 ⟨rfl,f1⟩
    have y0:=f1.cell q0 Lc;have y1:=f1.cell q1 Lc
    have F1:=hid f1
    have HC:=hid (Uw w1.drew pm qm M n cell word te (HM.out.fr f1.drew Lc Lc) hn)
    rw [HCB.out] at HC
    clear f1 q0 q1
    go_wp2_with fail
    refine wp_region_held_drew (S:=fun w'=>w'.cell? ⟨p,0,none⟩=some (.int .i64 cell)∧w'.cell? ⟨p,1,none⟩=some (.int .i64 word)) (by kernel_rfl) ⟨y0,y1⟩ (fun hHeld=> ?_)
    refine tk 0 ?_
    refine tk 1 ?_
    refine tk 2 ?_
    refine tk 3 ?_
    refine tk 4 ?_
    refine tk 5 ?_
    refine tk 6 ?_
    refine tk 7 ?_
    refine tk 8 ?_
    refine tk 9 ?_
    refine tk 10 ?_
    refine tk 11 ?_
    refine tk 12 ?_
    refine tc 13 (fun K hK=> ?_)
    go_simp
    refine (HC.out).mono ?_
    rintro e w4 ⟨rfl,hm4,f4⟩
    go_wp2_with fail
    refine hK.out _ _ ⟨f4.cell hHeld.1 (by simp;exact HP.out),f4.cell hHeld.2 (by simp;exact HP.out)⟩ (fun hHeld=> ?_)
    clear hK K
    try go_frame
    refine tk 14 ?_
    refine tk 15 ?_
    refine wpAnyH_done (by kernel_rfl) ?_ _
    have f04:=(F1.out.drew.mono (S':=[pm,qm]) Lc).trans f4
    have h4:=HR0.out.fr f04 (by simp;exact HP.out)
    unfold JK at h4
    dsimp only at h4
    have z1:=cell_of (i:=1) h4 rfl;have z3:=cell_of (i:=3) h4 rfl;have z4:=cell_of (i:=4) h4 rfl
    have u1:=Qb (i:=1) h4;have u3:=Qb (i:=3) h4;have u4:=Qb (i:=4) h4
    have hb:=heap_setCell_same (i:=3) (heap_setCell_same (i:=4) (heap_setCell_same (i:=1) h4 (.int .i64 te)) (.bool true)) (.func (.func 266) #[.pointer (some ⟨p,0,none⟩)] #[])
    simp only [List.setIfInBounds_toArray,List.set_cons_zero,List.set_cons_succ] at hb
    have fs:=(((Fr.refl [p] w4).sc p 1 (.int .i64 te)).sc p 4 (.bool true)).setCell (p:=⟨p,3,none⟩) (.inl Lc) (.func (.func 266) #[.pointer (some ⟨p,0,none⟩)] #[])
    have HX:=hid (show Y5 w p pm qm n (⟨cell,te,epoch,.look,true,false⟩,QI M cell word te) (.returned (.bool false)) _ from ⟨rfl,hb,hm4.fr fs (by simp;exact Ne.symm HP.out.1) (by simp;exact Ne.symm HP.out.2),(f04.mono (S':=[p,pm,qm]) (by simp+contextual)).trans (fs.mono Lc)⟩)
    clear hb fs h4 hm4 f4 f04 hHeld y0 y1
    go_wp2
    go_ret
    exact HX.out
theorem Q6i (w:World) (p pm qm:Nat) (r:J2) (s:Q7) (M:List Int) (n:Int) (hs:s.right) (hw:r.word=s.enc) (hst:r.st=.age) (hd:r.done=false) (h:JK w p r) (hM:Qm w pm qm M n) (hn:n≤1000000000) (hp:p≠pm∧p≠qm) (hG:Qe w 0 Qc):
 Calls Tryz.prog 270 #[.pointer (some ⟨p,0,none⟩),.pointer (some ⟨pm,0,none⟩)] w (Y5 w p pm qm n (Qn r M)):=by
 have e:Qn r M=({r with st:=.QO},match Qk s 17 0 r.epoch with
  |some t=>QI M r.cell r.word t.enc
  |none=>M):=by
  unfold Qn
  rw [hst]
  dsimp only
  rw [hw,XK hs]
  cases Qk s 17 0 r.epoch<;>rfl
 rw [e]
 have HA:=hid fun (w':World) (hg:Qe w' 0 Qc)=>Ub w' s 17 r.epoch hs Lb hg
 rw [←hw,show ((17:Nat):Int)=17 from rfl] at HA
 have HG:=hid hG
 clear hG hs hw e
 generalize Qk s 17 0 r.epoch=co at HA ⊢
 have HP:=hid hp
 have HR0:=hid h
 have HM:=hid hM
 obtain ⟨cell,word,epoch,st,swapped,done⟩:=r
 dsimp only at hst hd
 subst hst hd
 unfold JK at h
 dsimp only at h HA ⊢
 have y0:=cell_of (i:=0) h rfl;have y1:=cell_of (i:=1) h rfl;have y2:=cell_of (i:=2) h rfl
 clear h hM
 cases co with
 |none=>
  dsimp only [ET,Option.isSome] at HA ⊢
  go_in
  go_wp2_with fail
  refine wp_region_held_drew (S:=fun w'=>w'.cell? ⟨p,0,none⟩=some (.int .i64 cell)∧w'.cell? ⟨p,1,none⟩=some (.int .i64 word)∧w'.cell? ⟨p,2,none⟩=some (.int .i64 epoch)) (by kernel_rfl) ⟨y0,y1,y2⟩ (fun hHeld=> ?_)
  refine tk 0 ?_
  refine tk 1 ?_
  refine tk 2 ?_
  refine tk 3 ?_
  refine tk 4 ?_
  refine tk 5 ?_
  refine tk 6 ?_
  refine tk 7 ?_
  refine tc 8 (fun K hK=> ?_)
  go_simp
  refine (HA.out _ (HG.out.fr (Fr.refl [] w).drew Lc)).mono ?_
  rintro e w2 ⟨rfl,f2⟩
  go_wp2_with fail
  refine hK.out _ _ ⟨f2.cell hHeld.1 Lc,f2.cell hHeld.2.1 Lc,f2.cell hHeld.2.2 Lc⟩ (fun hHeld=> ?_)
  clear hK K
  try go_frame
  refine tk 9 ?_
  refine tk 10 ?_
  refine tk 11 ?_
  refine tk 12 ?_
  refine tk 13 ?_
  refine wpAnyH_done (by kernel_rfl) ?_ _
  have f02:=(Fr.refl [] w).drew.trans f2
  have h4:=HR0.out.fr f02 Lc
  have hm4:=(HM.out.fr f02 Lc Lc).mono (n':=n+1) Lb
  have f04:=f02.mono (S':=[p,pm,qm]) Lc
  clear f2 f02 hHeld y0 y1 y2
  unfold JK at h4
  dsimp only at h4
  have z3:=cell_of (i:=3) h4 rfl;have u3:=Qb (i:=3) h4
  have hb:=heap_setCell_same (i:=3) h4 (.func (.func 271) #[.pointer (some ⟨p,0,none⟩)] #[])
  simp only [List.setIfInBounds_toArray,List.set_cons_zero,List.set_cons_succ] at hb
  have fs:=(Fr.refl [p] w2).setCell (p:=⟨p,3,none⟩) (.inl Lc) (.func (.func 271) #[.pointer (some ⟨p,0,none⟩)] #[])
  have HX:=hid (show Y5 w p pm qm n (⟨cell,word,epoch,.QO,swapped,false⟩,M) (.returned (.bool false)) _ from ⟨rfl,hb,hm4.fr fs (by simp;exact Ne.symm HP.out.1) (by simp;exact Ne.symm HP.out.2),f04.trans (fs.mono Lc)⟩)
  clear hb fs h4 hm4 f04
  go_wp2
  go_ret
  exact HX.out
 |some t=>
  dsimp only [ET,Option.isSome] at HA ⊢
  generalize t.enc=te at HA ⊢
  go_in
  go_wp2_with fail
  refine wp_region_held_drew (S:=fun w'=>w'.cell? ⟨p,0,none⟩=some (.int .i64 cell)∧w'.cell? ⟨p,1,none⟩=some (.int .i64 word)∧w'.cell? ⟨p,2,none⟩=some (.int .i64 epoch)) (by kernel_rfl) ⟨y0,y1,y2⟩ (fun hHeld=> ?_)
  refine tk 0 ?_
  refine tk 1 ?_
  refine tk 2 ?_
  refine tk 3 ?_
  refine tk 4 ?_
  refine tk 5 ?_
  refine tk 6 ?_
  refine tk 7 ?_
  refine tc 8 (fun K hK=> ?_)
  go_simp
  refine (HA.out _ (HG.out.fr (Fr.refl [] w).drew Lc)).mono ?_
  rintro e w2 ⟨rfl,f2⟩
  go_wp2_with fail
  refine hK.out _ _ ⟨f2.cell hHeld.1 Lc,f2.cell hHeld.2.1 Lc,f2.cell hHeld.2.2 Lc⟩ (fun hHeld=> ?_)
  clear hK K
  try go_frame
  refine tk 9 ?_
  refine tk 10 ?_
  refine tk 11 ?_
  refine tk 12 ?_
  refine tk 13 ?_
  refine wpAnyH_done (by kernel_rfl) ?_ _
  have f02:=(Fr.refl [] w).drew.trans f2
  have x0:w2.cell? ⟨p,0,none⟩=some (.int .i64 cell):=f02.cell y0 Lc;have x1:w2.cell? ⟨p,1,none⟩=some (.int .i64 word):=f02.cell y1 Lc
  have HC:=hid (Uw w2.drew pm qm M n cell word te (HM.out.fr f02.drew Lc Lc) hn)
  have F2:=hid f02
  clear f2 f02 hHeld y0 y1 y2
  go_wp2_with fail
  refine wp_region_held_drew (S:=fun w'=>w'.cell? ⟨p,0,none⟩=some (.int .i64 cell)∧w'.cell? ⟨p,1,none⟩=some (.int .i64 word)) (by kernel_rfl) ⟨x0,x1⟩ (fun hHeld=> ?_)
  refine tk 0 ?_
  refine tk 1 ?_
  refine tk 2 ?_
  refine tk 3 ?_
  refine tk 4 ?_
  refine tk 5 ?_
  refine tk 6 ?_
  refine tk 7 ?_
  refine tk 8 ?_
  refine tk 9 ?_
  refine tc 10 (fun K hK=> ?_)
  go_simp
  refine (HC.out).mono ?_
  rintro e w4 ⟨rfl,hm4,f4⟩
  go_wp2_with fail
  refine hK.out _ _ ⟨f4.cell hHeld.1 (by simp;exact HP.out),f4.cell hHeld.2 (by simp;exact HP.out)⟩ (fun hHeld=> ?_)
  clear hK K
  try go_frame
  refine wpAnyH_done (by kernel_rfl) ?_ _
  have f04:=(F2.out.drew.mono (S':=[pm,qm]) Lc).trans f4
  have h4:=HR0.out.fr f04 (by simp;exact HP.out)
  have f04:=f04.mono (S':=[p,pm,qm]) (by simp+contextual)
  clear f4 hHeld x0 x1
  unfold JK at h4
  dsimp only at h4
  have z3:=cell_of (i:=3) h4 rfl;have u3:=Qb (i:=3) h4
  have hb:=heap_setCell_same (i:=3) h4 (.func (.func 271) #[.pointer (some ⟨p,0,none⟩)] #[])
  simp only [List.setIfInBounds_toArray,List.set_cons_zero,List.set_cons_succ] at hb
  have fs:=(Fr.refl [p] w4).setCell (p:=⟨p,3,none⟩) (.inl Lc) (.func (.func 271) #[.pointer (some ⟨p,0,none⟩)] #[])
  have HX:=hid (show Y5 w p pm qm n (⟨cell,word,epoch,.QO,swapped,false⟩,QI M cell word te) (.returned (.bool false)) _ from ⟨rfl,hb,hm4.fr fs (by simp;exact Ne.symm HP.out.1) (by simp;exact Ne.symm HP.out.2),f04.trans (fs.mono Lc)⟩)
  clear hb fs h4 hm4 f04
  go_wp2
  go_ret
  exact HX.out
theorem Q4o (s:RSt) (args:Array Value) (w:World):(callFunc s.fn args).run Tryz.prog w=.ok (.enter s.fn args) w:=by
 cases s
 · exact Qu Tryz.func250 (by kernel_rfl) rfl args w
 · exact Qu Tryz.func266 (by kernel_rfl) rfl args w
 · exact Qu Tryz.func270 (by kernel_rfl) rfl args w
 · exact Qu Tryz.func271 (by kernel_rfl) rfl args w
 · exact Qu Tryz.func265 (by kernel_rfl) rfl args w
structure J2.ok (r:J2):Prop where
 word:∃s:Q7,s.right∧r.word=s.enc
 done:r.st≠.done→r.done=false
 fin:r.st=.done→r.done=true
theorem Yk (w:World) (p pm qm:Nat) (r:J2) (M:List Int) (n:Int) (hok:r.ok) (h:JK w p r) (hM:Qm w pm qm M n) (hn:n≤1000000000) (hp:p≠pm∧p≠qm) (hG:Qe w 0 Qc):
 Calls Tryz.prog 161 #[.pointer (some ⟨p,0,none⟩),.pointer (some ⟨pm,0,none⟩)] w (Y5 w p pm qm n (Qn r M)):=by
 have hC:Calls Tryz.prog r.st.fn #[.pointer (some ⟨p,0,none⟩),.pointer (some ⟨pm,0,none⟩)] w (Y5 w p pm qm n (Qn r M)):=by
  obtain ⟨s,hs,hw⟩:=hok.word
  cases hst:r.st with
  |swap=>exact Q4i w p pm qm r s M n hs hw hst (hok.done (by rw [hst];simp)) h hM hn hp hG
  |look=>exact Q4m w p pm qm r M n hst (hok.done (by rw [hst];simp)) h hM hn hp
  |age=>exact Q6i w p pm qm r s M n hs hw hst (hok.done (by rw [hst];simp)) h hM hn hp hG
  |QO=>exact Q4n w p pm qm r M n hst h hM hn hp
  |done=>
   refine (KS w p pm r h).mono ?_
   rintro e w' ⟨rfl,hr,f⟩
   have e:Qn r M=(r.fin,M):=by unfold Qn;rw [hst]
   rw [e]
   exact ⟨rfl,hr,(hM.fr f (by simp;exact Ne.symm hp.1) (by simp;exact Ne.symm hp.2)).mono Lb,f.mono Lc⟩
 have HC:=hid hC
 clear hC
 have hcf:=fun (args:Array Value) (wx:World)=>Q4o r.st args wx
 unfold JK at h
 have q3:=cell_of (i:=3) h rfl
 clear h hM
 generalize Qn r M=x at HC ⊢
 generalize r.st.fn=fn at HC hcf q3
 go_in
 go_wp2_with fail
 refine HC.out.mono ?_
 rintro e w' hx
 have HX:=hid hx
 obtain ⟨rfl, -⟩:=hx
 go_wp2
 go_ret
 exact HX.out
def Q7y (w:World) (r:J2) (e:Ending) (w':World):Prop:=∃p,e=.returned (.pointer (some ⟨p,0,none⟩))∧w.heap.size≤p∧JK w' p r∧Fr [] w w'
theorem KQ (w:World) (c:Q0) (i word:Int) (hc:c.fits):Calls Tryz.prog 214 #[c.val,.int .i64 i,.int .i64 word] w (Q7y w (Jb c i word)):=by
 have HS:=hid fun (w':World)=>J9 w' c i hc
 unfold Jb
 generalize Q5 c i=cell at HS ⊢
 clear hc
 obtain ⟨wo,sl,st,wa,us⟩:=c
 unfold Q0.val at*
 dsimp only at*
 have F1:=hid ((Fr.refl [] w).alloc (.cells #[.int .i64 wo,.int .i64 sl,.int .i64 st,.int .i64 wa,.int .i64 us] 30))
 go_in
 go_wp2_with fail
 refine (HS.out _).mono ?_
 rintro e w2 ⟨rfl,f2⟩
 have F2:=hid (F1.out.trans f2)
 have hs:=F2.out.size
 have hb:=heap_alloc_new w2 (.cells #[.int .i64 cell,.int .i64 word,.int .i64 0,.func (.func 250) #[.pointer (some ⟨w2.heap.size,0,none⟩)] #[],.bool false,.bool false] 227)
 have HX:=hid (show Q7y w ⟨cell,word,0,.swap,false,false⟩ (.returned (.pointer (some ⟨w2.heap.size,0,none⟩))) _ from ⟨_,rfl,hs,hb,F2.out.alloc _⟩)
 clear hb f2
 go_wp2
 go_ret
 exact HX.out
theorem Z10 {P:Prop} (h:P:=by
 go_in
 go_wp2_with fail
 go_region
 all_goals go_wp2
 all_goals go_ret2
 all_goals exact ⟨rfl,(Fr.refl [] w).drew⟩):P:=h
theorem YR (w:World) (p:Nat) (r:J2) (h:JK w p r):Calls Tryz.prog 162 #[.pointer (some ⟨p,0,none⟩)] w fun e w'=>e=.returned (.tuple #[.bool r.swapped,.bool r.done])∧Fr [] w w':=by
 unfold JK at h
 have q4:=cell_of (i:=4) h rfl;have q5:=cell_of (i:=5) h rfl
 clear h
 generalize r.swapped=a at*
 generalize r.done=b at*
 exact Z10
end
end Go.Proofs.YtgjklfmnmljilaaGreatDoor

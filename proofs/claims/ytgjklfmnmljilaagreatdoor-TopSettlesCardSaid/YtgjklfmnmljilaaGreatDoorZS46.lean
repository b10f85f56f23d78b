/- A part of the proof: TqO to TqP. -/
import Derived.Test.YtgjklfmnmljilaaGreatDoorZS45
namespace Go.Proofs.YtgjklfmnmljilaaGreatDoor
set_option linter.unusedVariables false
set_option linter.unusedSimpArgs false
set_option linter.unusedSectionVars false
set_option linter.unnecessarySimpa false
set_option maxRecDepth 100000
set_option maxHeartbeats 8000000
section
variable {c:Q0} {w:Nat} {n:Int} {M M':List Int}
theorem mt_out {i:Int} {s:Q7} (hi:¬(0≤i∧i<c.sl)) (hs:s.right) (h0:s.st≠0):mt c M i s.enc=false:=by
 unfold mt
 rw [X3 _ hi,VL,decide_eq_false_iff_not]
 intro e
 have:dec 0=some s:=by rw [e];exact QO hs
 rw [Q1d] at this
 cases this
 exact h0 rfl
theorem Q6t (h:Qm c n M) {i:Int} {s:Q7} (hs:s.right) (h0:s.st≠0) (hc:Qv M (Q5 c i) s.enc=false):mt c M i s.enc=false:=by
 by_cases hi:0≤i∧i<c.sl
 · rw [←h.Ki hi];exact hc
 · exact mt_out hi hs h0
def gR (c:Q0) (M:List Int) (g:Qz):Int:=if g.st=0 then tFq c+3 else if g.st=1 then tFq c+2 else if g.st=2 then (if mt c M g.i g.word then 1 else tFq c+3) else if g.st=3 then rR c M g.i g.rt (tFq c+3) else 0
def gJ (g:Qz):Int:=if g.st=3∧g.rt.st≠.swap then rJ g.rt else 1
theorem G7 {g:Qz} (h:g.st≠3):gJ g=1:=by unfold gJ;rw [if_neg (fun a=>h a.1)]
theorem Q8J (h:Qm c n M) (hn:n≤1000000000) (hw:(w:Int)<c.wo) {g g':Qz} (hl:g.live c w) (hS:GvS c M g g' M'):
 (g'.st≠4→Gg c M M' (gJ g) (gJ g') (gR c M g) (gR c M' g'))∧(g'.st=4→Gg c M M' (gJ g) 0 (gR c M g) (tFq c)):=by
 obtain ⟨s0,s1,tw,hwd,hrt⟩:=hl
 have kp:=Zj h
 have wo:=h.cf.1
 cases hS with
 |forced h1=>exact ⟨fun e=>absurd rfl e,fun _=>.stay (by rw [G7 (by omega)];omega) (by unfold gR;simp [h1]<;>omega)⟩
 |begins h1=>exact ⟨fun _=>.stay (by rw [G7 (g:=g) (by omega),G7 (by simp)];omega) (by unfold gR;simp [h1]<;>omega),fun e=>by simp at e⟩
 |ends wo e h1 h2=>exact ⟨fun e=>absurd rfl e,fun _=>.stay (by rw [G7 (by omega)];omega) (by unfold gR;simp [h1]<;>omega)⟩
 |has s h1 i0 i1 h2 h3 h4 h5 h6=>exact ⟨fun _=>.stay (by rw [G7 (g:=g) (by omega),G7 (by simp)];omega) (by unfold gR;simp [h1,Y2];omega),fun e=>by simp at e⟩
 |rets s h1 i0 i1 h2 h3 h4 h5=>exact ⟨fun _=>.stay (by rw [G7 (g:=g) (by omega)];unfold gJ;simp [Qz.rt,Ji]) (by unfold gR;simp [h1,Qz.rt,Ji,rR,Y2];omega),fun e=>by simp at e⟩
 |given s u h1 h2 h3 h4=>exact ⟨fun e=>absurd rfl e,fun _=>h.XJ h2 h3 h4 _ _ (by rw [G7 (by omega),(Kh h3).1 (by simp)];omega)⟩
 |lost h1 h2=>
  obtain ⟨hi,s,b1,b2,b3,b4,b5,b6⟩:=hwd h1
  have hm:mt c M g.i g.word=false:=by
   rw [←h.Ki hi]
   obtain ⟨u,hu⟩:∃u,Qj s 4 g.w 0=some u:=KR (by rw [tw];omega) (t:=toV s 2 g.w) (by simp only [chg];rw [if_pos];simp [Jk,b3,b4,b6])
   exact h2 s u (by rw [b2];exact QO b1) hu
  exact ⟨fun _=>.stay (by rw [G7 (g:=g) (by omega),G7 (by simp)];omega) (by unfold gR;simp [h1,hm];omega),fun e=>by simp at e⟩
 |@goes r r' _ h1 h2 h3 h4=>
  obtain ⟨hi,r0,f1,f2⟩:=hrt h1
  rw [h2] at f1;cases f1
  have er:g.rt=r:=by unfold Qz.rt;rw [h2];rfl
  have er':({g with ret:=some r'}:Qz).rt=r':=rfl
  have rj:=KO r;have rj':=KO r'
  have jt:rJ r≤gJ g:=by
   unfold gJ;rw [er];split
   · omega
   · rename_i hx
     have:r.st=.swap:=by
      by_cases hs:r.st=.swap
      · exact hs
      · exact absurd ⟨h1,hs⟩ hx
     unfold rJ;rw [this];simp
  have JJ:∀r1:J4,r1.st≠.swap→gJ {g with ret:=some r1}=rJ r1:=fun r1 h=>by unfold gJ;rw [if_pos ⟨h1,h⟩];rfl
  have hst:r'.st≠.swap:=by
   cases h3 with
   |lost g1 g2=>simp [J4.fin] at h4
   |J5 g1=>simp [J4.fin] at h4
   |swap s u g1=>simp
   |look g1=>simp
   |stale g1=>simp
   |age s u g1=>simp
  refine ⟨fun _=> ?_,fun e=>by simp only at e;omega⟩
  rw [JJ r' hst]
  rcases KH h hn f2 hi (fun s hs=>.inr hs.1) h3 with ⟨-,a,b⟩|⟨-,rfl,a,b,d⟩|⟨a, -⟩|⟨a, -⟩
  · exact .inl ⟨a,by omega⟩
  · refine .stay (by omega) ?_
    have kt:gR c M' g=rR c M' g.i r (tFq c+3):=by unfold gR;simp [h1,er]
    have kt':gR c M' {g with ret:=some r'}=rR c M' g.i r' (tFq c+3):=by unfold gR;simp [h1,Qz.rt]
    rw [kt,kt'];exact d _ _
  · rw [h4] at a;cases a
  · rw [h4] at a;cases a
 |@went r r' _ h1 h2 h3 h4 h5=>
  obtain ⟨hi,r0,f1,f2⟩:=hrt h1
  rw [h2] at f1;cases f1
  have er:g.rt=r:=by unfold Qz.rt;rw [h2];rfl
  refine ⟨fun e=>absurd rfl e,fun _=> ?_⟩
  rcases KH h hn f2 hi (fun s hs=>.inr hs.1) h3 with ⟨a, -⟩|⟨a, -⟩|⟨-, -,a,b,d⟩|⟨-,a, -⟩
  · rw [h4] at a;cases a
  · rw [h4] at a;cases a
  · have e1:gJ g=rJ r:=by unfold gJ;rw [er,if_pos ⟨h1,d⟩]
    exact .inl ⟨a,by rw [e1];omega⟩
  · rw [h5] at a;cases a
 |@back r r' _ h1 h2 h3 h4 h5=>
  obtain ⟨hi,r0,f1,f2⟩:=hrt h1
  rw [h2] at f1;cases f1
  have er:g.rt=r:=by unfold Qz.rt;rw [h2];rfl
  refine ⟨fun _=> ?_,fun e=>by simp at e⟩
  rcases KH h hn f2 hi (fun s hs=>.inr hs.1) h3 with ⟨a, -⟩|⟨a, -⟩|⟨-,a, -⟩|⟨-, -,rfl,b,d⟩
  · rw [h4] at a;cases a
  · rw [h4] at a;cases a
  · rw [h5] at a;cases a
  · refine .stay ?_ ?_
    · rw [G7 (by simp)];unfold gJ;simp [er,b]
    · unfold gR;simp [h1,er,rR,b,d];omega
def sR (c:Q0) (M:List Int) (g:QI):Int:=if g.st=0 then tFq c+3 else if g.st=1 then tFq c+2 else (if mt c M g.i g.word then 1 else tFq c+3)
theorem Q7W (h:Qm c n M) (hn:n≤1000000000) (hw:(w:Int)<c.wo) {g g':QI} (hl:g.live c w) (hS:SmS c M g g' M'):
 (g'.st≠3→Gg c M M' 1 1 (sR c M g) (sR c M' g'))∧(g'.st=3→Gg c M M' 1 0 (sR c M g) (tFq c)):=by
 obtain ⟨s0,s1,tw,hwd⟩:=hl
 have kp:=Zj h
 cases hS with
 |forced h1=>exact ⟨fun e=>absurd rfl e,fun _=>.stay (by omega) (by unfold sR;simp [h1]<;>omega)⟩
 |begins h1=>exact ⟨fun _=>.stay (by omega) (by unfold sR;simp [h1]<;>omega),fun e=>by simp at e⟩
 |ends wo e h1 h2=>exact ⟨fun e=>absurd rfl e,fun _=>.stay (by omega) (by unfold sR;simp [h1]<;>omega)⟩
 |has s t h1 h2 h3 h4=>exact ⟨fun _=>.stay (by omega) (by unfold sR;simp [h1,Y2];omega),fun e=>by simp at e⟩
 |swapped h1 h2=>
  obtain ⟨s,t,more,a1,a2,a3,a4,a5,a6⟩:=hwd h1
  refine ⟨fun e=>absurd rfl e,fun _=> ?_⟩
  rw [a5]
  rw [a2] at h2 ⊢
  exact h.XJ (QO a1) a4 h2 _ _ (by rw [(Kh a4).1 (by split<;>simp)];omega)
 |lost h1 h2=>
  obtain ⟨s,t,more,a1,a2,a3,a4,a5,a6⟩:=hwd h1
  have hst:s.st≠0:=by
   intro e
   obtain ⟨-,t',ht, -⟩:=Xf a4
   cases ho:g.opens with
   |true=>rw [ho] at ht;simp [chg,Vx,Jk,e] at ht
   |false=>rw [ho] at ht;simp [chg,Vt,Jk,e] at ht
  rw [a2] at h2
  have hm:=Q6t h a1 hst h2
  rw [←a2] at hm
  exact ⟨fun _=>.stay (by omega) (by unfold sR;simp [h1,hm];omega),fun e=>by simp at e⟩
def qR (c:Q0) (M:List Int) (s:QuS):Int:=
 match s.nx with
 |.come=>tFq c+2
 |.push=>if mQ M=s.line then 1 else tFq c+3
 |.closed=>tFq c+4
 |.look=>tFq c+2
 |.drop=>if mQ M=s.line then 1 else tFq c+3
 |.head=>tFq c+2
 |.pop=>if mQ M=s.line then 1 else tFq c+3
 |.tell=>tFq c+3
 |.done=>tFq c+1
def qB (c:Q0) (s:QuS):Int:=match s.nx with|.come=>2*Qw c|.push=>2*Qw c|_=>0
theorem QS_low (h:Qm c n M) {j v:Int} (h0:0≤j) (h1:j<3+2*c.wo):QS c (M.set j.toNat v)=QS c M:=Ho (fun i=>h.Uz h0 h1 i) _
theorem mQ_put (h:Qm c n M) {L:List Int} (hL:Ln L):mQ (M.set (1:Int).toNat (wd L:Int))=L:=by
 have:=h.len;have:=h.cf.2.1;have:=h.cf.1
 exact Q6B hL (by rw [Zv (by omega) (by unfold Q0.cells at*;omega),if_pos rfl])
theorem WE (h:Qm c n M) {L:List Int} (hL:Ln L) {j j':Int} (r r':Int) (hj:(L.length<(mQ M).length∧j'≤j+2)∨(L.length≤(mQ M).length+1∧j'+2*Qw c≤j)):Gg c M (M.set (1:Int).toNat (wd L:Int)) j j' r r':=by
 have wo:=h.cf.1
 right;left
 refine ⟨QS_low h (by omega) (by omega), ?_⟩
 rw [mQ_put h hL]
 have q0:0≤Qw c:=by unfold Qw;omega
 rcases hj with ⟨a,b⟩|⟨a,b⟩
 · have:Qw c*(L.length:Int)≤Qw c*(((mQ M).length:Int) - 1):=Int.mul_le_mul_of_nonneg_left (by omega) q0
   rw [Int.mul_sub] at this
   unfold Qw at*;omega
 · have:Qw c*(L.length:Int)≤Qw c*(((mQ M).length:Int)+1):=Int.mul_le_mul_of_nonneg_left (by omega) q0
   rw [Int.mul_add] at this
   unfold Qw at*;omega
theorem rm_len {L:List Int} {x:Int} (h:x∈L):(rm L x).length<L.length:=by
 unfold rm
 rw [List.length_filter_lt_length_iff_exists]
 exact ⟨x,h,by simp⟩
theorem q_go (h:Qm c n M) {s:QuS} (hl:s.live c):
 ((Qp c s M).1.nx.isDone=false→Gg c M (Qp c s M).2 (qB c s) (qB c (Qp c s M).1) (qR c M s) (qR c (Qp c s M).2 (Qp c s M).1))∧((Qp c s M).1.nx.isDone=true→Gg c M (Qp c s M).2 (qB c s) 0 (qR c M s) (tFq c)):=by
 obtain ⟨⟨hLn,hpush,hdrop,htell⟩,hlw,w0,w1,hhd⟩:=hl
 have kp:=Zj h
 have wo:=h.cf.1
 have q0:0≤Qw c:=by unfold Qw;omega
 unfold Qp
 cases hn:s.nx with
 |come=>
  simp only
  by_cases hc:c.wa≤((mQ M).length:Int)∨s.w∈mQ M
  · rw [if_pos hc];exact ⟨fun e=>by simp [QSt.isDone] at e,fun _=>.stay (by unfold qB;rw [hn];simp only;omega) (by unfold qR;rw [hn];simp only;omega)⟩
  · rw [if_neg hc];exact ⟨fun _=>.stay (by unfold qB;rw [hn];simp) (by unfold qR;rw [hn];simp;omega),fun e=>by simp [QSt.isDone] at e⟩
 |push=>
  simp only
  by_cases hc:mQ M=s.line
  · rw [if_pos hc]
    refine ⟨fun _=>WE h (hpush hn) _ _ (.inr ⟨by rw [hc];simp,by unfold qB;rw [hn];simp⟩),fun e=>by simp [QSt.isDone] at e⟩
  · rw [if_neg hc];exact ⟨fun _=>.stay (by unfold qB;rw [hn];simp) (by unfold qR;rw [hn];simp [hc];omega),fun e=>by simp [QSt.isDone] at e⟩
 |closed=>
  simp only
  by_cases hc:Q6 M 0=0
  · rw [if_pos hc];exact ⟨fun e=>by simp [QSt.isDone] at e,fun _=>.stay (by unfold qB;rw [hn];simp) (by unfold qR;rw [hn];simp only;omega)⟩
  · rw [if_neg hc];exact ⟨fun _=>.stay (by unfold qB;rw [hn];simp) (by unfold qR;rw [hn];simp;omega),fun e=>by simp [QSt.isDone] at e⟩
 |look=>
  simp only
  by_cases hc:s.w∈mQ M
  · rw [if_pos hc];exact ⟨fun _=>.stay (by unfold qB;rw [hn];simp) (by unfold qR;rw [hn];simp;omega),fun e=>by simp [QSt.isDone] at e⟩
  · rw [if_neg hc];exact ⟨fun e=>by simp [QSt.isDone] at e,fun _=>.stay (by unfold qB;rw [hn];simp) (by unfold qR;rw [hn];simp only;omega)⟩
 |drop=>
  simp only
  by_cases hc:mQ M=s.line
  · rw [if_pos hc]
    exact ⟨fun e=>by simp [QSt.isDone] at e,fun _=>WE h (hLn.rm s.w) _ _ (.inl ⟨by rw [hc];exact rm_len (hdrop hn),by unfold qB;rw [hn];simp⟩)⟩
  · rw [if_neg hc];exact ⟨fun _=>.stay (by unfold qB;rw [hn];simp) (by unfold qR;rw [hn];simp [hc];omega),fun e=>by simp [QSt.isDone] at e⟩
 |head=>
  simp only
  by_cases hc:mQ M=[]
  · rw [if_pos hc];exact ⟨fun e=>by simp [QSt.isDone] at e,fun _=>.stay (by unfold qB;rw [hn];simp) (by unfold qR;rw [hn];simp only;omega)⟩
  · rw [if_neg hc];exact ⟨fun _=>.stay (by unfold qB;rw [hn];simp) (by unfold qR;rw [hn];simp;omega),fun e=>by simp [QSt.isDone] at e⟩
 |pop=>
  simp only
  by_cases hc:mQ M=s.line
  · rw [if_pos hc]
    refine ⟨fun _=>WE h hLn.tail _ _ (.inl ⟨?_,by unfold qB;rw [hn];simp⟩),fun e=>by simp [QSt.isDone] at e⟩
    rw [hc,List.length_tail]
    have:=List.length_pos_iff.2 (hhd hn).2
    omega
  · rw [if_neg hc];exact ⟨fun _=>.stay (by unfold qB;rw [hn];simp) (by unfold qR;rw [hn];simp [hc];omega),fun e=>by simp [QSt.isDone] at e⟩
 |tell=>
  simp only
  obtain ⟨f0,f1⟩:=htell hn
  have:=h.len;have:=h.cf.2.1
  rw [JG (by omega) (by unfold Q0.cells at*;omega)]
  exact ⟨fun _=>.inr (.inr ⟨h.ZE (by omega) (by omega),by unfold qB;rw [hn];simp,by unfold qR;rw [hn];simp only;omega⟩),fun e=>by simp [QSt.isDone] at e⟩
 |done=>simp only;exact ⟨fun e=>by rw [hn] at e;simp [QSt.isDone] at e,fun _=>.stay (by unfold qB;rw [hn];simp) (by unfold qR;rw [hn];simp only;omega)⟩
end
section
variable {c:Q0} {w:Nat} {n:Int} {M M':List Int}
def V9 (c:Q0) (M:List Int):List Int:=(List.range c.sl.toNat).map fun i:Nat=>Q6 M (c.slot (i:Int))
def ZF (c:Q0) (M:List Int) (t:Tw2):Prop:=t.d=false∧t.r=(V9 c M).take t.r.length
instance (c:Q0) (M:List Int) (t:Tw2):Decidable (ZF c M t):=by unfold ZF;infer_instance
def twR (c:Q0) (M:List Int) (t:Tw2):Int:=(c.sl - t.r.length)+(if ZF c M t then (if 0<t.n∧t.l=V9 c M then 0 else c.sl) else 2*c.sl)
theorem Q8Q (h:Qm c n M):((V9 c M).length:Int)=c.sl:=by unfold V9;rw [List.length_map,List.length_range];have:=h.cf.2.1;omega
theorem Same.cur (h:Same c M M'):V9 c M'=V9 c M:=by
 unfold V9
 refine List.map_congr_left fun i hi=> ?_
 have:=h.s i
 unfold Q5 at this
 rw [List.mem_range] at hi
 rw [if_pos (by omega)] at this
 exact this
theorem Same.twR (h:Same c M M') (t:Tw2):twR c M' t=twR c M t:=by unfold Go.Proofs.YtgjklfmnmljilaaGreatDoor.twR ZF;simp only [h.cur]
theorem cur_at (h:Qm c n M) {k:Nat} (hk:(k:Int)<c.sl):(V9 c M)[k]?=some (Q6 M (c.slot k)):=by
 unfold V9;rw [List.getElem?_map,List.getElem?_range (by omega)];rfl
theorem Q76 (h:Qm c n M) {r:List Int} (hr:(r.length:Int)<c.sl):r++[Q6 M (c.slot r.length)]=(V9 c M).take (r.length+1)↔r=(V9 c M).take r.length:=by
 have e:(V9 c M).take (r.length+1)=(V9 c M).take r.length++[Q6 M (c.slot r.length)]:=by rw [List.take_add_one,cur_at h hr];rfl
 rw [e]
 constructor
 · intro a;exact (List.append_inj' a rfl).1
 · intro a;rw [←a]
theorem tw_go (h:Qm c n M) {t:Tw2} (hl:t.live c n):
 ((QD c t M).d=false→(ZF c M t→ZF c M (QD c t M))∧(ZF c M t∨¬ZF c M (QD c t M)∨True)∧twR c M (QD c t M)+1≤twR c M t)∧
 ((QD c t M).d=true→ZF c M t→(QD c t M).l=V9 c M)∧1≤twR c M t:=by
 have l1:=hl.r
 have sl:=h.cf.2.1
 have cl:=Q8Q h
 by_cases hd:t.d=true
 · have e:QD c t M=t:=by unfold QD;rw [if_pos hd]
   rw [e]
   refine ⟨fun x=>absurd hd (by rw [x];simp),fun _ p=>absurd hd (by rw [p.1];simp), ?_⟩
   unfold twR;split<;>(try split)<;>omega
 · have hd':t.d=false:=by simpa using hd
   obtain ⟨x,hx⟩:∃x,Q6 M (c.slot t.r.length)=x:=⟨_,rfl⟩
   have hct:=Q76 h l1
   rw [hx] at hct
   have e:QD c t M=(if ((t.r++[x]).length:Int)<c.sl then {t with r:=t.r++[x]} else ⟨[],t.r++[x],t.n+1,decide (0<t.n)&&decide (t.r++[x]=t.l)⟩):=by unfold QD;rw [if_neg hd];simp only [hx]
   rw [e]
   have ll:(t.r++[x]).length=t.r.length+1:=by simp
   rw [ll]
   have hP:ZF c M t↔t.r=(V9 c M).take t.r.length:=⟨fun p=>p.2,fun p=>⟨hd',p⟩⟩
   by_cases hlt:((t.r.length+1:Nat):Int)<c.sl
   · rw [if_pos hlt]
     have hP':ZF c M {t with r:=t.r++[x]}↔ZF c M t:=by
      rw [hP,←hct]
      unfold ZF
      simp only [hd',true_and]
      rw [ll]
     refine ⟨fun _=>⟨hP'.2,.inr (.inr trivial), ?_⟩,fun y=>by rw [show ({t with r:=t.r++[x]}:Tw2).d=t.d from rfl] at y;exact absurd y hd, ?_⟩
     · unfold twR
       simp only [hP',ll]
       omega
     · unfold twR;split<;>(try split)<;>omega
   · rw [if_neg hlt]
     have hcur:ZF c M t→t.r++[x]=V9 c M:=by
      intro p
      rw [hct.2 p.2,List.take_of_length_le (by omega)]
     have hpn:(decide (0<t.n)&&decide (t.r++[x]=t.l))=false→ZF c M ⟨[],t.r++[x],t.n+1,decide (0<t.n)&&decide (t.r++[x]=t.l)⟩:=fun y=>⟨y,by simp⟩
     refine ⟨fun y=>⟨fun _=>hpn y,.inr (.inr trivial), ?_⟩,fun _ p=>hcur p, ?_⟩
     · have n0:=hl.n
       simp only at y
       unfold twR
       rw [if_pos (hpn y)]
       simp only [List.length_nil]
       by_cases p:ZF c M t
       · rw [if_pos p,if_pos ⟨by omega,hcur p⟩]
         by_cases q:0<t.n∧t.l=V9 c M
         · exfalso
           rw [hcur p,q.2] at y
           simp at y;omega
         · rw [if_neg q];omega
       · rw [if_neg p];split<;>omega
     · unfold twR;split<;>(try split)<;>omega
theorem Q8u (a K:Int):(a - 1)*K=a*K - K:=by rw [Int.sub_mul,Int.one_mul]
def yB (c:Q0) (M:List Int) (t:Qh):Int:=
 if t.st=0 then tFq c
 else if t.st=1 then tFq c - 1
 else if t.st=2 then tFq c - 2
 else if t.st=3 then (c.sl - t.lk.at_)+c.sl*(c.wo+3)+c.sl+6
 else if t.st=4 then rR c M t.i t.rt ((c.sl - t.lk.at_)+c.sl*(c.wo+3)+c.sl+7)
 else if t.st=5 then (c.sl - t.lk.at_)*(c.wo+3)+c.sl+5
 else if t.st=6 then (c.sl - t.lk.at_ - 1)*(c.wo+3)+c.sl+7+(c.wo - t.other)
 else if t.st=7 then (c.sl - t.lk.at_ - 1)*(c.wo+3)+c.sl+6
 else if t.st=8 then c.sl+4
 else if t.st=9 then (c.sl - t.lk.at_)+3
 else if t.st=10 then (if mt c M t.i t.word then 1 else (c.sl - t.lk.at_)+4)
 else if t.st=11 then (if mQ M=t.queue then 1 else c.sl+6)
 else if t.st=12 then c.sl+5
 else if t.st=13 then c.sl+5
 else if t.st=14 then (if mt c M t.i t.word then 1 else c.sl+6)
 else if t.st=15 then 2
 else if t.st=16 then 1 else 0
def yE (c:Q0) (M:List Int) (t:Qh):Int:=if t.st=0∨t.epoch=Q6 M 2 then 0 else tFq c+1
def yR (c:Q0) (M:List Int) (t:Qh):Int:=yB c M t+yE c M t
def yA (M:List Int) (t:Qh):Int:=if t.st=9∨t.st=10 then (if mQ M=t.queue then 2 else 4) else if t.st=11 then (if mQ M=t.queue then 1 else 3) else if t.st=13∨t.st=14 then 3 else 2
def yJ (t:Qh):Int:=if t.st=4 then rJ t.rt else 0
theorem JH {t:Qh} (h:(0≤t.st∧t.st≤8)∨t.st=12∨15≤t.st):yA M t=2:=by unfold yA;rw [if_neg (by omega),if_neg (by omega),if_neg (by omega)]
theorem Jf {t:Qh} (h:t.st≠4):yJ t=0:=if_neg h
theorem JQ {t:Qh} {f:Qi} (h:t.look=some f):t.lk=f:=by unfold Qh.lk;rw [h];rfl
theorem Q06 {t:Qh} {r:J4} (h:t.ret=some r):t.rt=r:=by unfold Qh.rt;rw [h];rfl
theorem Q7R (h:Qm c n M) (hn:n≤1000000000) {shut:Prop} {t t':Qh} (hl:t.live c w n shut) (hS:TdS c M t t' M') (hne:t'.st≠17):
 Gg c M M' (yA M t+yJ t) (yA M' t'+yJ t') (yR c M t) (yR c M' t'):=by
 obtain ⟨s0,s1,tw,w1,ep,hcl,hlk,hfd,hi,hrt,hot,hhd,hwd⟩:=hl
 have E:∀f g:Qi,t.look=some f→t.look=some g→f=g:=fun f g a b=>by rw [a] at b;exact Option.some.inj b
 have wo:=h.cf.1;have sl:=h.cf.2.1;have len:=h.len
 have I:∀x:Int,0≤x→x<3+2*c.wo→∀v,QA M x v=M.set x.toNat v:=fun x a b v=>JG a (by unfold Q0.cells at*;omega)
 have slc:∀{a:Int},0≤a→a<c.sl→Q5 c a=c.slot a:=fun h0 h1=>by unfold Q5;rw [if_pos ⟨h0,h1⟩]
 have K0:c.sl*(c.wo+5)=c.sl*(c.wo+3)+2*c.sl:=by rw [show c.wo+5=(c.wo+3)+2 by omega,Int.mul_add];omega
 have K1:0≤c.sl*(c.wo+3):=Int.mul_nonneg (by omega) (by omega)
 have tf:tFq c=c.sl*(c.wo+3)+2*c.sl+9:=by unfold tFq;rw [K0]
 have goAt:∀f:Qi,f.found=true→f.go.at_=f.at_+1:=fun f e=>by unfold Qi.go;rw [if_pos e]
 -- a step that turns nothing that others wait for
 have ST:∀{u:Qh} {N:List Int},Same c M N→yA M u+yJ u≤yA M t+yJ t→yB c M u+1≤yB c M t→(u.st=0∨t.epoch=u.epoch∧t.st≠0)→Gg c M N (yA M t+yJ t) (yA N u+yJ u) (yR c M t) (yR c N u):=by
  intro u N hs a b d
  have eA:yA N u=yA M u:=by unfold yA;rw [hs.mQ]
  have eB:yB c N u=yB c M u:=by unfold yB rR;simp only [hs.mt,hs.mQ]
  have eE:yE c N u≤yE c M t:=by
   unfold yE
   rw [hs.e]
   rcases d with d|⟨d1,d2⟩
   · rw [if_pos (.inl d)];split<;>omega
   · rw [←d1]
     split
     · split<;>omega
     · rename_i x;rw [if_neg (fun y=>x (.inr (y.resolve_left d2)))];omega
  refine .inr (.inr ⟨hs,by rw [eA];exact a, ?_⟩)
  unfold yR;rw [eB];omega
 have ST0:∀{u:Qh},yA M u+yJ u≤yA M t+yJ t→yB c M u+1≤yB c M t→(u.st=0∨t.epoch=u.epoch∧t.st≠0)→Gg c M M (yA M t+yJ t) (yA M u+yJ u) (yR c M t) (yR c M u):=fun a b d=>ST Same.refl a b d
 cases hS with
 |epoch h1=>
  refine .stay (by rw [JH (t:=t) (by omega),Jf (t:=t) (by omega),JH (by simp),Jf (by simp)];omega) ?_
  unfold yR yB yE;simp [h1]<;>omega
 |pin h1=>
  rw [I _ (by omega) (by omega)]
  refine ST (h.ZE (by omega) (by omega)) (by rw [JH (t:=t) (by omega),Jf (t:=t) (by omega),JH (by simp),Jf (by simp)];omega) (by unfold yB;simp [h1];omega) (.inr ⟨rfl,by omega⟩)
 |closed h1=>
  refine ST0 (by rw [JH (t:=t) (by omega),Jf (t:=t) (by omega),JH (by simp [Qh.search]),Jf (by simp [Qh.search])];omega) ?_ (.inr ⟨rfl,by omega⟩)
  have e:(({t with closed:=Q6 M 0}:Qh).search 3 4 (Q6 M 0)).lk.at_=0:=rfl
  unfold yB;rw [e];simp [h1,Qh.search];omega
 |@hit3 f h1 h2 h3 h4=>
  obtain ⟨f',e1,e2,e3,e4,e5,e6,e7⟩:=hlk (by omega)
  cases E _ _ e1 h2
  refine ST0 (by rw [JH (t:=t) (by omega),Jf (t:=t) (by omega),JH (by simp)];unfold yJ;simp [Qh.rt,Ji,rJ]) ?_ (.inr ⟨rfl,by omega⟩)
  unfold yB;simp [h1,Qh.rt,Ji,rR,←slc e3 h3,Y2,JQ h2];omega
 |@miss f h1 h2 h3 h4=>
  obtain ⟨f',e1,e2,e3,e4,e5,e6,e7⟩:=hlk h1
  cases E _ _ e1 h2
  refine ST0 (by
   rw [Jf (t:=t) (by omega),Jf (by simp only;omega)];unfold yA;simp only;omega) ?_ (.inr ⟨rfl,by omega⟩)
  have e:({t with look:=some {f with at_:=f.at_+1}}:Qh).lk.at_=f.at_+1:=rfl
  unfold yB;rw [e,JQ h2];simp only
  rcases h1 with h1|h1|h1<;>simp only [h1]
  · simp;omega
  · have:=Q8u (c.sl - f.at_) (c.wo+3)
    rw [show c.sl - (f.at_+1)=c.sl - f.at_ - 1 by omega]
    simp;omega
  · simp;omega
 |@last3 f h1 h2 h3 h4=>
  obtain ⟨f',e1,e2,e3,e4,e5,e6,e7⟩:=hlk (by omega)
  cases E _ _ e1 h2
  refine ST0 (by rw [JH (t:=t) (by omega),Jf (t:=t) (by omega),JH (by simp [Qh.search]),Jf (by simp [Qh.search])];omega) ?_ (.inr ⟨rfl,by omega⟩)
  have e:(t.search 5 5 t.w).lk.at_=0:=rfl
  unfold yB;rw [e,JQ h2];simp [h1,Qh.search];omega
 |@goes r r' _ h1 h2 h3 h4=>
  obtain ⟨r0,f1,f2⟩:=hrt h1
  rw [h2] at f1;cases f1
  have hi':=hi (by omega)
  have er:=Q06 h2
  have er':({t with ret:=some r'}:Qh).rt=r':=rfl
  rcases KH h hn f2 hi' (fun s hs=>hs.2) h3 with ⟨-,a,b⟩|⟨-,rfl,a,b,d⟩|⟨a, -⟩|⟨a, -⟩
  · left
    refine ⟨a, ?_⟩
    rw [JH (t:=t) (by omega),JH (by simp only;omega)]
    unfold yJ;rw [if_pos h1,if_pos h1,er,er'];omega
  · refine ST0 ?_ ?_ (.inr ⟨rfl,by omega⟩)
    · rw [JH (t:=t) (by omega),JH (by simp only;omega)]
      unfold yJ;rw [if_pos h1,if_pos h1,er,er'];omega
    · unfold yB;simp only [h1,er,er']
      exact d _ _
  · rw [h4] at a;cases a
  · rw [h4] at a;cases a
 |@went r r' f _ h1 h2 h3 h4 h5=>
  obtain ⟨r0,f1,f2⟩:=hrt h1
  rw [h2] at f1;cases f1
  have hi':=hi (by omega)
  have er:=Q06 h2
  rcases KH h hn f2 hi' (fun s hs=>hs.2) h4 with ⟨a, -⟩|⟨a, -⟩|⟨-, -,a,b,d⟩|⟨-, -,rfl,b,d⟩
  · rw [h5] at a;cases a
  · rw [h5] at a;cases a
  · left
    refine ⟨a, ?_⟩
    rw [JH (t:=t) (by omega),JH (by simp),Jf (t:={t with ret:=some r',look:=some f.again,st:=3}) (by simp)]
    unfold yJ;rw [if_pos h1,er];omega
  · refine ST0 ?_ ?_ (.inr ⟨rfl,by omega⟩)
    · rw [JH (t:=t) (by omega),JH (by simp),Jf (t:={t with ret:=some r',look:=some f.again,st:=3}) (by simp)]
      have:=(KO t.rt).1
      unfold yJ;rw [if_pos h1];omega
    · have e:({t with ret:=some r',look:=some f.again,st:=3}:Qh).lk.at_=f.at_:=rfl
      unfold yB;rw [e,er,JQ h3];simp [h1,rR,b,d];omega
 |@hit5 f o h1 h2 h3 h4 o0 o1 o2=>
  refine ST0 (by rw [JH (t:=t) (by omega),Jf (t:=t) (by omega),JH (by simp),Jf (by simp)];omega) ?_ (.inr ⟨rfl,by omega⟩)
  have:=Q8u (c.sl - f.at_) (c.wo+3)
  have e:({t with look:=some {f with word:=Q6 M (c.slot f.at_),found:=true},i:=f.at_,word:=Q6 M (c.slot f.at_),other:=o,st:=6}:Qh).lk.at_=f.at_:=rfl
  unfold yB;rw [e,JQ h2];simp [h1];omega
 |@lone5 f o h1 h2 h3 h4=>
  refine ST0 (by rw [JH (t:=t) (by omega),Jf (t:=t) (by omega),JH (by simp),Jf (by simp)];omega) ?_ (.inr ⟨rfl,by omega⟩)
  have:=Q8u (c.sl - f.at_) (c.wo+3)
  have e:({t with look:=some {f with word:=Q6 M (c.slot f.at_),found:=true},i:=f.at_,word:=Q6 M (c.slot f.at_),other:=o,st:=7}:Qh).lk.at_=f.at_:=rfl
  unfold yB;rw [e,JQ h2];simp [h1];omega
 |@last5 f f' h1 h2 h3=>
  obtain ⟨f0,e1,e2,e3,e4,e5,e6,e7⟩:=hlk (by omega)
  cases E _ _ e1 h2
  have:0≤(c.sl - f.at_)*(c.wo+3):=Int.mul_nonneg (by omega) (by omega)
  by_cases hc:t.closed=0
  · rw [if_pos hc]
    refine ST0 (by rw [JH (t:=t) (by omega),Jf (t:=t) (by omega),JH (by simp),Jf (by simp)];omega) ?_ (.inr ⟨rfl,by omega⟩)
    unfold yB;rw [JQ h2];simp [h1];omega
  · rw [if_neg hc]
    refine ST0 (by rw [JH (t:=t) (by omega),Jf (t:=t) (by omega),JH (by simp),Jf (by simp)];omega) ?_ (.inr ⟨rfl,by omega⟩)
    unfold yB;rw [JQ h2];simp [h1];omega
 |@old6 f h1 h2=>
  obtain ⟨f',s,g1,g2,g3,g4,g5,g6,g7,g8⟩:=hfd (by omega)
  cases E _ _ g1 h2
  have ho:=hot h1
  refine ST0 (by rw [JH (t:=t) (by omega),Jf (t:=t) (by omega),JH (by simp),Jf (by simp)];omega) ?_ (.inr ⟨rfl,by omega⟩)
  have e:({t with look:=some f.go,st:=5}:Qh).lk.at_=f.at_+1:=goAt f g2
  unfold yB;rw [e,JQ h2,show c.sl - (f.at_+1)=c.sl - f.at_ - 1 by omega];simp [h1];omega
 |next6 o h1 o0 o1 o2=>
  refine ST0 (by rw [JH (t:=t) (by omega),Jf (t:=t) (by omega),JH (by simp only;omega),Jf (by simp only;omega)];omega) ?_ (.inr ⟨rfl,by omega⟩)
  have e:({t with other:=o}:Qh).lk=t.lk:=rfl
  unfold yB;rw [e];simp [h1];omega
 |all6 o h1=>
  have ho:=hot h1
  refine ST0 (by rw [JH (t:=t) (by omega),Jf (t:=t) (by omega),JH (by simp),Jf (by simp)];omega) ?_ (.inr ⟨rfl,by omega⟩)
  have e:({t with other:=o,st:=7}:Qh).lk=t.lk:=rfl
  unfold yB;rw [e];simp [h1];omega
 |@clear f s u h1 h2 h3 h4 h5=>
  refine h.XJ h3 h4 h5 _ _ ?_
  have q:=(Kh h4).2.2.2 rfl
  rw [JH (t:=t) (by omega),Jf (t:=t) (by omega),JH (by simp),Jf (by simp)];omega
 |@unclear f h1 h2=>
  obtain ⟨f',s,g1,g2,g3,g4,g5,g6,g7,g8⟩:=hfd (by omega)
  cases E _ _ g1 h2
  refine ST0 (by rw [JH (t:=t) (by omega),Jf (t:=t) (by omega),JH (by simp),Jf (by simp)];omega) ?_ (.inr ⟨rfl,by omega⟩)
  have e:({t with look:=some f.go,st:=5}:Qh).lk.at_=f.at_+1:=goAt f g2
  unfold yB;rw [e,JQ h2,show c.sl - (f.at_+1)=c.sl - f.at_ - 1 by omega];simp [h1];omega
 |none8 h1 h2=>
  refine ST0 (by rw [JH (t:=t) (by omega),Jf (t:=t) (by omega),JH (by simp),Jf (by simp)];omega) ?_ (.inr ⟨rfl,by omega⟩)
  unfold yB;simp [h1];omega
 |head8 h1 h2=>
  refine ST0 ?_ ?_ (.inr ⟨rfl,by omega⟩)
  · rw [JH (t:=t) (by omega),Jf (t:=t) (by omega),Jf (by simp [Qh.search])]
    unfold yA;simp [Qh.search]
  · have e:(({t with queue:=mQ M,head:=Z7 (mQ M)}:Qh).search 9 3 t.w).lk.at_=0:=rfl
    unfold yB;rw [e];simp [h1,Qh.search];omega
 |@hit9 f h1 h2 h3 h4=>
  obtain ⟨f',e1,e2,e3,e4,e5,e6,e7⟩:=hlk (by omega)
  cases E _ _ e1 h2
  refine ST0 ?_ ?_ (.inr ⟨rfl,by omega⟩)
  · rw [Jf (t:=t) (by omega),Jf (by simp)];unfold yA;simp [h1]
  · unfold yB;rw [JQ h2];simp [h1,←slc e3 h3,Y2];omega
 |@last9 f h1 h2 h3 h4=>
  refine ST0 ?_ ?_ (.inr ⟨rfl,by omega⟩)
  · rw [Jf (t:=t) (by omega),JH (t:={t with look:=some {f with at_:=f.at_+1},st:=15}) (by simp),Jf (by simp)];unfold yA;simp [h1];split<;>omega
  · unfold yB;rw [JQ h2];simp [h1];omega
 |keep s u h1 h2 h3 h4=>
  refine h.XJ h2 h3 h4 _ _ ?_
  have q:=(Kh h3).1 (by split<;>simp)
  obtain ⟨hi2, -,hu,e2, -⟩:=h.swap h2 h3 h4
  rw [Jf (t:=t) (by omega),Jf (by simp),q,e2]
  unfold yA;simp only [h1,h.WB hi2 u]
  simp;split<;>omega
 |@unkept f h1 h2 h3=>
  obtain ⟨f',s,g1,g2,g3,g4,g5,g6,g7,g8⟩:=hfd (by omega)
  cases E _ _ g1 h2
  have hi':=hi (by omega)
  have hh:=hhd (by omega)
  have hm:mt c M t.i t.word=false:=by
   rw [←h.Ki hi']
   obtain ⟨u,hu⟩:∃u,Qj s (if s.st=2 then 5 else 7) t.head 0=some u:=by
    rw [show f.kind=3 by rw [g7];simp [h1]] at g6
    by_cases h2s:s.st=2
    · rw [if_pos h2s]
      refine KR (by omega) (t:=toV s 4 t.head) ?_
      simp [JX,JL,isV,h2s] at g6
      simp [chg,JL,h2s,g6]
    · rw [if_neg h2s]
      refine KR (by omega) (t:=toV s 5 t.head) ?_
      simp [JX,JL,isV,h2s] at g6
      simp [chg,isV,g6]
   exact h3 s u (by rw [g5];exact QO g4) hu
  refine ST0 ?_ ?_ (.inr ⟨rfl,by omega⟩)
  · rw [Jf (t:=t) (by omega),Jf (by simp)];unfold yA;simp [h1]
  · have e:({t with look:=some f.again,st:=9}:Qh).lk.at_=f.at_:=rfl
    unfold yB;rw [e,JQ h2];simp [h1,hm];omega
 |pop h1 h2=>
  obtain ⟨hh1,hh2,hh3,hh4,hh5⟩:=hhd (by omega)
  refine WE h hh2.tail _ _ (.inl ⟨?_, ?_⟩)
  · rw [h2,List.length_tail]
    have:=List.length_pos_iff.2 hh3
    omega
  · rw [Jf (t:=t) (by omega),JH (by simp),Jf (by simp)];unfold yA;simp [h1,h2]
 |unpopped h1 h2=>
  refine ST0 ?_ ?_ (.inr ⟨rfl,by omega⟩)
  · rw [Jf (t:=t) (by omega),Jf (by simp)];unfold yA;simp [h1,h2]
  · unfold yB;simp [h1,h2];omega
 |grant h1=>
  obtain ⟨hh1, -⟩:=hhd (by omega)
  rw [I _ (by omega) (by omega)]
  refine ST (h.ZE (by omega) (by omega)) (by rw [JH (t:=t) (by omega),Jf (t:=t) (by omega),JH (by simp),Jf (by simp)];omega) (by unfold yB;simp [h1];omega) (.inr ⟨rfl,by omega⟩)
 |kept s h1 h2 h3=>
  refine ST0 ?_ ?_ (.inr ⟨rfl,by omega⟩)
  · rw [Jf (t:=t) (by omega),Jf (by simp)];unfold yA;simp [h1]
  · unfold yB;simp [h1,Y2];omega
 |lost h1 h2=>
  refine ST0 ?_ ?_ (.inr ⟨rfl,by omega⟩)
  · rw [Jf (t:=t) (by omega),JH (t:={t with word:=Q6 M (Q5 c t.i),st:=8}) (by simp),Jf (by simp)];unfold yA;simp [h1]
  · unfold yB;simp [h1];omega
 |unkeep s u h1 h2 h3 h4=>
  refine h.XJ h2 h3 h4 _ _ ?_
  have q:=(Kh h3).1 (by split<;>simp)
  rw [Jf (t:=t) (by omega),JH (t:={t with st:=2}) (by simp),Jf (by simp),q]
  unfold yA;simp [h1];omega
 |again h1 h2=>
  obtain ⟨s,b1,b2,b3⟩:=hwd h1
  have hi':=hi (by omega)
  have hm:mt c M t.i t.word=false:=by
   rw [←h.Ki hi']
   obtain ⟨u,hu⟩:∃u,Qj s (if s.st=4 then 6 else 8) t.w 0=some u:=by
    rcases b3 with b3|b3
    · rw [if_pos b3];exact KR (by rw [tw];omega) (t:=toV s 2 t.w) (by simp [chg,isV,b3])
    · rw [if_neg (by omega)];exact KR (by rw [tw];omega) (t:=toV s 0 t.w) (by simp [chg,isV,b3])
   exact h2 s u (by rw [b2];exact QO b1) hu
  refine ST0 ?_ ?_ (.inr ⟨rfl,by omega⟩)
  · rw [Jf (t:=t) (by omega),Jf (by simp)];unfold yA;simp [h1]
  · unfold yB;simp [h1,hm];omega
 |unpin h1=>
  rw [I _ (by omega) (by omega)]
  refine ST (h.ZE (by omega) (by omega)) (by rw [JH (t:=t) (by omega),Jf (t:=t) (by omega),JH (by simp),Jf (by simp)];omega) (by unfold yB;simp [h1]) (.inr ⟨rfl,by omega⟩)
 |done h1 h2=>exact absurd rfl hne
 |redo h1 h2=>
  refine .stay (by rw [JH (t:=t) (by omega),Jf (t:=t) (by omega),JH (by simp),Jf (by simp)];omega) ?_
  unfold yR yB yE;simp [h1,Ne.symm h2];omega
end
end Go.Proofs.YtgjklfmnmljilaaGreatDoor

/- A part of the proof. -/
import Derived.Test.YtgjklfmnmljilaaGreatDoorZR26
namespace Go.Proofs.YtgjklfmnmljilaaGreatDoor
set_option linter.unusedVariables false
set_option linter.unusedSimpArgs false
set_option linter.unusedSectionVars false
set_option linter.unnecessarySimpa false
set_option maxRecDepth 100000
set_option maxHeartbeats 8000000
section
open Go.RowKit
theorem Q5d (w:World) (g h:Option Addr) (c d:Nat) (L M:List Int) (ha:XM w g L) (hb:XM w h M):
 Calls Tryz.prog 110 #[.slice g L.length c,.slice h M.length d] w fun e w'=>e=.returned (.bool (decide (L=M)))∧Fr [] w w':=by
 have hl:=ha.1
 have hm:=hb.1
 by_cases hlen:L.length=M.length
 · by_cases hn:L=[]
   · subst hn
     have:M=[]:=List.eq_nil_of_length_eq_zero hlen.symm
     subst this
     go_in
     go_wp2
     go_loopw [13] (fun i wr=>i=.int .i64 0∧wr=w) (fun _ _=>0)
     case atStart=>exact ⟨rfl,rfl⟩
     case round=>
      obtain ⟨rfl,rfl⟩:=hrel
      go_wp2
      go_ret
      exact ⟨rfl,Fr.refl _ _⟩
   · have hn2:M≠[]:=fun e=>hn (List.eq_nil_of_length_eq_zero (by rw [hlen,e];rfl))
     obtain ⟨ba,oa,rfl,hca⟩:=ha.base hn
     obtain ⟨bb,ob,rfl,hcb⟩:=hb.base hn2
     have Ha:=Lib.hid hca;have Hb:=Lib.hid hcb;clear hca hcb hn hn2 ha hb hm
     rw [←hlen]
     obtain ⟨len,hl2⟩:∃n,n=L.length:=⟨_,rfl⟩
     rw [←hl2] at hl hlen ⊢
     have HL:=Lib.hid hl2;have HL2:=Lib.hid hlen;clear hl2 hlen
     go_in
     go_wp2
     go_loopw [13] (fun i wr=>∃k n:Nat,k≤len∧i=.int .i64 k∧wr=w.drewN n∧L.take k=M.take k) (fun i _=>len - (intOf i).toNat)
     case atStart=>exact ⟨0,0,Nat.zero_le _,rfl,rfl,rfl⟩
     case round=>
      obtain ⟨k,n,hk,rfl,rfl,hT⟩:=hrel
      have HT:=Lib.hid hT;clear hT
      by_cases hlt:k<len
      · have hx:=Hf (L:=L) (k:=k) (by rw [←HL.out];exact hlt)
        have hy:=Hf (L:=M) (k:=k) (by rw [←HL2.out];exact hlt)
        have ga:=Ha.out k _ hx
        have gb:=Hb.out k _ hy
        generalize L.getD k 0=x at ga hx
        generalize M.getD k 0=y at gb hy
        have HX:=Lib.hid hx;have HY:=Lib.hid hy;clear hx hy
        have hlt':(k:Int)<(len:Int):=Lb
        have hk0:(0:Int)≤(k:Int):=Lb
        by_cases he:x=y
        · subst he
          go_wp2
          go_quiet (fail)
          go_wp2
          go_roundw
          case rel=>exact ⟨k+1,_,Lb,by go_num,rfl,by rw [V8 HX.out,V8 HY.out,HT.out]⟩
          case measure=>simp [intOf];omega
        · have hne:=Lib.hid (show L≠M from fun e=>he (by have:=HX.out;rw [e,HY.out] at this;exact (Option.some.inj this).symm))
          go_wp2
          go_quiet (fail)
          go_wp2
          go_ret
          exact ⟨by rw [decide_eq_false hne.out];rfl,((Fr.refl _ _).drewN n).drewN _⟩
      · have heq:=Lib.hid (show L=M from by
         have:=HT.out
         rw [List.take_of_length_le (by have:=HL.out;omega),List.take_of_length_le (by have:=HL2.out;omega)] at this
         exact this)
        go_wp2
        go_ret
        exact ⟨by rw [decide_eq_true heq.out];rfl,(Fr.refl _ _).drewN n⟩
 · have hne:=Lib.hid (show L≠M from fun e=>hlen (by rw [e]))
   have hc:¬(L.length:Int)=(M.length:Int):=Lb
   clear hlen ha hb
   generalize L.length=a at hl hc ⊢
   generalize M.length=b at hm hc ⊢
   go_in
   go_wp2
   go_ret
   exact ⟨by rw [decide_eq_false hne.out];rfl,Fr.refl _ _⟩
end
section
open Go
section
variable {P:Program} {ops:Array Oper} {Q:Exit→Act→World→Prop} {md:Region.Mode} {S:World→Prop} {z:Nat}
def Zh (P:Program) (md:Region.Mode) (ops:Array Oper) (Q:Exit→Act→World→Prop) (z:Nat) (S:World→Prop):Nat→Array Bool→Act→World→Prop
 |0,listed,a,w=>Region.ready md ops listed=[]∧Q .normal a w
 |fuel+1,listed,a,w=>
  (Region.ready md ops listed=[]→Q .normal a w)∧
  ∀i∈Region.ready md ops listed,wpOp P ops Q i (fun a' w'=>(i=z∨S w')∧Zh P md ops Q z S fuel (listed.setIfInBounds i true) a' w') a w
theorem Vu:∀(fuel:Nat) (listed:Array Bool) (a:Act) (w:World),Zh P md ops Q z S fuel listed a w→wpAny P md ops Q fuel listed a w
 |0,_,_,_,h=>h
 |fuel+1,_,_,_,h=>⟨h.1,fun i hi=>wpOp_mono (fun a' w' h'=>Vu fuel _ a' w' h'.2) (h.2 i hi)⟩
def Blocked (md:Region.Mode) (ops:Array Oper) (listed:Array Bool) (i:Nat) (B:List Nat):Prop:=
 ∀k∈B,listed.getD k true=false∧∃o,ops[k]?=some o∧∃e∈o.after,Region.binds md e=true∧(e.on=i∨e.on∈B)
def Ux (md:Region.Mode) (ops:Array Oper) (listed:Array Bool) (i:Nat) (B:List Nat):Bool:=
 B.all fun k=> !listed.getD k true&&(match ops[k]? with|some o=>o.after.any (fun e=>Region.binds md e&&(e.on==i||B.contains e.on))|none=>false)
theorem D9 {listed:Array Bool} {i:Nat} {B:List Nat} (h:Ux md ops listed i B=true):Blocked md ops listed i B:=by
 intro k hk
 have:=List.all_eq_true.1 h k hk
 rw [Bool.and_eq_true] at this
 refine ⟨by simpa using this.1, ?_⟩
 have h2:=this.2
 cases ho:ops[k]? with
 |none=>rw [ho] at h2;cases h2
 |some o=>
  rw [ho] at h2
  obtain ⟨k,hk,hb⟩:=Array.any_eq_true.1 h2
  rw [Bool.and_eq_true] at hb
  exact ⟨o,rfl,o.after[k],Array.getElem_mem hk,hb.1,by simpa using hb.2⟩
theorem EP {l:Array Bool} {i:Nat} (h1:l.getD i false=true) (h0:l.getD i true=false):False:=by
 rcases Nat.lt_or_ge i l.size with h'|h'
 · simp [h'] at h0 h1;rw [h0] at h1;cases h1
 · simp [Array.getElem?_eq_none h'] at h1
theorem Blocked.out {listed:Array Bool} {i j:Nat} {B:List Nat} (h:Blocked md ops listed i B) (hi:listed.getD i true=false) (hj:j∈Region.ready md ops listed):j∉B:=by
 intro hB
 obtain ⟨_,o,ho,e,he,hb,hor⟩:=h j hB
 obtain ⟨_,o',ho',hall⟩:=mem_ready.1 hj
 rw [ho] at ho';cases ho'
 have h1:=hall e he hb
 rcases hor with rfl|h2
 · exact EP h1 hi
 · exact EP h1 (h _ h2).1
theorem DZ {i:Nat} {oi:Oper} {v:Value} {B:List Nat} (hi:ops[i]?=some oi) (hsel:∀(j:Nat) (o:Oper) cs b,ops[j]?=some o→o.op≠.select cs b)
 (hQ:∀c a w,Q (.panic c) (a.put oi.dst v) w→Q (.panic c) a w) (hz:z∈B) (hzi:i≠z):
 ∀(fuel:Nat) (listed:Array Bool) (a:Act) (w:World),
  (∀j oj,ops[j]?=some oj→j≠i→listed.getD j true=false→(∀e∈oj.after,Region.binds md e=true→e.on≠i)→oi.apart ops oj=true)→
  i∈Region.ready md ops listed→Blocked md ops listed i B→YieldsIf P ops S oi v a→S w→
  Zh P md ops Q z S fuel (listed.setIfInBounds i true) (a.put oi.dst v) w→Zh P md ops Q z S (fuel+1) listed a w:=by
 intro fuel
 induction fuel with
 |zero=>
  intro listed a w _ hr _ hy hS H
  refine ⟨fun h=>(by rw [h] at hr;cases hr),fun j hj=> ?_⟩
  by_cases hji:j=i
  · subst hji;exact hy.wpOp hi hS ⟨.inr hS,H⟩
  · have:=ready_mono hj hji
    rw [H.1] at this
    cases this
 |succ fuel ih=>
  intro listed a w hfree hr hB hy hS H
  have hun:=(mem_ready.1 hr).1
  refine ⟨fun h=>(by rw [h] at hr;cases hr),fun j hj=> ?_⟩
  by_cases hji:j=i
  · subst hji;exact hy.wpOp hi hS ⟨.inr hS,H⟩
  · have hjB:=hB.out hun hj
    have hjz:j≠z:=fun h=>hjB (h▸hz)
    have h1:=H.2 j (ready_mono hj hji)
    obtain ⟨hjun,oj,hoj,hall⟩:=mem_ready.1 hj
    have hnot:∀e∈oj.after,Region.binds md e=true→e.on≠i:=fun e he hb heq=>EP (heq▸hall e he hb) hun
    have h2:=wpOp_putIf hoj (hfree j oj hoj hji hjun hnot) (fun cs b=>hsel i oi cs b hi) (fun cs b=>hsel j oj cs b hoj) hQ hy h1
    have hfree':∀k ok,ops[k]?=some ok→k≠i→(listed.setIfInBounds j true).getD k true=false→
     (∀e∈ok.after,Region.binds md e=true→e.on≠i)→oi.apart ops ok=true:=fun k ok hk hki hun hno=>by
     refine hfree k ok hk hki ?_ hno
     by_cases hjk:j=k
     · subst hjk;exact hjun
     · rw [getD_set_ne true hjk] at hun;exact hun
    have hB':Blocked md ops (listed.setIfInBounds j true) i B:=fun k hk=>by
     have hjk:j≠k:=fun h=>hjB (h▸hk)
     obtain ⟨h0,hrest⟩:=hB k hk
     exact ⟨by rw [getD_set_ne true hjk];exact h0,hrest⟩
    refine wpOp_mono (fun a' w' h3=> ?_) h2
    have hS':S w':=h3.2.1.resolve_left hjz
    refine ⟨.inr hS',ih (listed.setIfInBounds j true) a' w' hfree' (ready_mono hr (Ne.symm hji)) hB' h3.1 hS' ?_⟩
    rw [Array.setIfInBounds_comm _ _ hji]
    exact h3.2.2
def Wx (md:Region.Mode) (ops:Array Oper) (listed:Array Bool) (i:Nat):List Nat:=
 (List.range ops.size).foldl (fun B k=>if !listed.getD k true&&(match ops[k]? with|some o=>o.after.any (fun e=>Region.binds md e&&(e.on==i||B.contains e.on))|none=>false) then k::B else B) []
theorem JX {i:Nat} {oi:Oper} {v:Value} {fuel:Nat} {listed:Array Bool} {a:Act} {w:World} (hi:ops[i]?=some oi)
 (hs:Region.noSelect ops=true) (hf:Region.free md ops listed i=true) (hr:(Region.ready md ops listed).contains i=true)
 (hB:((Wx md ops listed i).contains z&&decide (i≠z)&&Ux md ops listed i (Wx md ops listed i))=true)
 (hQ:∀c a w,Q (.panic c) (a.put oi.dst v) w→Q (.panic c) a w) (hy:YieldsIf P ops S oi v a) (hS:S w)
 (h:Zh P md ops Q z S fuel (listed.setIfInBounds i true) (a.put oi.dst v) w):Zh P md ops Q z S (fuel+1) listed a w:=by
 rw [Bool.and_eq_true,Bool.and_eq_true] at hB
 exact DZ hi (Region.noSelect_spec hs) hQ (by simpa using hB.1.1) (of_decide_eq_true hB.1.2) fuel listed a w (Region.free_spec hi hf) (by simpa using hr) (D9 hB.2) hy hS h
theorem V5 {i:Nat} {o:Oper} {fuel:Nat} {listed:Array Bool} {a:Act} {w:World} (hr:Region.ready md ops listed=[i]) (ho:ops[i]?=some o)
 (h:∀K':Act→World→Prop,Shut (∀a w,S w→(S w→Zh P md ops Q z S fuel (listed.setIfInBounds i true) a w)→K' a w)→if Region.wanted o (yielded ops a.tmps)=true then Oper.wp P o a w K' Q else K' (a.put o.dst undef) w):
 Zh P md ops Q z S (fuel+1) listed a w:=by
 refine ⟨fun h0=>(by rw [hr] at h0;cases h0),fun j hj=> ?_⟩
 rw [hr] at hj
 obtain rfl:=List.mem_singleton.1 hj
 exact wpOp_step ho (fun K' hK=>h K' (fun a w hS hW=>hK a w ⟨.inr hS,hW hS⟩))
theorem Gn {o:Oper} {fuel:Nat} {listed:Array Bool} {a:Act} {w:World} (hr:Region.ready md ops listed=[z]) (ho:ops[z]?=some o)
 (h:∀K':Act→World→Prop,Shut (∀a w,Zh P md ops Q z S fuel (listed.setIfInBounds z true) a w→K' a w)→if Region.wanted o (yielded ops a.tmps)=true then Oper.wp P o a w K' Q else K' (a.put o.dst undef) w):
 Zh P md ops Q z S (fuel+1) listed a w:=by
 refine ⟨fun h0=>(by rw [hr] at h0;cases h0),fun j hj=> ?_⟩
 rw [hr] at hj
 obtain rfl:=List.mem_singleton.1 hj
 exact wpOp_step ho (fun K' hK=>h K' (fun a w hW=>hK a w ⟨.inl rfl,hW⟩))
theorem Gp {listed:Array Bool} {a:Act} {w:World} (hr:Region.ready md ops listed=[]) (h:Q .normal a w):
 ∀fuel,Zh P md ops Q z S fuel listed a w
 |0=>⟨hr,h⟩
 |_+1=>⟨fun _=>h,by rw [hr];simp⟩
theorem Vp {id:Nat} {a:Act} {w:World} (hm:P.follows .mixedOrders=true) (hS:S w.drew)
 (h:S w.drew→Zh P .any ops Q z S ops.size (Array.replicate ops.size false) a w.drew):(Code.region id ops true).wp P Q a w:=
 wp_region_any hm (Vu _ _ _ _ (h hS))
end
section
variable {P:Program} {ops:Array Oper} {Q:Exit→Act→World→Prop} {md:Region.Mode} {S:World→Prop} {z:Nat}
theorem tkz (i:Nat) {oi:Oper} {v:Value} {fuel:Nat} {listed l':Array Bool} {a a':Act} {w:World} (h:Zh P md ops Q z S fuel l' a' w)
 (hi:ops[i]?=some oi:=by
   simp only [List.getElem?_toArray,List.getElem?_cons_succ,List.getElem?_cons_zero]
   exact rfl)
 (hs:Region.noSelect ops=true:=by kernel_rfl) (hf:Region.free md ops listed i=true:=by kernel_rfl) (hr:(Region.ready md ops listed).contains i=true:=by kernel_rfl)
 (hB:((Wx md ops listed i).contains z&&decide (i≠z)&&Ux md ops listed i (Wx md ops listed i))=true:=by kernel_rfl)
 (hQ:∀c a w,Q (.panic c) (a.put oi.dst v) w→Q (.panic c) a w:=by exact fun _ _ _ h=>h)
 (hw:Region.wanted oi (yielded ops a.tmps)=true:=by rfl)
 (hy:∀w,S w→(execOp a.eval oi).run P w=.ok (.value v) w:=by
   intro w hSw
   try dsimp only at hSw
   try simp only [List.getElem_toArray,List.getElem_cons_succ,List.getElem_cons_zero]
   go_split_ands
   go_simp
   try with_reducible rfl)
 (hS:S w:=by assumption)
 (ha:a.put oi.dst v=a':=by
   try simp only [Act.put,List.getElem_toArray,List.getElem_cons_succ,List.getElem_cons_zero,List.setIfInBounds_toArray,List.set_cons_zero,List.set_cons_succ]
   exact rfl)
 (hl:listed.setIfInBounds i true=l':=by
   try simp only [List.setIfInBounds_toArray,List.set_cons_zero,List.set_cons_succ]
   exact rfl):Zh P md ops Q z S (fuel+1) listed a w:=by
 subst ha hl
 exact JX hi hs hf hr hB hQ (.inl ⟨hw,hy⟩) hS h
end
end
section
open Go.RowKit
structure TwS where
 r:List Int
 l:List Int
 n:Int
 d:Bool
def TwS.step (S:Nat) (x:Int) (s:TwS):TwS:=
 if s.d then s else if (s.r++[x]).length<S then {s with r:=s.r++[x]} else ⟨[],s.r++[x],s.n+1,decide (0<s.n)&&decide (s.r++[x]=s.l)⟩
theorem Q6V:(Tryz.prog.info? 3).map (fun i=>(i.zero,i.size,i.bytes))=some (some (.int .i64 0),1,8):=by kernel_rfl
theorem DY {P:Program} (w:World) {o:Oper} {a:Act} {K:Act→World→Prop} {Q:Exit→Act→World→Prop} (s x:Operand) (t:TypeId)
 (ho:o.op=.call {callee:=.builtin .append,args:=#[s,x],argTypes:=#[t,t]})
 (base:Nat) (e:TypeId) (i:TypeInfo) (z:Value) (size bytes:Nat) (ht:P.underlying t=some (.slice e)) (hi:P.info? e=some i) (hz:i.zero=some z)
 (hsize:i.size=size) (hby:i.bytes=bytes) (hzs:z.cells.size=size) (hsz:0<size)
 (v:Value) (n:Nat) (xs:List Value) (hs:a.eval s=v) (hown:w.ownsRow base e size v n xs)
 (ad:Addr) (m c:Nat) (news:List Value) (hx:a.eval x=.slice (some ad) m c) (hl:news.length=m*size) (hnews:∀j u,news[j]?=some u→w.cell? (ad.add j)=some u) (h1:∀u∈news,u.oneCell'=true)
 (h63:n+m≤maxLen) (hbytes:(n+m)*bytes≤140737488355328) (hbase:base≤w.heap.size)
 (h:∀v' w',w'.ownsRow base e size v' (n+m) (xs++news)→w.grownBy w' v.ownBlock→(v'.ownBlock=v.ownBlock∨v'.ownBlock=some w.heap.size)→K (a.put o.dst v') w'):o.wp P a w K Q:=by
 obtain ⟨v',w',hr,h2,h3,_,h5⟩:=run_append_own_at (P:=P) w base t o.type e i z size bytes ht hi hz hsize hby hzs hsz v n xs hown ad m c news hl hnews h1 h63 hbytes hbase
 unfold Oper.wp execOp
 simp only [ho,resolve,invoke,builtin,Sem.run_bind,Sem.run_pure,Result.andThen_ok,List.map_toArray,List.map_cons,List.map_nil,hs,hx,hr]
 exact h v' w' h2 h3 h5
def Hu (w:World) (p pm qm:Nat) (c:Q0) (vR vL:Value) (s:TwS) (M:List Int) (t:Int) (s':TwS) (t':Int) (e:Ending) (w':World):Prop:=
 ∃vR' vL',e=.returned (.bool s'.d)∧Yz w' p c vR' vL' s'.r s'.l s'.n s'.d∧QJ 112 w' pm qm M t'∧Fr (p::pm::qm::vR.ownBlock.toList) w w'∧
  (∀b,vR'.ownBlock=some b→vR.ownBlock=some b∨w.heap.size≤b)∧(∀b,vL'.ownBlock=some b→vL.ownBlock=some b∨w.heap.size≤b)
theorem own6 {w w5 w6:World} {p pm qm:Nat} {c:Q0} {gR:Option Addr} {k cR:Nat} {vL:Value} {R La:List Int} {n:Int} {d:Bool} (hT:Yz w p c (.slice gR R.length cR) vL R La n d) (hk:k=R.length)
 (f5:Fr [] w.drew w5) (f6:Fr [pm,qm] w5 w6) (hr:∀b,(Value.slice gR R.length cR).ownBlock=some b→b∉[pm,qm]) (o:Obj):(w6.alloc o).ownsRow 0 3 1 (.slice gR k cR) k (R.map (Value.int .i64)):=by
 subst hk
 exact ((hT.r.fr (((Fr.refl [] w).drew.trans f5)) Lc).fr f6 hr).fr ((Fr.refl [] w6).alloc o) Lc
structure Mid (w w9:World) (p pm qm:Nat) (c:Q0) (vR vL v7:Value) (R1 La:List Int) (n:Int) (M:List Int) (t:Int):Prop where
 b:w9.heap[p]?=some (.cells #[.int .i64 c.wo,.int .i64 c.sl,.int .i64 c.st,.int .i64 c.wa,.int .i64 c.us,v7,vL,.int .i64 n,.bool false] 165)
 r:V4 w9 v7 R1
 l:V4 w9 vL La
 m:QJ 112 w9 pm qm M t
 f:Fr (p::pm::qm::vR.ownBlock.toList) w w9
 hp:v7.ownBlock≠some p
 hl:vL.ownBlock≠some p
 nb:∀b,v7.ownBlock=some b→vR.ownBlock=some b∨w.heap.size≤b
 lb:∀b,vL.ownBlock=some b→b<w.heap.size∧vR.ownBlock≠some b
theorem Kt {w:World} {B e s:Nat} {v:Value} {n:Nat} {xs:List Value} (h:w.ownsRow B e s v n xs):∃g cap,v=.slice g n cap:=by
 rcases h.2 with ⟨rfl,rfl⟩|⟨g,cap,cur,rfl, -⟩
 · exact ⟨_,_,rfl⟩
 · exact ⟨_,_,rfl⟩
theorem at7 {w w5 w6 w7:World} {p pm qm:Nat} {c:Q0} {vR vL:Value} {R La:List Int} {n:Int} (hT:Yz w p c vR vL R La n false)
 (f5:Fr [] w.drew w5) (f6:Fr [pm,qm] w5 w6) (hpm:p≠pm∧p≠qm) (o:Obj) (hg:(w6.alloc o).grownBy w7 vR.ownBlock):
 w7.heap[p]?=some (.cells #[.int .i64 c.wo,.int .i64 c.sl,.int .i64 c.st,.int .i64 c.wa,.int .i64 c.us,vR,vL,.int .i64 n,.bool false] 165):=by
 have fa:Fr [pm,qm] w (w6.alloc o):=((((Fr.refl [] w).drew.trans f5).mono Lc).trans f6).alloc o
 have F7:Fr (pm::qm::vR.ownBlock.toList) w w7:=(fa.mono (by simp+contextual)).grown hg (fun k hk=>.inl (by simp [hk]))
 refine F7.at hT.b ?_
 simp only [List.mem_cons,not_or,Option.mem_toList]
 exact ⟨hpm.1,hpm.2,hT.hr⟩
theorem mid_of {w w5 w6 w7:World} {p pm qm:Nat} {c:Q0} {gR:Option Addr} {k cR:Nat} {vL v7:Value} {R La:List Int} {n x:Int} {M:List Int} {t t' t0:Int} (hT:Yz w p c (.slice gR R.length cR) vL R La n false) (hk:k=R.length)
 (f5:Fr [] w.drew w5) (h6:Left 112 pm qm M t' w5 w6) (ht:t'=t) (hM:QJ 112 w pm qm M t0) (hpm:p≠pm∧p≠qm) (hr:∀b,(Value.slice gR R.length cR).ownBlock=some b→b∉[pm,qm]) (hlb:vL.ownBlock≠some pm∧vL.ownBlock≠some qm)
 (o:Obj) (hown:w7.ownsRow 0 3 1 v7 (k+1) (R.map (Value.int .i64)++[.int .i64 x])) (hg:(w6.alloc o).grownBy w7 (Value.slice gR k cR).ownBlock) (hat:v7.ownBlock=(Value.slice gR k cR).ownBlock∨v7.ownBlock=some (w6.alloc o).heap.size):
 Mid w (w7.setCell ⟨p,5,none⟩ v7) p pm qm c (.slice gR R.length cR) vL v7 (R++[x]) La n M t:=by
 subst hk ht
 obtain ⟨hm6,f6⟩:=h6
 generalize hvR:Value.slice gR R.length cR=vR at hT hr hg hat ⊢
 have hmlt:pm<w.heap.size∧qm<w.heap.size:=by obtain ⟨cap,cur,h⟩:=hM;exact ⟨h.plt,h.qlt⟩
 have f6':Fr [pm,qm] w w6:=(((Fr.refl [] w).drew.trans f5).mono Lc).trans f6
 have fa:Fr [pm,qm] w (w6.alloc o):=f6'.alloc o
 have F7:Fr (pm::qm::vR.ownBlock.toList) w w7:=(fa.mono (by simp+contextual)).grown hg (fun k hk=>.inl (by simp [hk]))
 have fg:Fr vR.ownBlock.toList w6 w7:=(((Fr.refl _ w6).alloc o)).grown hg (fun k hk=>.inl (by simp [hk]))
 have hpv:v7.ownBlock≠some p:=fun e=>by
  rcases hat with h|h
  · exact hT.hr (h▸e)
  · rw [h] at e
    have h1:=fa.size
    have h2:=Q9 hT.b
    injection e with e
    omega
 have hpS:p∉pm::qm::vR.ownBlock.toList:=by
  simp only [List.mem_cons,not_or,Option.mem_toList]
  exact ⟨hpm.1,hpm.2,hT.hr⟩
 have fs:Fr [p] w7 (w7.setCell ⟨p,5,none⟩ v7):=(Fr.refl _ _).setCell (.inl Lc) _
 refine ⟨heap_setCell_same (F7.at hT.b hpS) v7, ?_, ?_, ?_, ?_,hpv,hT.hl,fun b hb=> ?_,fun b hb=>⟨(hT.l.lt b hb).2,fun h=>hT.hrl b h hb⟩⟩
 · have:V4 w7 v7 (R++[x]):=by unfold V4;simpa using hown
   exact this.fr fs (fun b hb=>by simp;exact fun h=>hpv (h▸hb))
 · refine (hT.l.fr F7 (fun b hb=> ?_)).fr fs (fun b hb=>by simp;exact fun h=>hT.hl (h▸hb))
   simp only [List.mem_cons,not_or,Option.mem_toList]
   exact ⟨fun h=>hlb.1 (h▸hb),fun h=>hlb.2 (h▸hb),fun h=>hT.hrl b h hb⟩
 · refine (hm6.fr fg ?_ ?_).fr fs (by simp;exact Ne.symm hpm.1) (by simp;exact Ne.symm hpm.2)
   · intro h;exact hr pm (by simpa using h) Lc
   · intro h;exact hr qm (by simpa using h) Lc
 · exact (F7.mono (by simp+contextual)).trans (fs.mono Lc)
 · rcases hat with h|h
   · exact .inl (h▸hb)
   · rw [h] at hb
     injection hb with hb
     exact .inr (by have:=fa.size;omega)
theorem Q8j {c:Q0} {M:List Int} {k:Int} (hc:c.fits) (hml:(M.length:Int)=c.cells) (h0:0≤k) (h1:k<c.sl):tch M (c.slot k)=1:=by
 obtain ⟨h2, -⟩:=hc
 unfold tch
 rw [if_pos (Jf (by unfold Q0.slot;omega) (by unfold Q0.slot;unfold Q0.cells at hml;omega))]
theorem Q8C {w w9 w':World} {p pm qm:Nat} {c:Q0} {vR vL v7:Value} {R La:List Int} {n x:Int} {M:List Int} {t:Int} {k:Nat} (h:Mid w w9 p pm qm c vR vL v7 (R++[x]) La n M (t+1)) (hT:∀b,v7.ownBlock=some b→vL.ownBlock≠some b) (f:Fr [] w9 w')
 (hk:k=R.length) (hlk:((k+1:Nat):Int)<c.sl):
 Hu w p pm qm c vR vL ⟨R,La,n,false⟩ M t (TwS.step c.sl.toNat x ⟨R,La,n,false⟩) (t+1) (.returned (.bool false)) w':=by
 have hs:TwS.step c.sl.toNat x ⟨R,La,n,false⟩=⟨R++[x],La,n,false⟩:=by
  unfold TwS.step
  rw [if_neg Lc,if_pos (by simp only [List.length_append,List.length_singleton];omega)]
 rw [hs]
 exact ⟨v7,vL,rfl,⟨f.at h.b Lc,h.r.fr f Lc,h.l.fr f Lc,h.hp,h.hl,hT⟩,h.m.fr f Lc Lc,h.f.trans (f.mono Lc),h.nb,fun b hb=>.inl hb⟩
theorem Q3l {w w9 w':World} {p pm qm:Nat} {c:Q0} {vR vL v7 v8:Value} {R La:List Int} {n x:Int} {M:List Int} {t:Int} {k:Nat} {d:Bool} (h:Mid w w9 p pm qm c vR vL v7 (R++[x]) La n M (t+1)) (hpm:p≠pm∧p≠qm) (f:Fr [p] w9 w')
 (hk:k=R.length) (hlk:¬((k+1:Nat):Int)<c.sl) (hb:w'.heap[p]?=some (.cells #[.int .i64 c.wo,.int .i64 c.sl,.int .i64 c.st,.int .i64 c.wa,.int .i64 c.us,.slice none 0 0,v8,.int .i64 (n+1),.bool d] 165))
 (h8:V4 w' v8 (R++[x])) (h8n:∀b,v8.ownBlock=some b→w9.heap.size≤b) (hd:d=(decide (0<n)&&decide (R++[x]=La))):
 Hu w p pm qm c vR vL ⟨R,La,n,false⟩ M t (TwS.step c.sl.toNat x ⟨R,La,n,false⟩) (t+1) (.returned (.bool d)) w':=by
 have hs:TwS.step c.sl.toNat x ⟨R,La,n,false⟩=⟨[],R++[x],n+1,d⟩:=by
  unfold TwS.step
  rw [if_neg Lc,if_neg (by simp only [List.length_append,List.length_singleton];omega),hd]
 rw [hs]
 have hsz:=h.f.size
 refine ⟨.slice none 0 0,v8,rfl,⟨hb,World.ownsRow_nil _ _ _ _,h8,by simp [Value.ownBlock],fun e=> ?_,by simp [Value.ownBlock]⟩,h.m.fr f (by simp;exact Ne.symm hpm.1) (by simp;exact Ne.symm hpm.2),h.f.trans (f.mono Lc),by simp [Value.ownBlock],fun b hb=>.inr (Nat.le_trans hsz (h8n b hb))⟩
 have:=h8n p e
 have:=Q9 h.b
 omega
theorem dup7 {w9 W:World} {p:Nat} {g7:Option Addr} {k c7:Nat} {L:List Int} (h:V4 w9 (.slice g7 (k+1) c7) L) (hl:L.length=k+1) (hk:k+1≤10000) (hp:(Value.slice g7 (k+1) c7).ownBlock≠some p) (f:Fr [p] w9 W):
 Calls Tryz.prog 111 #[.slice g7 (k+1) c7] W (Vo W L):=by
 obtain ⟨g,c',hv,hI, -⟩:=(h.fr f (fun b hb=>by simp;exact fun e=>hp (e▸hb))).ints
 injection hv with h1 h2 h3
 subst h1 h3
 rw [←hl]
 exact Q3u W g7 c7 L Lb (fun e=>by rw [e] at hl;cases hl) hI
theorem Q64 (w:World) (p pm qm:Nat) (c:Q0) (vR vL:Value) (s:TwS) (M:List Int) (t:Int) (hc:c.fits) (hT:Yz w p c vR vL s.r s.l s.n s.d) (hM:QJ 112 w pm qm M t)
 (ht0:0≤t) (ht1:t≤1000000000) (hn0:0≤s.n) (hn1:s.n≤1000000000) (hml:(M.length:Int)=c.cells) (hrl:(s.r.length:Int)<c.sl) (hpm:p≠pm∧p≠qm) (hr:vR.ownBlock≠some pm∧vR.ownBlock≠some qm) (hlb:vL.ownBlock≠some pm∧vL.ownBlock≠some qm):
 Calls Tryz.prog 76 #[.pointer (some ⟨p,0,none⟩),.pointer (some ⟨pm,0,none⟩)] w
  (Hu w p pm qm c vR vL s M t (s.step c.sl.toNat (Q6 M (c.slot s.r.length))) (if s.d then t else t+1)):=by
 obtain ⟨i0,hi,hz0,hz1,hz2⟩:=info_parts Q6V
 obtain ⟨R,La,n,d⟩:=s
 simp only at hT hn0 hn1 hrl
 cases d with
 |true=>
  have q8:w.cell? ⟨p,8,none⟩=some (.bool true):=cell_of hT.b rfl
  have HP:=Lib.hid (show Hu w p pm qm c vR vL ⟨R,La,n,true⟩ M t (TwS.step c.sl.toNat (Q6 M (c.slot R.length)) ⟨R,La,n,true⟩) (if true=true then t else t+1) (.returned (.bool true)) w from
   ⟨vR,vL,rfl,hT,hM,Fr.refl _ _,fun b hb=>.inl hb,fun b hb=>.inl hb⟩)
  clear hT hM
  go_in
  go_wp2
  go_ret
  exact HP.out
 |false=>
  obtain ⟨gR,cR,rfl,hIR,hcR⟩:=hT.r.ints
  obtain ⟨k,hk⟩:∃k,k=R.length:=⟨_,rfl⟩
  have hsl:=hc.2.1
  rw [←hk] at hrl
  have hk5:k<16:=Lb
  have q8:w.cell? ⟨p,8,none⟩=some (.bool false):=cell_of hT.b rfl
  have a0:w.cell? ⟨p,0,none⟩=some (.int .i64 c.wo):=cell_of hT.b rfl
  have a1:w.cell? ⟨p,1,none⟩=some (.int .i64 c.sl):=cell_of hT.b rfl
  have a2:w.cell? ⟨p,2,none⟩=some (.int .i64 c.st):=cell_of hT.b rfl
  have a3:w.cell? ⟨p,3,none⟩=some (.int .i64 c.wa):=cell_of hT.b rfl
  have a4:w.cell? ⟨p,4,none⟩=some (.int .i64 c.us):=cell_of hT.b rfl
  have a5:w.cell? ⟨p,5,none⟩=some (.slice gR k cR):=by rw [hk];exact cell_of hT.b rfl
  have HSL:=Lib.hid (fun W:World=>Q5p W c k hc Lb hrl)
  have HMEM:=Lib.hid (fun (W:World) (h:QJ 112 W pm qm M t)=>XG W pm qm M t (c.slot k) h ht0 Lb)
  have hrb:∀b,(Value.slice gR R.length cR).ownBlock=some b→b∉[pm,qm]:=fun b hb=>by
   simp only [List.mem_cons,List.not_mem_nil,or_false,not_or]
   exact ⟨fun h=>hr.1 (h▸hb),fun h=>hr.2 (h▸hb)⟩
  have hrp2:some p≠(Value.slice gR k cR).ownBlock:=by rw [hk];exact Ne.symm hT.hr
  have HRP:=Lib.hid hrb;have HRP2:=Lib.hid hrp2
  clear hrb hrp2
  have HT:=Lib.hid hT;have HM:=Lib.hid hM;have HK:=Lib.hid hk;have HLB:=Lib.hid hlb;have HRL:=Lib.hid hrl
  have HTC:=Lib.hid (Q8j hc hml (show (0:Int)≤(k:Int) by omega) hrl)
  have HC:=Lib.hid hc;have HPM:=Lib.hid hpm
  clear hT hM hIR hk
  go_in
  go_wp2_with fail
  refine Vp (z:=21) (S:=fun w'=>w'.cell? ⟨p,0,none⟩=some (.int .i64 c.wo)∧w'.cell? ⟨p,1,none⟩=some (.int .i64 c.sl)∧w'.cell? ⟨p,2,none⟩=some (.int .i64 c.st)∧w'.cell? ⟨p,3,none⟩=some (.int .i64 c.wa)∧w'.cell? ⟨p,4,none⟩=some (.int .i64 c.us)∧w'.cell? ⟨p,5,none⟩=some (.slice gR k cR)) (by kernel_rfl) ⟨a0,a1,a2,a3,a4,a5⟩ (fun hHeld=> ?_)
  refine tkz 0 ?_
  refine tkz 1 ?_
  refine tkz 2 ?_
  refine tkz 3 ?_
  refine tkz 4 ?_
  refine tkz 5 ?_
  refine tkz 6 ?_
  refine tkz 7 ?_
  refine tkz 8 ?_
  refine tkz 9 ?_
  refine tkz 10 ?_
  refine tkz 11 ?_
  refine tkz 12 ?_
  refine tkz 13 ?_
  refine tkz 14 ?_
  refine V5 (i:=15) (o:=_) (by kernel_rfl) rfl (fun K hK=> ?_)
  simp only [List.getElem_toArray,List.getElem_cons_succ,List.getElem_cons_zero]
  go_simp
  refine (HSL.out _).mono ?_
  rintro e w5 ⟨rfl,f5⟩
  go_wp2_with fail
  refine hK.out _ _ ⟨f5.cell a0 Lc,f5.cell a1 Lc,f5.cell a2 Lc,f5.cell a3 Lc,f5.cell a4 Lc,f5.cell a5 Lc⟩ (fun hHeld=> ?_)
  clear hK K
  try simp only [Act.put,List.getElem_toArray,List.getElem_cons_succ,List.getElem_cons_zero,List.setIfInBounds_toArray,List.set_cons_zero,List.set_cons_succ]
  refine V5 (i:=16) (o:=_) (by kernel_rfl) rfl (fun K hK=> ?_)
  simp only [List.getElem_toArray,List.getElem_cons_succ,List.getElem_cons_zero]
  go_simp
  refine ((HMEM.out _ (HM.out.drew.fr f5 Lc Lc))).mono ?_
  rintro e w6 ⟨rfl,h6⟩
  have H6:=Lib.hid h6
  have f6:=h6.2
  have hp6:p∉[pm,qm]:=by simp;exact hpm
  go_wp2_with fail
  refine hK.out _ _ ⟨f6.cell (f5.cell a0 Lc) hp6,f6.cell (f5.cell a1 Lc) hp6,f6.cell (f5.cell a2 Lc) hp6,f6.cell (f5.cell a3 Lc) hp6,f6.cell (f5.cell a4 Lc) hp6,f6.cell (f5.cell a5 Lc) hp6⟩ (fun hHeld=> ?_)
  clear hK K
  try simp only [Act.put,List.getElem_toArray,List.getElem_cons_succ,List.getElem_cons_zero,List.setIfInBounds_toArray,List.set_cons_zero,List.set_cons_succ]
  refine V5 (i:=17) (o:=_) (by kernel_rfl) rfl (fun K hK=> ?_)
  simp only [List.getElem_toArray,List.getElem_cons_succ,List.getElem_cons_zero]
  go_simp
  refine hK.out _ _ ⟨((Fr.refl [] w6).alloc _).cell (f6.cell (f5.cell a0 Lc) hp6) Lc,((Fr.refl [] w6).alloc _).cell (f6.cell (f5.cell a1 Lc) hp6) Lc,((Fr.refl [] w6).alloc _).cell (f6.cell (f5.cell a2 Lc) hp6) Lc,((Fr.refl [] w6).alloc _).cell (f6.cell (f5.cell a3 Lc) hp6) Lc,((Fr.refl [] w6).alloc _).cell (f6.cell (f5.cell a4 Lc) hp6) Lc,((Fr.refl [] w6).alloc _).cell (f6.cell (f5.cell a5 Lc) hp6) Lc⟩ (fun hHeld=> ?_)
  clear hK K
  try simp only [Act.put,List.getElem_toArray,List.getElem_cons_succ,List.getElem_cons_zero,List.setIfInBounds_toArray,List.set_cons_zero,List.set_cons_succ]
  refine V5 (i:=18) (o:=_) (by kernel_rfl) rfl (fun K hK=> ?_)
  simp only [List.getElem_toArray,List.getElem_cons_succ,List.getElem_cons_zero]
  rw [if_pos (by rfl)]
  have HO6:=own6 HT.out HK.out f5 f6 HRP.out (.cells #[.int .i64 (Q6 M (c.slot k))] 3)
  refine DY _ _ _ 44 rfl 0 3 i0 (.int .i64 0) 1 8 Tryz.underlying44 hi hz0 hz1 hz2 rfl (by decide) _ _ _ rfl HO6 ⟨w6.heap.size,0,none⟩ 1 1 [.int .i64 (Q6 M (c.slot k))] rfl rfl (cell_one_new w6 _ _) (fun u hu=>by obtain rfl:=List.mem_singleton.1 hu;rfl) (by unfold maxLen;omega) Lb (Nat.zero_le _) ?_
  intro v7 w7 hown7 hgrow hat
  obtain ⟨g7,c7,rfl⟩:=Kt hown7
  have hrp:=HRP2.out
  refine hK.out _ _ ⟨hgrow.cell (((Fr.refl [] w6).alloc _).cell (f6.cell (f5.cell a0 Lc) hp6) Lc) hrp,hgrow.cell (((Fr.refl [] w6).alloc _).cell (f6.cell (f5.cell a1 Lc) hp6) Lc) hrp,hgrow.cell (((Fr.refl [] w6).alloc _).cell (f6.cell (f5.cell a2 Lc) hp6) Lc) hrp,hgrow.cell (((Fr.refl [] w6).alloc _).cell (f6.cell (f5.cell a3 Lc) hp6) Lc) hrp,hgrow.cell (((Fr.refl [] w6).alloc _).cell (f6.cell (f5.cell a4 Lc) hp6) Lc) hrp,hgrow.cell (((Fr.refl [] w6).alloc _).cell (f6.cell (f5.cell a5 Lc) hp6) Lc) hrp⟩ (fun hHeld=> ?_)
  clear hK K
  try simp only [Act.put,List.getElem_toArray,List.getElem_cons_succ,List.getElem_cons_zero,List.setIfInBounds_toArray,List.set_cons_zero,List.set_cons_succ]
  refine tkz 19 ?_
  refine tkz 20 ?_
  refine Gn (o:=_) (by kernel_rfl) rfl (fun K hK=> ?_)
  simp only [List.getElem_toArray,List.getElem_cons_succ,List.getElem_cons_zero]
  have h7b:=at7 HT.out f5 H6.out.2 HPM.out _ (by rw [←HK.out];exact hgrow)
  have h7c:w7.cell? ⟨p,5,none⟩=some _:=cell_of h7b rfl
  have h7f:=Qb (i:=5) h7b
  clear h7b
  go_simp
  refine hK.out _ _ ?_
  clear hK K
  try simp only [Act.put,List.getElem_toArray,List.getElem_cons_succ,List.getElem_cons_zero,List.setIfInBounds_toArray,List.set_cons_zero,List.set_cons_succ]
  refine Gp (by kernel_rfl) ?_ _
  have hmid:=mid_of HT.out HK.out f5 H6.out (show t+tch M (c.slot (k:Int))=t+1 by rw [HTC.out]) HM.out HPM.out HRP.out HLB.out _ hown7 hgrow hat
  have HMID:=Lib.hid hmid
  clear hmid hown7 hgrow hat hrp hHeld h7c h7f a0 a1 a2 a3 a4 a5 q8
  generalize w7.setCell ⟨p,5,none⟩ (.slice g7 (k+1) c7)=w9 at HMID ⊢
  have b1:w9.cell? ⟨p,1,none⟩=some (.int .i64 c.sl):=cell_of HMID.out.b rfl
  have b2:w9.cell? ⟨p,5,none⟩=some (.slice g7 (k+1) c7):=cell_of HMID.out.b rfl
  have hlk:(((k+1:Nat):Int)<c.sl)∨¬(((k+1:Nat):Int)<c.sl):=Lb
  have hT7:∀b,(Value.slice g7 (k+1) c7).ownBlock=some b→vL.ownBlock≠some b:=fun b hb h=>by
   have h1:=HMID.out.lb b h
   rcases HMID.out.nb b hb with h2|h2
   · exact h1.2 h2
   · omega
  have HT7:=Lib.hid hT7
  clear hT7
  rcases hlk with hlk|hlk
  · go_wp2_with fail
    go_region_held3 (fun w'=>w'.cell? ⟨p,1,none⟩=some (.int .i64 c.sl)∧w'.cell? ⟨p,5,none⟩=some (.slice g7 (k+1) c7)) (first|go_keep) (fail)
    go_wp2
    go_ret
    have hp:=Q8C HMID.out HT7.out ((Fr.refl [] w9).drew) HK.out hlk
    rw [HK.out] at hp
    exact hp
  · obtain ⟨gL,cL,hvL,hIL, -⟩:=HMID.out.l.ints
    subst hvL
    have hI7:XM w9 g7 (R++[Q6 M (c.slot k)]):=by
     obtain ⟨g,c',hv,hI, -⟩:=HMID.out.r.ints
     injection hv with hv _ _
     subst hv
     exact hI
    have hlen:(R++[Q6 M (c.slot k)]).length=k+1:=by rw [List.length_append,List.length_singleton,HK.out]
    have b0:w9.cell? ⟨p,7,none⟩=some (.int .i64 n):=cell_of HMID.out.b rfl
    have b3:w9.cell? ⟨p,6,none⟩=some (.slice gL La.length cL):=cell_of HMID.out.b rfl
    have b8:w9.cell? ⟨p,8,none⟩=some (.bool false):=cell_of HMID.out.b rfl
    have b8f:=Qb (i:=8) HMID.out.b
    clear HSL HMEM HRP HRP2 HM HRL HTC HC HLB f5 f6 H6 h6 HO6 hp6
    have HEQ:=Lib.hid (fun (W:World) (f:Fr [] w9 W)=>Q5d W g7 gL c7 cL (R++[Q6 M (c.slot k)]) La (hI7.fr f Lc) (hIL.fr f Lc))
    rw [hlen] at HEQ
    clear hI7 hIL
    go_wp2_with fail
    go_region_held3 (fun w'=>w'.cell? ⟨p,1,none⟩=some (.int .i64 c.sl)∧w'.cell? ⟨p,5,none⟩=some (.slice g7 (k+1) c7)) (first|go_keep) (fail)
    go_wp2_with fail
    rcases (show 0<n∨¬0<n by omega) with hpos|hpos
    · go_region_held3 (fun w'=>w'.cell? ⟨p,5,none⟩=some (.slice g7 (k+1) c7)∧w'.cell? ⟨p,7,none⟩=some (.int .i64 n)∧w'.cell? ⟨p,6,none⟩=some (.slice gL La.length cL))
       (first|go_keep|exact ⟨f10.cell b2 Lc,f10.cell b0 Lc,f10.cell b3 Lc⟩|exact ⟨cell_of (heap_setCell_same (f10.at HMID.out.b Lc) _) rfl,cell_of (heap_setCell_same (f10.at HMID.out.b Lc) _) rfl,cell_of (heap_setCell_same (f10.at HMID.out.b Lc) _) rfl⟩)
       (first|(go_at_call 110;refine (HEQ.out w9.drew.drew (Fr.refl [] w9).drew.drew).mono ?_;rintro e w10 ⟨rfl,f10⟩;have q8:=f10.cell b8 Lc;have q8f:=Qb (i:=8) (f10.at HMID.out.b Lc)))
      have hbA:=heap_setCell_same (i:=8) (f10.at HMID.out.b Lc) (.bool (decide (R++[Q6 M (c.slot k)]=La)))
      have fA:Fr [p] w9 _:=(((Fr.refl [p] w9).drew.drew.trans (f10.mono Lc)).setCell (p:=⟨p,8,none⟩) (.inl Lc) (.bool (decide (R++[Q6 M (c.slot k)]=La))))
      have hdd:decide (R++[Q6 M (c.slot k)]=La)=(decide (0<n)&&decide (R++[Q6 M (c.slot k)]=La)):=by rw [decide_eq_true hpos,Bool.true_and]
      generalize hdE:decide (R++[Q6 M (c.slot k)]=La)=d1 at hbA fA ⊢
      have hdv:d1=(decide (0<n)&&decide (R++[Q6 M (c.slot k)]=La)):=hdE▸hdd
      have HDV:=Lib.hid hdv
      clear hdd hdE hdv
      generalize w10.setCell ⟨p,8,none⟩ (.bool d1)=wA at hbA fA ⊢
      simp only [List.setIfInBounds_toArray,List.set_cons_zero,List.set_cons_succ] at hbA
      have e7:wA.cell? ⟨p,7,none⟩=some (.int .i64 n):=cell_of hbA rfl
      have e7f:=Qb (i:=7) hbA
      have e7w:IntKind.i64.wrap (n+1)=n+1:=by rw [IntKind.wrap_i64];omega
      have e5:wA.cell? ⟨p,5,none⟩=some (.slice g7 (k+1) c7):=cell_of hbA rfl
      clear b0 b1 b2 b3 b8 b8f
      go_wp2_with fail
      have fB:Fr [p] w9 (wA.setCell ⟨p,7,none⟩ (.int .i64 (n+1))):=fA.setCell (.inl Lc) _
      have hbB:=heap_setCell_same (i:=7) hbA (.int .i64 (n+1))
      refine (dup7 HMID.out.r hlen Lb HMID.out.hp fB).mono ?_
      rintro e w8 ⟨v8,rfl,hv8,hv8n,f8⟩
      obtain ⟨g8,c8,rfl⟩:=Kt hv8
      have hb8:=f8.at hbB Lc
      simp only [List.setIfInBounds_toArray,List.set_cons_zero,List.set_cons_succ] at hb8
      have h8f:Fr [p] w9 w8:=fB.trans (f8.mono Lc)
      have hne:∀b,(Value.slice g8 (R++[Q6 M (c.slot k)]).length c8).ownBlock=some b→b∉[p]:=fun b hb=>by
       have h1:=hv8n b hb;have h2:=Q9 hbB
       simp;omega
      have hn9:∀b,(Value.slice g8 (R++[Q6 M (c.slot k)]).length c8).ownBlock=some b→w9.heap.size≤b:=fun b hb=>Nat.le_trans fB.size (hv8n b hb)
      have k8:w8.cell? ⟨p,8,none⟩=some _:=cell_of hb8 rfl
      have k6:w8.cell? ⟨p,6,none⟩=some _:=cell_of hb8 rfl
      have k5:w8.cell? ⟨p,5,none⟩=some _:=cell_of hb8 rfl
      have k6f:=Qb (i:=6) hb8
      have k5f:=Qb (i:=5) hb8
      have HB8:=Lib.hid hb8;have HV8:=Lib.hid hv8;have HNE:=Lib.hid hne;have HN9:=Lib.hid hn9
      clear hb8 hv8 hne hn9 hv8n hbB e7 e7f e7w e5 hbA
      go_wp2_with fail
      go_ret
      have fz:Fr [p] w8 ((w8.setCell ⟨p,6,none⟩ (.slice g8 (R++[Q6 M (c.slot k)]).length c8)).setCell ⟨p,5,none⟩ (.slice none 0 0)):=
       ((Fr.refl [p] w8).setCell (p:=⟨p,6,none⟩) (.inl Lc) _).setCell (p:=⟨p,5,none⟩) (.inl Lc) _
      have hbz:=heap_setCell_same (i:=5) (heap_setCell_same (i:=6) HB8.out (.slice g8 (R++[Q6 M (c.slot k)]).length c8)) (.slice none 0 0)
      simp only [List.setIfInBounds_toArray,List.set_cons_zero,List.set_cons_succ] at hbz
      have hp:=Q3l HMID.out HPM.out (h8f.trans fz) HK.out Lb hbz (HV8.out.fr fz HNE.out) HN9.out HDV.out
      rw [show TwS.step c.sl.toNat (Q6 M (c.slot (R.length:Int)))=TwS.step c.sl.toNat (Q6 M (c.slot (k:Int))) by rw [HK.out]]
      rw [hlen] at hp
      exact hp
    · skip
      refine Vp (z:=19) (S:=fun w'=>w'.cell? ⟨p,5,none⟩=some (.slice g7 (k+1) c7)∧w'.cell? ⟨p,7,none⟩=some (.int .i64 n)∧w'.cell? ⟨p,6,none⟩=some (.slice gL La.length cL)) (by kernel_rfl) ⟨b2,b0,b3⟩ (fun hHeld=> ?_)
      refine tkz 0 ?_
      refine tkz 1 ?_
      refine tkz 2 ?_
      refine tkz 3 ?_
      refine tkz 4 ?_
      refine tkz 5 ?_
      refine tkz 6 ?_
      refine JX (i:=7) (oi:=_) (v:=undef) rfl (by kernel_rfl) (by kernel_rfl) (by kernel_rfl) (by kernel_rfl) (fun _ _ _ h=>h) (Or.inr ⟨by rfl,rfl⟩) (by assumption) ?_
      try simp only [Act.put,List.getElem_toArray,List.getElem_cons_succ,List.getElem_cons_zero,List.setIfInBounds_toArray,List.set_cons_zero,List.set_cons_succ]
      refine JX (i:=8) (oi:=_) (v:=undef) rfl (by kernel_rfl) (by kernel_rfl) (by kernel_rfl) (by kernel_rfl) (fun _ _ _ h=>h) (Or.inr ⟨by rfl,rfl⟩) (by assumption) ?_
      try simp only [Act.put,List.getElem_toArray,List.getElem_cons_succ,List.getElem_cons_zero,List.setIfInBounds_toArray,List.set_cons_zero,List.set_cons_succ]
      refine JX (i:=9) (oi:=_) (v:=undef) rfl (by kernel_rfl) (by kernel_rfl) (by kernel_rfl) (by kernel_rfl) (fun _ _ _ h=>h) (Or.inr ⟨by rfl,rfl⟩) (by assumption) ?_
      try simp only [Act.put,List.getElem_toArray,List.getElem_cons_succ,List.getElem_cons_zero,List.setIfInBounds_toArray,List.set_cons_zero,List.set_cons_succ]
      refine JX (i:=10) (oi:=_) (v:=undef) rfl (by kernel_rfl) (by kernel_rfl) (by kernel_rfl) (by kernel_rfl) (fun _ _ _ h=>h) (Or.inr ⟨by rfl,rfl⟩) (by assumption) ?_
      try simp only [Act.put,List.getElem_toArray,List.getElem_cons_succ,List.getElem_cons_zero,List.setIfInBounds_toArray,List.set_cons_zero,List.set_cons_succ]
      refine JX (i:=11) (oi:=_) (v:=undef) rfl (by kernel_rfl) (by kernel_rfl) (by kernel_rfl) (by kernel_rfl) (fun _ _ _ h=>h) (Or.inr ⟨by rfl,rfl⟩) (by assumption) ?_
      try simp only [Act.put,List.getElem_toArray,List.getElem_cons_succ,List.getElem_cons_zero,List.setIfInBounds_toArray,List.set_cons_zero,List.set_cons_succ]
      refine JX (i:=12) (oi:=_) (v:=undef) rfl (by kernel_rfl) (by kernel_rfl) (by kernel_rfl) (by kernel_rfl) (fun _ _ _ h=>h) (Or.inr ⟨by rfl,rfl⟩) (by assumption) ?_
      try simp only [Act.put,List.getElem_toArray,List.getElem_cons_succ,List.getElem_cons_zero,List.setIfInBounds_toArray,List.set_cons_zero,List.set_cons_succ]
      refine JX (i:=13) (oi:=_) (v:=undef) rfl (by kernel_rfl) (by kernel_rfl) (by kernel_rfl) (by kernel_rfl) (fun _ _ _ h=>h) (Or.inr ⟨by rfl,rfl⟩) (by assumption) ?_
      try simp only [Act.put,List.getElem_toArray,List.getElem_cons_succ,List.getElem_cons_zero,List.setIfInBounds_toArray,List.set_cons_zero,List.set_cons_succ]
      refine JX (i:=14) (oi:=_) (v:=undef) rfl (by kernel_rfl) (by kernel_rfl) (by kernel_rfl) (by kernel_rfl) (fun _ _ _ h=>h) (Or.inr ⟨by rfl,rfl⟩) (by assumption) ?_
      try simp only [Act.put,List.getElem_toArray,List.getElem_cons_succ,List.getElem_cons_zero,List.setIfInBounds_toArray,List.set_cons_zero,List.set_cons_succ]
      refine JX (i:=15) (oi:=_) (v:=undef) rfl (by kernel_rfl) (by kernel_rfl) (by kernel_rfl) (by kernel_rfl) (fun _ _ _ h=>h) (Or.inr ⟨by rfl,rfl⟩) (by assumption) ?_
      try simp only [Act.put,List.getElem_toArray,List.getElem_cons_succ,List.getElem_cons_zero,List.setIfInBounds_toArray,List.set_cons_zero,List.set_cons_succ]
      refine tkz 16 ?_
      refine tkz 17 ?_
      refine tkz 18 ?_
      refine Gn (o:=_) (by kernel_rfl) rfl (fun K hK=> ?_)
      simp only [List.getElem_toArray,List.getElem_cons_succ,List.getElem_cons_zero]
      go_simp
      refine hK.out _ _ ?_
      clear hK K
      try simp only [Act.put,List.getElem_toArray,List.getElem_cons_succ,List.getElem_cons_zero,List.setIfInBounds_toArray,List.set_cons_zero,List.set_cons_succ]
      refine Gp (by kernel_rfl) ?_ _
      have hbA:((w9.setCell ⟨p,8,none⟩ (.bool false)).drew.drew).heap[p]?=_:=heap_setCell_same (w:=w9) (i:=8) HMID.out.b (.bool false)
      have fA:Fr [p] w9 _:=((Fr.refl [p] w9).sc p 8 (.bool false)).drew.drew
      have HDV:=Lib.hid (show false=(decide (0<n)&&decide (R++[Q6 M (c.slot k)]=La)) by rw [decide_eq_false hpos,Bool.false_and])
      generalize (w9.setCell ⟨p,8,none⟩ (.bool false)).drew.drew=wA at hbA fA ⊢
      simp only [List.setIfInBounds_toArray,List.set_cons_zero,List.set_cons_succ] at hbA
      have e7:wA.cell? ⟨p,7,none⟩=some (.int .i64 n):=cell_of hbA rfl
      have e7f:=Qb (i:=7) hbA
      have e7w:IntKind.i64.wrap (n+1)=n+1:=by rw [IntKind.wrap_i64];omega
      have e5:wA.cell? ⟨p,5,none⟩=some (.slice g7 (k+1) c7):=cell_of hbA rfl
      clear b0 b1 b2 b3 b8 b8f
      go_wp2_with fail
      have fB:Fr [p] w9 (wA.setCell ⟨p,7,none⟩ (.int .i64 (n+1))):=fA.setCell (.inl Lc) _
      have hbB:=heap_setCell_same (i:=7) hbA (.int .i64 (n+1))
      refine (dup7 HMID.out.r hlen Lb HMID.out.hp fB).mono ?_
      rintro e w8 ⟨v8,rfl,hv8,hv8n,f8⟩
      obtain ⟨g8,c8,rfl⟩:=Kt hv8
      have hb8:=f8.at hbB Lc
      simp only [List.setIfInBounds_toArray,List.set_cons_zero,List.set_cons_succ] at hb8
      have h8f:Fr [p] w9 w8:=fB.trans (f8.mono Lc)
      have hne:∀b,(Value.slice g8 (R++[Q6 M (c.slot k)]).length c8).ownBlock=some b→b∉[p]:=fun b hb=>by
       have h1:=hv8n b hb;have h2:=Q9 hbB
       simp;omega
      have hn9:∀b,(Value.slice g8 (R++[Q6 M (c.slot k)]).length c8).ownBlock=some b→w9.heap.size≤b:=fun b hb=>Nat.le_trans fB.size (hv8n b hb)
      have k8:w8.cell? ⟨p,8,none⟩=some _:=cell_of hb8 rfl
      have k6:w8.cell? ⟨p,6,none⟩=some _:=cell_of hb8 rfl
      have k5:w8.cell? ⟨p,5,none⟩=some _:=cell_of hb8 rfl
      have k6f:=Qb (i:=6) hb8
      have k5f:=Qb (i:=5) hb8
      have HB8:=Lib.hid hb8;have HV8:=Lib.hid hv8;have HNE:=Lib.hid hne;have HN9:=Lib.hid hn9
      clear hb8 hv8 hne hn9 hv8n hbB e7 e7f e7w e5 hbA
      go_wp2_with fail
      go_ret
      have fz:Fr [p] w8 ((w8.setCell ⟨p,6,none⟩ (.slice g8 (R++[Q6 M (c.slot k)]).length c8)).setCell ⟨p,5,none⟩ (.slice none 0 0)):=
       ((Fr.refl [p] w8).setCell (p:=⟨p,6,none⟩) (.inl Lc) _).setCell (p:=⟨p,5,none⟩) (.inl Lc) _
      have hbz:=heap_setCell_same (i:=5) (heap_setCell_same (i:=6) HB8.out (.slice g8 (R++[Q6 M (c.slot k)]).length c8)) (.slice none 0 0)
      simp only [List.setIfInBounds_toArray,List.set_cons_zero,List.set_cons_succ] at hbz
      have hp:=Q3l HMID.out HPM.out (h8f.trans fz) HK.out Lb hbz (HV8.out.fr fz HNE.out) HN9.out HDV.out
      rw [show TwS.step c.sl.toNat (Q6 M (c.slot (R.length:Int)))=TwS.step c.sl.toNat (Q6 M (c.slot (k:Int))) by rw [HK.out]]
      rw [hlen] at hp
      exact hp
end
end Go.Proofs.YtgjklfmnmljilaaGreatDoor

/- What an engine holds: names that are kept are those that would be reckoned; plain laws. -/
import Derived.Test.YtklbmkaomojciaaGreatIntSort
namespace Go.Proofs.YtklbmkaomojciaaGreat
open Go.RowKit
structure Eng where
 doc:Dc
 told:List It
 memos:List Me
 dirty:List Int
def qVg (dirty:List Int) (k:Int):List Int:=if dirty.contains k then dirty else (dirty++[k]).mergeSort leI
def qKl (d:Dc) (told:List It) (memos:List Me) (dirty:List Int) (x:Chg):Int×Int×Dc×List It×List Me×List Int:=
 if (qQy d x).1=0 then (0,(qQy d x).2.1,(qQy d x).2.2,told,if qJx x then memos else [],if qJx x then qVg dirty x.node else [])
 else ((qQy d x).1,0,[],[],[],[])
def chgE (E:Eng) (x:Chg):Eng:=if (qQy E.doc x).1=0 then ⟨(qQy E.doc x).2.2,E.told,if qJx x then E.memos else [],if qJx x then qVg E.dirty x.node else []⟩ else E
def qXl (d:Dc):List Int:=qXm d (qZz d) 100 0
def qVk (d:Dc) (n:Int):Me:=meOf n (qKw d (qZz d) n)
def keptM (dirty:List Int) (n:Int):List Me->Bool
 | []=>false
 | m::l=>if m.node==n then freshM m dirty else keptM dirty n l
def qJm (memos:List Me) (dirty:List Int) (L:List Int):Nat:=L.countP (fun n=>!keptM dirty n memos)
def flushE (E:Eng):Eng:=⟨E.doc,qKt E.doc,(qXl E.doc).map (qVk E.doc),[]⟩
theorem zKu {x:Int} {D:List Int}:∀ (l:List Me) (i:Nat),(idxMe x l i = -1/\keptM D x l=false/\∀ m∈l,m.node≠x)∨∃ (k:Nat) (h:k<l.length),idxMe x l i=((i+k:Nat):Int)/\l[k].node=x/\keptM D x l=freshM l[k] D:=by
 intro l
 induction l with
 | nil=>intro i;exact .inl ⟨rfl,rfl,by simp⟩
 | cons m l ih=>
   intro i
   by_cases h:m.node=x
   ·exact .inr ⟨0,by simp,by simp [idxMe,h],h,by simp [keptM,h]⟩
   ·have h':(m.node==x)=false:=by simpa using h
    rcases ih (i+1) with ⟨h1,h2,h3⟩ | ⟨k,hk,h1,h2,h3⟩
    ·exact .inl ⟨by rw [idxMe,h'];exact h1,by rw [keptM,h'];exact h2,by
      intro q hq
      rcases List.mem_cons.1 hq with e | e
      ·rw [e];exact h
      ·exact h3 q e⟩
    ·refine .inr ⟨k+1,by simpa using hk,?_,by simpa using h2,?_⟩
     ·rw [idxMe,h']
      simp only [Bool.false_eq_true,if_false]
      rw [h1]
      congr 1
      omega
     ·rw [keptM,h']
      simpa using h3
theorem qD3 {m:Me} {D:List Int}:freshM m D=true↔∀ u∈m.uses,u∉D:=by
 simp [freshM]
theorem zWk {m:Me} {D D':List Int} (h:freshM m D'=true) (hs:∀ x∈D,x∈D'):freshM m D=true:=
 qD3.2 (fun u hu hd=>qD3.1 h u hu (hs u hd))
theorem qDy {D:List Int} {k x:Int}:x∈qVg D k↔x∈D∨x=k:=by
 unfold qVg
 split
 ·rename_i h
  have:=List.contains_iff_mem.1 h
  constructor
  ·exact .inl
  ·rintro (h | rfl)
   ·exact h
   ·exact this
 ·rw [List.mem_mergeSort,List.mem_append,List.mem_singleton]
theorem zYc {D:List Int} {k:Int} (h:D.Nodup):(qVg D k).Nodup:=by
 unfold qVg
 split
 ·exact h
 ·rename_i hc
  have hk:k∉D:=fun h2=>hc (List.contains_iff_mem.2 h2)
  rw [(List.mergeSort_perm _ _).nodup_iff,List.nodup_append]
  exact ⟨h,by simp,fun a ha b hb e=>hk (by rw [List.mem_singleton] at hb;rw [<- hb,<- e];exact ha)⟩
theorem dirty_ne (D:List Int) (k:Int):k∈qVg D k:=qDy.2 (.inr rfl)
theorem zHt:∀ (a b:List Int),a.Nodup->(∀ x∈a,x∈b)->a.length<=b.length:=by
 intro a
 induction a with
 | nil=>intro b _ _;simp
 | cons x a ih=>
   intro b ha hb
   have hx:x∈b:=hb x (by simp)
   rw [List.nodup_cons] at ha
   have:=ih (b.erase x) ha.2 (fun y hy=>(List.mem_erase_of_ne (fun e=>ha.1 (by rw [<- e];exact hy))).2 (hb y (by simp [hy])))
   rw [List.length_erase_of_mem hx] at this
   have:0<b.length:=List.length_pos_of_mem hx
   simp only [Zm]
   omega
theorem zY8 {D:List Int} (h:D.Nodup) (hr:∀ n∈D,0<=n/\n<60):D.length<=60:=by
 have:=qK2 60 D h (fun x hx=>by have:=hr x hx;omega)
 exact this
structure EngOk (E:Eng):Prop where
 good:Good E.doc
 told:E.told=[]∨∃ d,Good d/\E.told=qKt d
 kept:∀ m∈E.memos,freshM m E.dirty=true->m=qVk E.doc m.node
 uses:∀ m∈E.memos,m.uses.length<=1000
 few:E.memos.length<=1000
 once:E.dirty.Nodup
 range:∀ n∈E.dirty,0<=n/\n<60
theorem EngOk.alike {E:Eng} (h:EngOk E):qWs E.told/\(nodesL E.told).length<=60:=by
 rcases h.told with e | ⟨d,g,e⟩
 ·rw [e];exact ⟨⟨by simp [nodesL],by simp [nodesL]⟩,by simp [nodesL]⟩
 ·rw [e]
  have h1:=qDt g
  have h2:∀ n∈nodesL (qKt d),0<=n/\n<(d.length:Int):=fun n hn=>by
   obtain ⟨p,hp,rfl,-⟩:=qQz.1 ((qZ7 g).2 n (h1.2 n hn).2)
   omega
  refine ⟨⟨h1.1,fun n hn=>(h2 n hn).1⟩,?_⟩
  have:=qK2 d.length _ h1.1 h2
  have:=g.len
  omega
theorem qV5:EngOk ⟨rootD,[],[],[]⟩:=⟨zBw,.inl rfl,by simp,by simp,by simp,by simp,by simp⟩
theorem qK8 {E:Eng} (h:EngOk E) (x:Chg):EngOk (chgE E x):=by
 unfold chgE
 split
 ·rename_i he
  cases hp:qJx x with
  | false=>exact ⟨qHf h.good he,h.told,by simp,by simp,by simp,by simp,by simp⟩
  | true=>
    simp only [if_true]
    obtain ⟨h1,h2,_⟩:=zW1 h.good he hp
    refine ⟨qHf h.good he,h.told,fun m hm hf=>?_,h.uses,h.few,zYc h.once,fun n hn=>?_⟩
    ·have hf1:=zWk hf (fun y hy=>qDy.2 (.inl hy))
     have hk:=h.kept m hm hf1
     have hu:x.node∉m.uses:=fun hu=>qD3.1 hf _ hu (dirty_ne _ _)
     have hu2:x.node∉(qKw E.doc (qZz E.doc) m.node).uses:=by
      rw [hk] at hu
      exact hu
     have:qVk (qQy E.doc x).2.2 m.node=qVk E.doc m.node:=by
      unfold qVk
      rw [h1.claims,zH1 h1 h2 hu2]
     show m=qVk (qQy E.doc x).2.2 m.node
     rw [this]
     exact hk
    ·rcases qDy.1 hn with h3 | rfl
     ·exact h.range n h3
     ·obtain ⟨p,hp',e,-⟩:=qQz.1 h2
      have:=h.good.len
      omega
 ·exact h
def SubP (a b:List Int):Prop:=∃ z:List Int,a.Perm z/\z.Sublist b
theorem SubP.append {a b c e:List Int} (h:SubP a b) (k:SubP c e):SubP (a++c) (b++e):=by
 obtain ⟨z,h1,h2⟩:=h
 obtain ⟨y,k1,k2⟩:=k
 exact ⟨z++y,h1.append k1,h2.append k2⟩
theorem SubP.nil (b:List Int):SubP [] b:=⟨[],.nil,by simp⟩
theorem SubP.flat {α:Type} {f g:α->List Int}:∀ {l:List α},(∀ x∈l,SubP (f x) (g x))->SubP (l.flatMap f) (l.flatMap g):=by
 intro l
 induction l with
 | nil=>intro _;exact SubP.nil _
 | cons x l ih=>
   intro h
   rw [List.flatMap_cons,List.flatMap_cons]
   exact (h x (by simp)).append (ih (fun y hy=>h y (by simp [hy])))
theorem asks_sub (d:Dc) (C:List Clm) (memo:Int->Mm):∀ (f:Nat) (n:Int),SubP (qXm d C f n) (nodesL (itemsF d C memo f n)):=by
 intro f
 induction f with
 | zero=>intro n;exact SubP.nil _
 | succ f ih=>
   intro n
   have hk:SubP (if qBx d n then [] else (qQr d C n).flatMap (qXm d C f)) (nodesL (if qBx d n then [] else (qQr d C n).flatMap (itemsF d C memo f))):=by
    cases qBx d n with
    | true=>exact SubP.nil _
    | false=>
      simp only [Bool.false_eq_true,if_false]
      rw [qWm]
      exact SubP.flat (fun x _=>ih x)
   rw [zZ7,qWg]
   split
   ·exact SubP.nil _
   ·split
    ·exact SubP.nil _
    ·by_cases hg:(qQd d n=0∨qQd d n=18)/\n≠0
     ·rw [if_pos hg,if_pos hg,List.append_nil]
      exact hk
     ·rw [if_neg hg,if_neg hg,nodesL,nodesI,nodesL,List.append_nil]
      obtain ⟨z,h1,h2⟩:=hk
      cases (kOf (qQd d n)).named
      rotate_left
      ·exact ⟨n::z,(List.perm_append_comm.trans (List.Perm.cons n h1)),List.Sublist.cons_cons _ h2⟩
      ·simp only [Bool.false_eq_true,if_false,List.append_nil]
       exact ⟨z,h1,h2.cons _⟩
theorem qFm (d:Dc):SubP (qXl d) (nodesL (qKt d)):=asks_sub d (qZz d) _ 100 0
theorem zB2 {d:Dc} (g:Good d):(qXl d).Nodup:=by
 obtain ⟨z,h1,h2⟩:=qFm d
 exact h1.nodup_iff.2 (h2.nodup (qDt g).1)
theorem zY6 {d:Dc} (g:Good d):(qXl d).length<=60:=by
 obtain ⟨z,h1,h2⟩:=qFm d
 have h3:=(qDt g)
 have h4:∀ n∈nodesL (qKt d),0<=n/\n<(d.length:Int):=fun n hn=>by
  obtain ⟨p,hp,rfl,-⟩:=qQz.1 ((qZ7 g).2 n (h3.2 n hn).2)
  omega
 have:=qK2 d.length _ h3.1 h4
 have:=g.len
 have:=h2.length_le
 have:=h1.length_eq
 omega
theorem uses_few {d:Dc} (g:Good d) (n:Int):(qVk d n).uses.length<=1000:=by
 have hl:=g.len
 unfold qVk meOf qKw
 split
 ·refine Za (List.length_filter_le _ _) ?_
  simp
  omega
 ·simp
theorem qJu {E:Eng} (h:EngOk E):EngOk (flushE E):=by
 refine ⟨h.good,.inr ⟨E.doc,h.good,rfl⟩,fun m hm _=>?_,fun m hm=>?_,?_,by simp [flushE],by simp [flushE]⟩
 ·obtain ⟨n,_,rfl⟩:=List.mem_map.1 hm
  rfl
 ·obtain ⟨n,_,rfl⟩:=List.mem_map.1 hm
  exact uses_few h.good n
 ·have:=zY6 h.good
  simp only [flushE,List.length_map]
  omega
theorem zXp {d:Dc}:∀ (L:List Int) (n:Int),n∈L->keptM [] n (L.map (qVk d))=true:=by
 intro L
 induction L with
 | nil=>intro n h;simp at h
 | cons x L ih=>
   intro n hn
   rw [List.map_cons,keptM]
   by_cases e:x=n
   ·have:((qVk d x).node==n)=true:=by simpa [qVk,meOf] using e
    rw [this]
    simp [freshM]
   ·have:((qVk d x).node==n)=false:=by simpa [qVk,meOf] using e
    rw [this]
    simp only [Bool.false_eq_true,if_false]
    exact ih n ((List.mem_cons.1 hn).resolve_left (fun h=>e h.symm))
theorem qB6 (E:Eng):qJm (flushE E).memos (flushE E).dirty (qXl (flushE E).doc)=0:=by
 unfold qJm
 rw [List.countP_eq_zero]
 intro n hn
 have:keptM [] n ((qXl E.doc).map (qVk E.doc))=true:=zXp _ n hn
 show ¬ (!keptM [] n ((qXl E.doc).map (qVk E.doc)))=true
 rw [this]
 simp
def askedF (k:Int):List Me->Nat
 | []=>0
 | m::l=>m.uses.countP (fun u=>u==k)+askedF k l
theorem zKl (k:Int):∀ l:List Me,(l.filter (fun m=>m.uses.contains k)).length<=askedF k l:=by
 intro l
 induction l with
 | nil=>simp [askedF]
 | cons m l ih=>
   rw [askedF]
   by_cases h:m.uses.contains k=true
   ·rw [List.filter_cons_of_pos (by simpa using h),Zm]
    have:0<m.uses.countP (fun u=>u==k):=List.countP_pos_iff.2 ⟨k,List.contains_iff_mem.1 h,by simp⟩
    omega
   ·rw [List.filter_cons_of_neg (by simpa using h)]
    omega
def qB3 (memos:List Me) (L:List Int):Nat:=L.countP (fun n=>!memos.any (fun m=>m.node==n))
theorem zB1 {p q r:Int->Bool}:∀ l:List Int,(∀ x∈l,r x=true->p x=true∨q x=true)->l.countP r<=l.countP p+l.countP q:=by
 intro l
 induction l with
 | nil=>intro _;simp
 | cons x l ih=>
   intro h
   have h1:=ih (fun y hy=>h y (by simp [hy]))
   have h2:=h x (by simp)
   simp only [List.countP_cons]
   split
   ·rename_i hr
    rcases h2 hr with e | e
    ·rw [e];simp only [if_true];omega
    ·rw [e];simp only [if_true];omega
   ·omega
theorem few_law {memos:List Me} {k:Int} {L N:List Int} (hL:L.Nodup) (hs:SubP L N):qJm memos [k] L<=askedF k memos+qB3 memos N:=by
 have h1:qJm memos [k] L<=L.countP (fun n=>memos.any (fun m=>m.node==n&&m.uses.contains k))+L.countP (fun n=>!memos.any (fun m=>m.node==n)):=by
  unfold qJm
  refine zB1 L (fun n _ hr=>?_)
  rcases zKu (x:=n) (D:=[k]) memos 0 with ⟨_,_,h3⟩ | ⟨j,hj,_,h2,h3⟩
  ·right
   simp only [Bool.not_eq_true',List.any_eq_false,beq_iff_eq]
   exact h3
  ·left
   rw [h3] at hr
   simp only [freshM,Bool.not_not,List.any_eq_true] at hr
   obtain ⟨u,hu,hc⟩:=hr
   have:u=k:=by simpa using hc
   subst this
   rw [List.any_eq_true]
   exact ⟨memos[j],Zl hj,by rw [h2,List.contains_iff_mem.2 hu];simp⟩
 have h2:L.countP (fun n=>memos.any (fun m=>m.node==n&&m.uses.contains k))<=askedF k memos:=by
  refine Za ?_ (zKl k memos)
  have hmap:(memos.filter (fun m=>m.uses.contains k)).length=((memos.filter (fun m=>m.uses.contains k)).map (fun m:Me=>m.node)).length:=by rw [List.length_map]
  rw [List.countP_eq_length_filter,hmap]
  refine zHt _ _ (hL.filter _) (fun n hn=>?_)
  obtain ⟨_,h⟩:=List.mem_filter.1 hn
  obtain ⟨m,hm,h⟩:=List.any_eq_true.1 h
  rw [Bool.and_eq_true,beq_iff_eq] at h
  exact List.mem_map.2 ⟨m,List.mem_filter.2 ⟨hm,h.2⟩,h.1⟩
 have h3:L.countP (fun n=>!memos.any (fun m=>m.node==n))<=qB3 memos N:=by
  obtain ⟨z,e1,e2⟩:=hs
  rw [e1.countP_eq]
  exact e2.countP_le
 omega
def stepE (E:Eng) (x:Chg) (b:Bool):Eng:=if b then flushE (chgE E x) else chgE E x
def zBg (fl:List Bool):List Chg->Nat->Eng->Eng
 | [],_,E=>E
 | x::l,i,E=>zBg fl l (i+1) (stepE E x (fl[i]?.getD false))
def qX2 (l:List Chg) (fl:List Bool):Eng:=zBg fl l 0 ⟨rootD,[],[],[]⟩
theorem zW8 {E:Eng} (h:EngOk E) (x:Chg) (b:Bool):EngOk (stepE E x b):=by
 unfold stepE
 split
 ·exact qJu (qK8 h x)
 ·exact qK8 h x
theorem zQw (fl:List Bool):∀ (l:List Chg) (i:Nat) (E:Eng),EngOk E->EngOk (zBg fl l i E):=by
 intro l
 induction l with
 | nil=>intro i E h;exact h
 | cons x l ih=>intro i E h;exact ih (i+1) _ (zW8 h x _)
theorem zBc (fl:List Bool) {l:List Chg} {j:Nat} (hj:j<l.length) (E:Eng):zBg fl (l.drop j) j E=zBg fl (l.drop (j+1)) (j+1) (stepE E l[j] (fl[j]?.getD false)):=by
 rw [List.drop_eq_getElem_cons hj]
 rfl
theorem qZ3 {P:Program} {fn:Func} {p q u:Tmp} {ty:TypeId} (h:fn.results = #[.cell p ty,.tmp q,.tmp u]) (tmps:Array Value) (w:World) (g:Nat) (t:TypeId) (cs:Array Value) (fr:Nat×Nat) (d:TypeDesc)
 (hp:tmps.getD p undef=.pointer (some ⟨g,0,none⟩)) (hg:w.heap[g]?=some (.cells cs t fr))
 (hu:P.underlying ty=some d) (hd:(match d with | .struct _ | .array _ _=>true | _=>false)=true) (hi:(P.info? ty).map (·.size)=some cs.size) :
 (results fn tmps).run P w=.ok (.tuple #[.agg cs,tmps.getD q undef,tmps.getD u undef]) w:=by
 have hp':tmps[p]?.getD undef=.pointer (some ⟨g,0,none⟩):=by simpa using hp
 simp [results,h,hp',asAddr,run_loadVar_row w g t ty cs fr d hg hu hd hi]
end Go.Proofs.YtklbmkaomojciaaGreat
set_option maxRecDepth 100000
set_option maxHeartbeats 4000000
namespace Go.Proofs.YtklbmkaomojciaaGreat
open Go.RowKit
theorem qGb {P:Program} {w:World} {ops:Array Oper} {rest:List Oper} {o:Oper} {a:Act} {Q:Exit->Act->World->Prop} (hg:o.guard=none)
 (s x:Operand) (t:TypeId) (ho:o.op=.call { callee:=.builtin .append,args:=#[s,x],argTypes:=#[t,t] })
 {e:TypeId} {sz bytes:Nat} (S:SlT P t e sz bytes) (hsz:0<sz) {α:Type} {rd:World->List Value->α->Prop} {v:Value} (hst:∀ w' cs y,w.grownBy w' v.ownBlock->rd w cs y->rd w' cs y) (h1c:∀ w cs y,rd w cs y->∀ u∈cs,u.oneCell'=true)
 {base:Nat} {l:List α} (hs:a.eval s=v) (hown:qQb sz rd base e w v l) {C:Array Value} {e':TypeId} {g:Nat} (hx:a.eval x=.slice (some ⟨g,0,none⟩) 1 1) (hgs:g=w.heap.size) (y:α)
 (hC:C.size=sz/\rd w C.toList y) (hbytes:(l.length+1)*bytes<=140737488355328) (hmax:l.length+1<=9223372036854775807) (hbase:base<=w.heap.size)
 (h:∀ v' w',qQb sz rd base e w' v' (l++[y])->w.grownBy w' v.ownBlock->qZc w v v'->wpList P ops Q rest (a.put o.dst v') w'):wpList P ops Q (o::rest) a (w.alloc (.cells C e')):=by
 subst hgs
 have hal:∀ cs y',rd w cs y'->rd (w.alloc (.cells C e')) cs y':=fun cs y' h=>hst _ _ _ (World.grownBy_alloc w _ _) h
 have hrow:=qJq (rd:=rd) (sz:=sz) w C.toList e' y (by simpa using hC.1) (by simp only [Array.toArray_toList];exact hal _ _ hC.2)
 simp only [Array.toArray_toList] at hrow
 have hown2:qQb sz rd base e (w.alloc (.cells C e')) v l:=hown.agree (fun b hb=>Below.heap_alloc w _ b (hown.lt b hb).2) (fun _ _ _ hr=>hal _ _ hr)
 obtain ⟨rd2,hrd2⟩:∃ rd2:World->List Value->α->Prop,rd2=fun W cs y'=>rd w cs y'/\rd W cs y':=⟨_,rfl⟩
 have up:∀ {W V m},qQb sz rd2 base e W V m->qQb sz rd base e W V m:=fun hh=>by
  obtain ⟨xss,q1,q2,q3⟩:=hh
  exact ⟨xss,q1,fun i hi hi'=>⟨(q2 i hi hi').1,by have:=(q2 i hi hi').2;rw [hrd2] at this;exact this.2⟩,q3⟩
 have hown3:qQb sz rd2 base e (w.alloc (.cells C e')) v l:=by
  obtain ⟨xss,q1,q2,q3⟩:=hown
  obtain ⟨xss',p1,p2,p3⟩:=hown2
  refine ⟨xss,q1,fun i hi hi'=>⟨(q2 i hi hi').1,by rw [hrd2];exact ⟨(q2 i hi hi').2,hal _ _ (q2 i hi hi').2⟩⟩,qJw q3 (fun b hb=>Below.heap_alloc w _ b (q3.lt b hb).2)⟩
 have hrow3:qQa sz rd2 (·=w.heap.size) (w.alloc (.cells C e')) (.slice (some ⟨w.heap.size,0,none⟩) 1 1) [y]:=by
  have:=qJq (rd:=rd2) (sz:=sz) w C.toList e' y (by simpa using hC.1) (by simp only [Array.toArray_toList];rw [hrd2];exact ⟨hC.2,hal _ _ hC.2⟩)
  simpa only [Array.toArray_toList] using this
 refine qQ6 hg s x t ho S hsz hs hown3 hx hrow3 (fun cs y' _ hr=>h1c _ _ _ (by rw [hrd2] at hr;exact hr.2)) (by simpa using hbytes) (by simpa using hmax) (by simp;omega)
  (fun w' hgr cs y' _ hr=>by
   rw [hrd2] at hr ⊢
   exact ⟨hr.1,hst _ _ _ (qQk (World.grownBy_alloc w _ _) hgr) hr.1⟩) ?_
 intro v' w' h1 h2 _ h3
 refine h v' w' (up h1) (qQk (World.grownBy_alloc w _ _) h2) ?_
 rcases h3 with h3 | ⟨k,h3,hk⟩
 ·exact .inl h3
 ·exact .inr ⟨k,h3,by simp at hk;omega⟩
def OwnP (base:Nat) (w:World) (v:Value) (d:Dc):Prop:=∃ lab:Nat->Nat,qQb 9 (qYj lab base) base 65 w v d.zipIdx/\∀ b,v.ownBlock=some b->lab b=0
theorem OwnP.form {base:Nat} {w:World} {v:Value} {d:Dc} (h:OwnP base w v d) {n:Nat} (hn:d.length=n):∃ a c,v=.slice a n c/\n<=c/\c<=9223372036854775807:=by
 subst hn
 obtain ⟨lab,h1,_⟩:=h
 obtain ⟨x,y,e,z1,z2⟩:=Rf h1.read
 exact ⟨x,y,by simpa using e,by simpa using z1,z2⟩
theorem zVj {P:Dc} {x:Nd} {i:Nat} (h:P.length=i):(P++[x]).zipIdx=P.zipIdx++[(x,i)]:=by
 rw [List.zipIdx_append,h];simp
def OwnE (wr:World) (C:List Value) (x:Nd) (av kv sv:Value) (W:World):Prop:=Bel wr W/\Blk W wr.heap.size (((C.set 3 av).set 5 kv).set 7 sv) 65/\∃ p q r s:Nat,wr.heap.size<p/\p<=q/\q<=r/\r<=s/\s<=W.heap.size /\
 RowO 2 qK9 wr.heap.size 106 (fun k=>p<=k/\k<q) W av x.attrs/\RowO 1 qQf wr.heap.size 3 (fun k=>q<=k/\k<r) W kv x.kids/\RowO 1 qQf wr.heap.size 3 (fun k=>r<=k/\k<s) W sv x.shadow
def RowN {α:Type} (sz:Nat) (rd:World->List Value->α->Prop) (base:Nat) (e:TypeId) (w0:World) (w:World) (v:Value) (l:List α):Prop:=RowO sz rd base e (fun k=>w0.heap.size<=k/\k<w.heap.size) w v l
theorem qQb.change {α:Type} {sz:Nat} {rd rd':World->List Value->α->Prop} {base:Nat} {e:TypeId} {w w':World} {v:Value} {l:List α} (h:qQb sz rd base e w v l) (ha:∀ b,v.ownBlock=some b->w'.heap[b]?=w.heap[b]?) (hr:∀ cs x,rd w cs x->rd' w' cs x):qQb sz rd' base e w' v l:=by
 obtain ⟨xss,h1,h2,h3⟩:=h
 exact ⟨xss,h1,fun i hi hi'=>⟨(h2 i hi hi').1,hr _ _ (h2 i hi hi').2⟩,qJw h3 ha⟩
theorem ownE_mk {wr wz wa wk ws:World} {C:List Value} {x:Nd} {av kv sv:Value} (h0:qWu wr wz C) (ba:Bel wz wa) (xa:RowN 2 qK9 wr.heap.size 106 wz wa av x.attrs) (bk:Bel wa wk) (xk:RowN 1 qQf wr.heap.size 3 wa wk kv x.kids) (bs:Bel wk ws) (xs:RowN 1 qQf wr.heap.size 3 wk ws sv x.shadow) (hS:qWu wr ws C) :
 OwnE wr C x av kv sv (((ws.setCell ⟨wr.heap.size,3,none⟩ av).setCell ⟨wr.heap.size,5,none⟩ kv).setCell ⟨wr.heap.size,7,none⟩ sv):=by
 have hp:=h0.2.lt
 have hso:∀ k,k≠wr.heap.size->(((ws.setCell ⟨wr.heap.size,3,none⟩ av).setCell ⟨wr.heap.size,5,none⟩ kv).setCell ⟨wr.heap.size,7,none⟩ sv).heap[k]?=ws.heap[k]?:=fun k hk=>by
  rw [Below.heap_setCell _ _ _ k hk,Below.heap_setCell _ _ _ k hk,Below.heap_setCell _ _ _ k hk]
 have s1:=ba.size
 have s2:=bk.size
 have s3:=bs.size
 refine ⟨((hS.1.setCell _ _ _ (Zb _)).setCell _ _ _ (Zb _)).setCell _ _ _ (Zb _),((hS.2.set 3 av).set 5 kv).set 7 sv,wz.heap.size,wa.heap.size,wk.heap.size,ws.heap.size,hp,s1,s2,s3,by simp [World.setCell],?_,?_,?_⟩
 ·exact RowO.move xa qZa (fun b hb hl=>by rw [hso b (by omega),bs.block b (by omega),bk.block b hl]) (fun b hb _=>hb)
 ·exact RowO.move xk qQc (fun b hb hl=>by rw [hso b (by omega),bs.block b hl]) (fun b hb _=>hb)
 ·exact RowO.move xs qQc (fun b hb hl=>by rw [hso b (by omega)]) (fun b hb _=>hb)
theorem RowO.base_le {α:Type} {sz:Nat} {rd:World->List Value->α->Prop} {base base':Nat} {e:TypeId} {w:World} {v:Value} {l:List α} {Q Q':Nat->Prop} (h:RowO sz rd base e Q w v l) (hb:base'<=base) (hq:∀ b,Q b->Q' b):RowO sz rd base' e Q' w v l:=⟨h.1.base_le hb,fun b hb'=>hq b (h.2 b hb')⟩
theorem zBu {base:Nat} {wr wc:World} {o:Value} {d:Dc} {i:Nat} {X:Nd} {av kv sv:Value} {C:List Value} (h:OwnP base wr o d) (hb:base<=wr.heap.size) (hE:OwnE wr C X av kv sv wc) :
 ∃ lab:Nat->Nat,qQb 9 (qYj lab base) base 65 wc o d.zipIdx/\qYj lab base wc [.bool X.live,.string ⟨X.tag.toArray⟩,.string ⟨X.text.toArray⟩,av,.int .i64 X.up,kv,.bool X.hasS,sv,.bool X.inS] (X,i)/\(∀ b,o.ownBlock=some b->lab b=0)/\∀ b,wc.heap.size<=b->lab b=0:=by
 obtain ⟨lab,h1,h2⟩:=h
 obtain ⟨hB,_,p,q,r,s,g1,g2,g3,g4,g5,xa,xk,xs⟩:=hE
 have hlt:=fun b hb=>(h1.lt b hb).2
 refine ⟨fun k=>if k<wr.heap.size then lab k else if k<p then 0 else if k<q then 3*i+1 else if k<r then 3*i+2 else if k<s/\k<wc.heap.size then 3*i+3 else 0,?_,?_,?_,?_⟩
 ·exact h1.change (fun b hb=>hB.block b (hlt b hb)) (fun cs y hr=>hr.move (fun b hl _ _=>⟨hB.block b hl,if_pos hl⟩))
 ·refine ⟨av,kv,sv,rfl,xa.base_le hb (fun b hb=>?_),xk.base_le hb (fun b hb=>?_),?_⟩
  ·simp only
   rw [if_neg (by omega),if_neg (by omega),if_pos (by omega)]
  ·simp only
   rw [if_neg (by omega),if_neg (by omega),if_neg (by omega),if_pos (by omega)]
  ·refine ⟨xs.1.base_le hb,fun b hb=>?_⟩
   have hq:=xs.2 b hb
   have hl:=(xs.1.lt b hb).2
   simp only
   rw [if_neg (by omega),if_neg (by omega),if_neg (by omega),if_neg (by omega),if_pos ⟨hq.2,hl⟩]
 ·intro b hb
  simp only [hlt b hb,if_true]
  exact h2 b hb
 ·intro b hb'
  have hs:=hB.size
  simp only
  rw [if_neg (by omega),if_neg (by omega),if_neg (by omega),if_neg (by omega),if_neg (by omega)]
theorem qH4 (m:Nat) (v:Value) (d:Dc) (w:World) (hv:qZb m w v d) (hm:m<=w.heap.size) (hd:d.length<=1000) (hA:∀ x∈d,x.attrs.length<=1000/\x.kids.length<=1000/\x.shadow.length<=1000) :
 Calls Tryz.prog 126 #[v] w (Rn w fun w' y=>OwnP w.heap.size w' y d):=by
 obtain ⟨a,c,rfl,l1,l2⟩:=Rf hv
 have HV:=lH hv
 have HA:=lH hA
 clear hv hA
 go_enter Tryz.func126,Tryz.ntmps126
 go_wp2
 go_loopw [8,3] (fun z o wr=>∃ i:Nat,i<=d.length/\z=.int .i64 i/\OwnP w.heap.size wr o (d.take i)/\Bel w wr) (fun z _ _=>d.length - (intOf z).toNat)
 case atStart=>exact ⟨0,by omega,rfl,⟨fun _=>0,qQb.nil _ _ _,fun b h=>by cases h⟩,Br _⟩
 case round=>
  obtain ⟨i,hi,rfl,hO,hB⟩:=hrel
  have HO:=lH hO
  have HB:=lH hB
  have hD:=HV.o.later hB hm
  have hmr:=Za hm hB.size
  have hti:(d.take i).length=i:=by rw [List.length_take];omega
  obtain ⟨oa,oc,rfl,o1,o2⟩:=hO.form hti
  clear hO hB
  by_cases hlt:i<d.length
  ·obtain ⟨b,off,cap',av,kv,sv,e1,-,-,-,hN⟩:=hD.node i hlt
   simp at e1
   obtain ⟨rfl,rfl⟩:=e1
   have c0:=hN.live
   have c1:=hN.tag
   have c2:=hN.text
   have c3:=hN.atts
   have c4:=hN.up
   have c5:=hN.kids
   have c6:=hN.hasS
   have c7:=hN.shadow
   have c8:=hN.inS
   have PA:=lH hN.attsAt
   have PK:=lH hN.kidsAt
   have PS:=lH hN.shadowAt
   obtain ⟨la,lk,ls⟩:=HA.o _ (Zl hlt)
   have hst:Hi (d.take (i+1)=d.take i++[d[i]]):=lH (Zk hlt)
   clear hN hD
   generalize hX:d[i]=X at *
   obtain ⟨xl,xt,xx,xa,xu,xk,xh,xs,xi⟩:=X
   simp only at c0 c1 c2 c3 c4 c5 c6 c7 c8 PA PK PS la lk ls
   obtain ⟨ka,kc,rfl,k1,k2⟩:=Rf PK.o
   obtain ⟨sa,sc,rfl,s1,s2⟩:=Rf PS.o
   obtain ⟨aa,ac,rfl,a1,a2⟩:=Rf PA.o
   go_upto_region 5 with fail
   obtain ⟨w0,hw0⟩:∃ w0:World,w0=wr.alloc (.cells #[.bool xl,.string ⟨xt.toArray⟩,.string ⟨xx.toArray⟩,.slice aa xa.length ac,.int .i64 xu,.slice ka xk.length kc,.bool xh,.slice sa xs.length sc,.bool xi] 65):=⟨_,rfl⟩
   have hK:Blk w0 wr.heap.size [.bool xl,.string ⟨xt.toArray⟩,.string ⟨xx.toArray⟩,.slice aa xa.length ac,.int .i64 xu,.slice ka xk.length kc,.bool xh,.slice sa xs.length sc,.bool xi] 65:=by rw [hw0];exact Blk.new' _ _ rfl _ _
   have hB0:Bel wr w0:=by rw [hw0];exact (Br wr).alloc _
   rw [<- hw0]
   clear hw0 c0 c1 c2 c3 c4 c5 c6 c7 c8
   have hS0:qWu wr w0 _:=⟨hB0,hK⟩
   generalize hC:[Value.bool xl,.string ⟨xt.toArray⟩,.string ⟨xx.toArray⟩,.slice aa xa.length ac,.int .i64 xu,.slice ka xk.length kc,.bool xh,.slice sa xs.length sc,.bool xi]=C at *
   have F:∀ W,qWu wr W C->W.cell? ⟨wr.heap.size,3,none⟩=some (.slice aa xa.length ac)/\W.cell? ⟨wr.heap.size,5,none⟩=some (.slice ka xk.length kc)/\W.cell? ⟨wr.heap.size,7,none⟩=some (.slice sa xs.length sc)/\W.frozen? ⟨wr.heap.size,3,none⟩=false/\W.frozen? ⟨wr.heap.size,5,none⟩=false/\W.frozen? ⟨wr.heap.size,7,none⟩=false:=by
    intro W h
    refine ⟨?_,?_,?_,h.2.frozen 3,h.2.frozen 5,h.2.frozen 7⟩
    ·rw [h.2.cell 3,<- hC];rfl
    ·rw [h.2.cell 5,<- hC];rfl
    ·rw [h.2.cell 7,<- hC];rfl
   obtain ⟨q3,q5,q7,f3,f5,f7⟩:=F w0 hS0
   have cA:Hi (∀ W,qWu wr W C->Calls Tryz.prog 174 #[.slice aa xa.length ac] W (fun e W'=>∃ a n c,e=.returned (.slice a n c)/\qWu wr W' C/\Bel W W'/\RowN 2 qK9 wr.heap.size 106 W W' (.slice a n c) xa)):=lH (by
    intro W hW
    refine (qDd m _ xa _ (qQa.later (qQa.mono PA.o (fun _ h=>h) (fun _ _ _ h=>h)) qZa hW.1 hmr) (Za hmr hW.1.size) (by omega)).mono ?_
    rintro e w1 ⟨b1,x1,rfl,o1⟩
    obtain ⟨y1,z1,rfl,_,_⟩:=Rf o1.read
    exact ⟨_,_,_,rfl,hW.bel b1,b1,o1.base_le hW.1.size,fun k hk=>o1.lt k hk⟩)
   have cK:Hi (∀ W,qWu wr W C->Calls Tryz.prog 127 #[.slice ka xk.length kc] W (fun e W'=>∃ a n c,e=.returned (.slice a n c)/\qWu wr W' C/\Bel W W'/\RowN 1 qQf wr.heap.size 3 W W' (.slice a n c) xk)):=lH (by
    intro W hW
    refine (qZv m _ xk _ (qQa.later PK.o qQc hW.1 hmr) (Za hmr hW.1.size) (by omega)).mono ?_
    rintro e w1 ⟨b1,x1,rfl,o1⟩
    obtain ⟨y1,z1,rfl,_,_⟩:=Rf o1.read
    exact ⟨_,_,_,rfl,hW.bel b1,b1,o1.base_le hW.1.size,fun k hk=>o1.lt k hk⟩)
   have cS:Hi (∀ W,qWu wr W C->Calls Tryz.prog 127 #[.slice sa xs.length sc] W (fun e W'=>∃ a n c,e=.returned (.slice a n c)/\qWu wr W' C/\Bel W W'/\RowN 1 qQf wr.heap.size 3 W W' (.slice a n c) xs)):=lH (by
    intro W hW
    refine (qZv m _ xs _ (qQa.later PS.o qQc hW.1 hmr) (Za hmr hW.1.size) (by omega)).mono ?_
    rintro e w1 ⟨b1,x1,rfl,o1⟩
    obtain ⟨y1,z1,rfl,_,_⟩:=Rf o1.read
    exact ⟨_,_,_,rfl,hW.bel b1,b1,o1.base_le hW.1.size,fun k hk=>o1.lt k hk⟩)
   have HS0:=lH hS0.drew
   have HF:=lH F
   clear hS0 F hB0 hK
   go_cut [] from 12 to 23 (fun w3=>∃ a1 n1 c1 a2 n2 c2 a3 n3 c3,OwnE wr C ⟨xl,xt,xx,xa,xu,xk,xh,xs,xi⟩ (.slice a1 n1 c1) (.slice a2 n2 c2) (.slice a3 n3 c3) w3)
   case first=>
    go_region_with (first
 | (go_at_call 174;refine (cA.o _ ?_).mono ?_;(first | exact HS1.o | exact HS0.o);rintro e wa ⟨ya,na,za,rfl,hS1,b1,o1⟩;obtain ⟨q3,q5,q7,f3,f5,f7⟩:=HF.o _ hS1;have HS1:=lH hS1;have BA:=lH b1;have XA:=lH o1;clear hS1 b1 o1)
 | (go_at_call_of 127 (Value.slice ka xk.length kc);refine (cK.o _ ?_).mono ?_;(first | exact HS1.o | exact HS0.o);rintro e wk ⟨yk,nk,zk,rfl,hS1,b1,o1⟩;obtain ⟨q3,q5,q7,f3,f5,f7⟩:=HF.o _ hS1;have HS1:=lH hS1;have BK:=lH b1;have XK:=lH o1;clear hS1 b1 o1)
 | (go_at_call_of 127 (Value.slice sa xs.length sc);refine (cS.o _ ?_).mono ?_;(first | exact HS1.o | exact HS0.o);rintro e ws ⟨ys,ns,zs,rfl,hS1,b1,o1⟩;obtain ⟨q3,q5,q7,f3,f5,f7⟩:=HF.o _ hS1;have HS1:=lH hS1;have BS:=lH b1;have XS:=lH o1;clear hS1 b1 o1))
    all_goals
     go_wp2_with fail
     go_meet
     exact ⟨ya,na,za,yk,nk,zk,ys,ns,zs,ownE_mk HS0.o BA.o XA.o BK.o XK.o BS.o XS.o HS1.o⟩
   case rest=>
    obtain ⟨ya,na,za,yk,nk,zk,ys,ns,zs,hE⟩:=hcut
    clear q3 q5 q7 f3 f5 f7 HS0 HF cA cK cS
    obtain ⟨lab,g1,g2,g3,g4⟩:=zBu (i:=i) HO.o HB.o.size hE
    have e1:=hE.1
    have e2:=hE.2.1
    rw [<- hC] at e2
    have n0:=e2.cell 0
    have n1:=e2.cell 1
    have n2:=e2.cell 2
    have n3:=e2.cell 3
    have n4:=e2.cell 4
    have n5:=e2.cell 5
    have n6:=e2.cell 6
    have n7:=e2.cell 7
    have n8:=e2.cell 8
    simp at n0 n1 n2 n3 n4 n5 n6 n7 n8
    have HE1:=lH (Bt HB.o e1)
    have HO1:=lH g1
    have HR1:=lH g2
    have HL1:=lH g3
    have HL2:=lH g4
    have HS1:Hi (w.heap.size<=wc.heap.size):=lH HE1.o.size
    have hzl:(d.take i).zipIdx.length=i:=by simp;omega
    clear hE e1 e2 g1 g2 g3 g4
    go_wp2_with (at_builtin;go_must (refine qGb rfl _ _ _ rfl zBz (by decide) (rd:=qYj lab w.heap.size) (v:=.slice oa i oc) ?hst zHq (base:=w.heap.size) rfl HO1.o rfl ?hgs (⟨xl,xt,xx,xa,xu,xk,xh,xs,xi⟩,i) ⟨rfl,HR1.o⟩ ?hby ?hmx HS1.o ?_);(case hst=>exact fun w' cs y hg hr=>hr.move (fun b hb h1 h2=>⟨hg.block b hb (fun e=>by have:=HL1.o b e.symm;omega),rfl⟩));(case hgs=>rfl);(case hby=>rw [hzl];omega);(case hmx=>rw [hzl];omega);intro v4 w4 o4 g4 f4;have O4:=lH o4;have G4:=lH g4;have F4:=lH f4;clear o4 g4 f4)
    go_roundw
    case rel=>
     refine ⟨i+1,by omega,by go_num,⟨lab,by rw [hst.o,zVj hti];exact O4.o,fun b hb=>?_⟩,Below.grown HE1.o G4.o HE1.o.size (fun k hk=>(HO1.o.lt k hk).1)⟩
     rcases F4.o with e | ⟨k,e,hk⟩
     ·rw [e] at hb;exact HL1.o b hb
     ·rw [e] at hb;cases hb;exact HL2.o _ hk
    case measure=>simp [intOf];omega
  ·have hT:d.take i=d:=Zn (by omega)
   rw [hT] at HO
   go_wp2
   go_ret
   exact ⟨HB.o,_,rfl,HO.o⟩
end Go.Proofs.YtklbmkaomojciaaGreat

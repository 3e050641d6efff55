/- A call of a Go function, as one step of a region that draws its order. -/
import Derived.Test.YthbhcdbedfimhaaGreatDoorOwnRow
namespace Go.Proofs.YthbhcdbedfimhaaGreatDoor
open Go.RowKit
theorem qZ6 {P:Program} {w:World} {o:Oper} {a:Act} {K:Act->World->Prop} {Q:Exit->Act->World->Prop} {E:Prop} {O:Array Oper} (hg:o.guard=none)
 (f:FuncId) (g:∀ args w,(callFunc f args).run P w=.ok (.enter f args) w) (xs:Array Operand) (t:Array TypeId) (c:o.op=.call { callee:=.value (.func f),args:=xs,argTypes:=t })
 {vs:Array Value} (hv:xs.map a.eval=vs) {R:Ending->World->Prop} (H:Calls P f vs w R) (h:∀ e w',R e w'->∃ v,e=.returned v/\K (a.put o.dst v) w'):if Region.wanted o (yielded O a.tmps)=true then Oper.wp P o a w K Q else E:=by
 rw [if_pos (by simp [Region.wanted,hg])];subst hv;unfold Oper.wp;simp [execOp,c,resolve,Deferred.ofValue,Act.eval,invoke,g];refine H.mono (fun e w' r=>?_);obtain ⟨v,rfl,b⟩:=h e w' r;exact b
end Go.Proofs.YthbhcdbedfimhaaGreatDoor
namespace Go.Proofs.YthbhcdbedfimhaaGreatDoor
structure Hd where
 node:Int:=0
 role:Int:=0
 name:Txt:=[]
 about:Txt:=[]
 level:Int:=0
 checked:Int:=0
 off:Bool:=false
 deriving DecidableEq
inductive It where
 | mk (h:Hd) (kids:List It)
variable {l:List It} {j:Nat}
def It.h:It->Hd
 | .mk h _=>h
def It.kids:It->List It
 | .mk _ k=>k
mutual
def nodesI:It->List Int
 | .mk h k=>h.node::nodesL k
def nodesL:List It->List Int
 | []=>[]
 | x::l=>nodesI x++nodesL l
end
theorem qZn:∀ l:List It,nodesL l=l.flatMap nodesI
 | []=>rfl
 | x::l=>by rw [nodesL,List.flatMap_cons,qZn l]
theorem qKy (x:It):nodesI x=x.h.node::nodesL x.kids:=by cases x;rfl
theorem zWf (l:List It) (x:It):nodesL (l++[x])=nodesL l++(x.h.node::nodesL x.kids):=by
 rw [qZn,qZn,List.flatMap_append,List.flatMap_cons,List.flatMap_nil,List.append_nil,qKy]
theorem qD8 (h:j<l.length):nodesL (l.take (j+1))=nodesL (l.take j)++(l[j].h.node::nodesL l[j].kids):=by
 rw [Zk h,zWf]
theorem qHz (l:List It):l.length<=(nodesL l).length:=by
 induction l with
 | nil=>simp
 | cons x l i=>
   rw [nodesL,qKy];simp;omega
theorem zY1 (H:j<l.length):(nodesL (l.take j)).length+1+(nodesL l[j].kids).length<=(nodesL l).length:=by
 have h:nodesL l=nodesL (l.take (j+1))++nodesL (l.drop (j+1)):=by
  rw [qZn,qZn,qZn,<- List.flatMap_append,List.take_append_drop]
 rw [h,qD8 H];simp;omega
end Go.Proofs.YthbhcdbedfimhaaGreatDoor
namespace Go.Proofs.YthbhcdbedfimhaaGreatDoor
open Go.RowKit
variable {l:List It} {S:List Nat} {base k k' m n sz:Nat} {B C:Nat->Prop} {α:Type} {e:TypeId} {v:Value} {w w':World}
def qQe (h:Hd) (v:Value):List Value:=[.int .i64 h.node,.int .i64 h.role,.string ⟨h.name.toArray⟩,.string ⟨h.about.toArray⟩,.int .i64 h.level,.int .i64 h.checked,.bool h.off,v]
def rdIt (B:Nat->Prop):Nat->World->List Value->It->Prop
 | 0,_,_,_=>False
 | k+1,w,cs,x=>∃ v,cs=qQe x.h v/\qQa 8 (rdIt B k) B w v x.kids
abbrev ItsK (B:Nat->Prop) (k:Nat):World->Value->List It->Prop:=qQa 8 (rdIt B k) B
theorem rdIt.agree (ha:qZs B w w'):∀ {k:Nat} {cs:List Value} {x:It},rdIt B k w cs x->rdIt B k w' cs x:=by
 intro k;induction k with
 | zero=>intro cs x h;exact h.elim
 | succ k i=>
   intro cs x h;obtain ⟨v,H,a⟩:=h;exact ⟨v,H,a.agree ha (fun cs x _ r=>i r)⟩
theorem rdIt.mono (c:∀ b,B b->C b):∀ {k:Nat} {cs:List Value} {x:It},rdIt B k w cs x->rdIt C k w cs x:=by
 intro k;induction k with
 | zero=>intro cs x h;exact h.elim
 | succ k i=>
   intro cs x h;obtain ⟨v,H,a⟩:=h;exact ⟨v,H,a.mono c (fun cs x _ r=>i r)⟩
theorem ItsK.agree (h:ItsK B k w v l) (ha:qZs B w w'):ItsK B k w' v l:=qQa.agree h ha (fun _ _ _ H=>H.agree ha)
theorem ItsK.mono (h:ItsK B k w v l) (H:∀ b,B b->C b):ItsK C k w v l:=qQa.mono h H (fun _ _ _ r=>r.mono H)
theorem rdIt.more:∀ {k:Nat} {cs:List Value} {x:It},rdIt B k w cs x->rdIt B (k+1) w cs x:=by
 intro k;induction k with
 | zero=>intro cs x h;exact h.elim
 | succ k i=>
   intro cs x h;obtain ⟨v,H,a⟩:=h;exact ⟨v,H,a.mono (fun _ h=>h) (fun cs x _ r=>i r)⟩
theorem rdIt.le (H:k<=k') {cs:List Value} {x:It} (h:rdIt B k w cs x):rdIt B k' w cs x:=by
 induction H with
 | refl=>exact h
 | step _ i=>exact i.more
theorem ItsK.le (H:k<=k') (h:ItsK B k w v l):ItsK B k' w v l:=qQa.mono h (fun _ h=>h) (fun _ _ _ r=>r.le H)
theorem ItsK.later (h:ItsK (·<n) k w v l) (H:Below m w w') (a:n<=m):ItsK (·<n) k w' v l:=
 h.agree (qZs.mono (qZs.below H) (fun _ H=>Zc H a))
theorem ItsK.raise (h:ItsK (·<n) k w v l) (H:n<=m):ItsK (·<m) k w v l:=h.mono (fun _ h=>Zc h H)
theorem ItsK.up (h:ItsK (·<m) k w v l) (H:Bel w w') (hm:m<=w.heap.size):ItsK (·<w'.heap.size) k w' v l:=(h.later H hm).raise (Za hm H.size)
structure ItC (B:Nat->Prop) (k:Nat) (w:World) (b o:Nat) (x:It) (kv:Value):Prop where
 node:w.cell? ⟨b,o,none⟩=some (.int .i64 x.h.node)
 role:w.cell? ⟨b,o+1,none⟩=some (.int .i64 x.h.role)
 name:w.cell? ⟨b,o+2,none⟩=some (.string ⟨x.h.name.toArray⟩)
 about:w.cell? ⟨b,o+3,none⟩=some (.string ⟨x.h.about.toArray⟩)
 level:w.cell? ⟨b,o+4,none⟩=some (.int .i64 x.h.level)
 checked:w.cell? ⟨b,o+5,none⟩=some (.int .i64 x.h.checked)
 off:w.cell? ⟨b,o+6,none⟩=some (.bool x.h.off)
 kids:w.cell? ⟨b,o+7,none⟩=some kv
 kidsAt:ItsK B k w kv x.kids
theorem ItsK.item (h:ItsK B k w v l) (i:Nat) (s:i<l.length) :
 ∃ b o c kv k',k=k'+1/\v=.slice (some ⟨b,o,none⟩) l.length c/\l.length<=c/\c<=9223372036854775807/\B b/\ItC B k' w b (o+i*8) l[i] kv:=by
 obtain ⟨a,t,E,g,p⟩:=Rf h;obtain ⟨b,o,c,u,d,q,x,H,f⟩:=qQa.elem h i s;rw [d] at E;simp at E;obtain ⟨_,rfl⟩:=E;cases k with
 | zero=>exact f.elim
 | succ k=>
   obtain ⟨kv,rfl,r⟩:=f;exact ⟨b,o,c,kv,k,rfl,d,g,p,q,by simpa using H 0 _ rfl,H 1 _ rfl,H 2 _ rfl,H 3 _ rfl,H 4 _ rfl,H 5 _ rfl,H 6 _ rfl,H 7 _ rfl,r⟩
theorem qWi:SlT Tryz.prog 26 59 8 96:=by
 refine ⟨by kernel_rfl,?_⟩;obtain ⟨i,h,H,a,b⟩:=info_parts (by kernel_rfl:(Tryz.prog.info? 59).map (fun i=>(i.zero,i.size,i.bytes))=some (some (.agg #[.int .i64 0,.int .i64 0,.string ⟨#[]⟩,.string ⟨#[]⟩,.int .i64 0,.int .i64 0,.bool false,.slice none 0 0]),8,96));exact ⟨i,_,h,H,a,b,rfl⟩
theorem qKo {P:Program} {O:Array Oper} {rest:List Oper} {o:Oper} {a:Act} {Q:Exit->Act->World->Prop} (hg:o.guard=none)
 (s x:Operand) (t:TypeId) (ho:o.op=.call {callee:=.builtin .append,args:=#[s,x],argTypes:=#[t,t] } )
 {J:Nat} (S:SlT P t e sz J) (a5:0<sz) {rd:World->List Value->α->Prop} (hst:∀ w' cs y,w.grownBy w' v.ownBlock->rd w cs y->rd w' cs y) (M:∀ w cs y,rd w cs y->∀ u∈cs,u.oneCell'=true)
 {l:List α} (hs:a.eval s=v) (G:qQb sz rd base e w v l) {C:Array Value} {E:TypeId} {g:Nat} (hx:a.eval x=.slice (some ⟨g,0,none⟩) 1 1) (hgs:g=w.heap.size) (y:α)
 (hC:C.size=sz/\rd w C.toList y) (R:(l.length+1)*J<=140737488355328) (a0:l.length+1<=9223372036854775807) (a6:base<=w.heap.size)
 (h:∀ z w',qQb sz rd base e w' z (l++[y])->w.grownBy w' v.ownBlock->qQ9 w v z->wpList P O Q rest (a.put o.dst z) w'):wpList P O Q (o::rest) a (w.alloc (.cells C E)):=by
 subst hgs;have A:∀ cs Y,rd w cs Y->rd (w.alloc (.cells C E)) cs Y:=fun cs Y h=>hst _ _ _ (World.grownBy_alloc w _ _) h;have a3:=qJ0 (rd:=rd) (sz:=sz) w C.toList E y (by simpa using hC.1) (by simp only [Array.toArray_toList];exact A _ _ hC.2);simp only [Array.toArray_toList] at a3;have a1:qQb sz rd base e (w.alloc (.cells C E)) v l:=G.agree (fun b F=>Below.heap_alloc w _ b (G.lt b F).2) (fun _ _ _ H=>A _ _ H);obtain ⟨r,p⟩:∃ r:World->List Value->α->Prop,r=fun W cs Y=>rd w cs Y/\rd W cs Y:=⟨_,rfl⟩;have up:∀ {W V m},qQb sz r base e W V m->qQb sz rd base e W V m:=fun U=>by
  obtain ⟨X,I,q,D⟩:=U;exact ⟨X,I,fun i c d=>⟨(q i c d).1,by have:=(q i c d).2;rw [p] at this;exact this.2⟩,D⟩
 have a2:qQb sz r base e (w.alloc (.cells C E)) v l:=by
  obtain ⟨X,I,q,D⟩:=G;obtain ⟨a7,p1,p2,p3⟩:=a1;refine ⟨X,I,fun i c d=>⟨(q i c d).1,by rw [p];exact ⟨(q i c d).2,A _ _ (q i c d).2⟩⟩,qJ3 D (fun b F=>Below.heap_alloc w _ b (D.lt b F).2)⟩
 have a4:qQa sz r (·=w.heap.size) (w.alloc (.cells C E)) (.slice (some ⟨w.heap.size,0,none⟩) 1 1) [y]:=by
  have:=qJ0 (rd:=r) (sz:=sz) w C.toList E y (by simpa using hC.1) (by simp only [Array.toArray_toList];rw [p];exact ⟨hC.2,A _ _ hC.2⟩);simpa only [Array.toArray_toList] using this
 refine qZf hg s x t ho S a5 hs a2 hx a4 (fun cs Y _ H=>M _ _ _ (by rw [p] at H;exact H.2)) (by simpa using R) (by simpa using a0) (by simp;omega)
  (fun w' T cs Y _ H=>by
   rw [p] at H ⊢;exact ⟨H.1,hst _ _ _ (qQm (World.grownBy_alloc w _ _) T) H.1⟩) ?_
 intro z w' K N _ f;refine h z w' (up K) (qQm (World.grownBy_alloc w _ _) N) ?_;rcases f with f | ⟨k,f,Z⟩
 ·exact .inl f
 ·exact .inr ⟨k,f,by simp at Z;omega⟩
theorem qQa.conv {d:Type} {rd:World->List Value->α->Prop} {rd':World->List Value->d->Prop} {l:List α} {l':List d} (h:qQa sz rd B w v l) (a:l.length=l'.length)
 (u:∀ i (H:i<l.length) (q:i<l'.length) b c,v.ownBlock=some b->B b->rd w c l[i]->C b/\rd' w c l'[i]):qQa sz rd' C w v l':=by
 rcases h with ⟨rfl,rfl⟩ | ⟨b,O,p,H,q,r,s⟩
 ·left;refine ⟨rfl,?_⟩;cases l' with
  | nil=>rfl
  | cons=>simp at a
 ·refine .inr ⟨b,O,p,by rw [H,a],by omega,r,fun i t=>?_⟩;obtain ⟨g,c,G,f,o⟩:=s i (by omega);obtain ⟨R,x⟩:=u i (by omega) t b c (by rw [H];rfl) g o;exact ⟨R,c,G,f,x⟩
def rdO (base:Nat):Nat->World->List Value->It×List Nat->Prop
 | 0,_,_,_=>False
 | k+1,w,cs,y=>∃ (v:Value) (Ss:List (List Nat)),cs=qQe y.1.h v/\Ss.length=y.1.kids.length/\qQb 8 (rdO base k) base 59 w v (y.1.kids.zip Ss)/\y.2=v.ownBlock.toList++Ss.flatten/\y.2.Nodup
def OwnT (base k:Nat) (w:World) (v:Value) (l:List It) (S:List Nat):Prop:=
 ∃ Ss:List (List Nat),Ss.length=l.length/\qQb 8 (rdO base k) base 59 w v (l.zip Ss)/\S=v.ownBlock.toList++Ss.flatten/\S.Nodup
theorem jZf {s:List (List Nat)} {y:It×List Nat} (h:y∈l.zip s):y.2∈s:=(List.of_mem_zip (a:=y.1) (b:=y.2) h).2
theorem rdO.lt:∀ {k:Nat} {cs:List Value} {y:It×List Nat},rdO base k w cs y->∀ b∈y.2,base<=b/\b<w.heap.size:=by
 intro k;induction k with
 | zero=>intro cs y h;exact h.elim
 | succ k I=>
   intro cs y h b H;obtain ⟨v,s,_,p,O,a,_⟩:=h;rw [a] at H;rcases List.mem_append.1 H with H | H
   ·exact O.lt b (by simpa using H)
   ·obtain ⟨S,c,d⟩:=List.mem_flatten.1 H;obtain ⟨i,o,rfl⟩:=List.getElem_of_mem c;obtain ⟨x,G,g,f⟩:=O;have z:i<(y.1.kids.zip s).length:=(by simp;omega);have:=(g i z (by omega)).2;refine I this b ?_;rw [List.getElem_zip];exact d
theorem OwnT.lt (h:OwnT base k w v l S):∀ b∈S,base<=b/\b<w.heap.size:=by
 obtain ⟨s,H,a,c,d⟩:=h;exact rdO.lt (k:=k+1) (cs:=_) (y:=(It.mk {} l,S)) ⟨v,s,rfl,H,a,c,d⟩
theorem qQb.redo {rd rd':World->List Value->α->Prop} {l:List α} (h:qQb sz rd base e w v l) (ha:∀ b,v.ownBlock=some b->w'.heap[b]?=w.heap[b]?) (r:∀ cs x,x∈l->rd w cs x->rd' w' cs x):qQb sz rd' base e w' v l:=by
 obtain ⟨X,d,a,f⟩:=h;exact ⟨X,d,fun i H c=>⟨(a i H c).1,r _ _ (Zl H) (a i H c).2⟩,qJ3 f ha⟩
theorem rdO.agree:∀ {k:Nat} {cs:List Value} {y:It×List Nat},rdO base k w cs y->(∀ b∈y.2,w'.heap[b]?=w.heap[b]?)->rdO base k w' cs y:=by
 intro k;induction k with
 | zero=>intro cs y h;exact h.elim
 | succ k i=>
   intro cs y h c;obtain ⟨v,s,d,f,O,H,N⟩:=h;refine ⟨v,s,d,f,O.redo (fun b a=>c b (by rw [H,a];simp)) (fun cs x g r=>i r (fun b a=>c b ?_)),H,N⟩;rw [H];exact List.mem_append_right _ (List.mem_flatten.2 ⟨_,jZf g,a⟩)
theorem rdO.base_le {base':Nat} (b:base'<=base):∀ {k:Nat} {cs:List Value} {y:It×List Nat},rdO base k w cs y->rdO base' k w cs y:=by
 intro k;induction k with
 | zero=>intro cs y h;exact h.elim
 | succ k i=>
   intro cs y h;obtain ⟨v,s,H,c,O,a,N⟩:=h;exact ⟨v,s,H,c,(O.redo (fun _ _=>rfl) (fun cs x _ r=>i r)).base_le b,a,N⟩
theorem OwnT.agree (h:OwnT base k w v l S) (ha:∀ b∈S,w'.heap[b]?=w.heap[b]?):OwnT base k w' v l S:=by
 obtain ⟨s,H,f,i,o⟩:=h;obtain ⟨p,a,e,g,G,c,d⟩:=rdO.agree (k:=k+1) (cs:=qQe {} v) (y:=(It.mk {} l,S)) ⟨v,s,rfl,H,f,i,o⟩ ha;have:v=p:=by unfold qQe at e;simp at e;exact e.2.2.2.2.2.2.2
 subst this;exact ⟨a,g,G,c,d⟩
theorem OwnT.below (h:OwnT base k w v l S) (H:Bel w w'):OwnT base k w' v l S:=
 h.agree (fun b a=>H.block b (h.lt b a).2)
theorem rdO.its:∀ {k:Nat} {cs:List Value} {y:It×List Nat},rdO base k w cs y->rdIt (fun b=>b∈y.2) k w cs y.1:=by
 intro k;induction k with
 | zero=>intro cs y h;exact h.elim
 | succ k I=>
   intro cs y h;obtain ⟨v,s,c,g,O,H,N⟩:=h;refine ⟨v,c,O.row.conv (by simp;omega) (fun i d f b cs hv a r=>?_)⟩;refine ⟨by rw [H,hv];simp,?_⟩;have:=I r;rw [List.getElem_zip] at this;refine this.mono (fun b a=>?_);rw [H];exact List.mem_append_right _ (List.mem_flatten.2 ⟨_,Zl _,a⟩)
theorem OwnT.its (h:OwnT base k w v l S):ItsK (·∈S) k w v l:=by
 obtain ⟨s,H,a,b,c⟩:=h;obtain ⟨d,e,g⟩:=rdO.its (k:=k+1) (cs:=qQe {} v) (y:=(It.mk {} l,S)) ⟨v,s,rfl,H,a,b,c⟩;have:v=d:=by unfold qQe at e;simp at e;exact e.2.2.2.2.2.2.2
 subst this;exact g
theorem OwnT.read (h:OwnT base k w v l S):ItsK (·<w.heap.size) k w v l:=h.its.mono (fun b H=>(h.lt b H).2)
end Go.Proofs.YthbhcdbedfimhaaGreatDoor
set_option maxRecDepth 100000
set_option maxHeartbeats 4000000
namespace Go.Proofs.YthbhcdbedfimhaaGreatDoor
open Go.RowKit Go.Lib
variable {V W:World}
structure Ic where
 h:Hd
 a:Option Addr
 n:Nat
 c:Nat
def rdIc:World->List Value->Ic->Prop:=fun _ cs y=>cs=qQe y.h (.slice y.a y.n y.c)
theorem one_ic:∀ (w:World) (cs:List Value) (y:Ic),rdIc w cs y->∀ u∈cs,u.oneCell'=true:=by
 intro w cs y h u H;cases h;simp [qQe] at H;rcases H with rfl | rfl | rfl | rfl | rfl | rfl | rfl | rfl <;> rfl
theorem drew_h {h:Array Obj} (e:W.heap=h):W.drew.heap=h:=e
theorem drew_o (e:W.os=V.os):W.drew.os=V.os:=e
theorem drew_t (e:W.tape=V.tape):W.drew.tape=V.tape:=e
theorem drew_p (e:W.output=V.output):W.drew.output=V.output:=e
theorem zGp (a b c d e f g h:Value):(Builtin.zeroCells #[a,b,c,d,e,f,g,h] 1).toList=[a,b,c,d,e,f,g,h]:=by
 simp [Builtin.zeroCells];rfl
def encIts (y:Ic):List Value:=qQe y.h (.slice y.a y.n y.c)
theorem qQp (y:Ic):(encIts y).length=8:=rfl
theorem qY2 (l:List Ic):∀ v∈l.flatMap encIts,v.oneCell'=true:=by
 intro v hv;obtain ⟨y,_,hv⟩:=List.mem_flatMap.1 hv;simp [encIts,qQe] at hv;rcases hv with rfl | rfl | rfl | rfl | rfl | rfl | rfl | rfl <;> rfl
theorem qFc (base:Nat) (v:Value) (l:List Ic) (i q:Nat) (y:Ic) (w:World) (M:qQb 8 rdIc base 59 w v l) (hb:base<=w.heap.size) (hi:i<=l.length) (hl:l.length<=1000000000) (p:Blk w q (encIts y) 59) (bp:v.ownBlock≠some q) :
 Calls Tryz.prog 62 #[v,.int .i64 i,.slice (some ⟨q,0,none⟩) 1 1] w fun e w'=>∃ v',e=.returned v'/\qQb 8 rdIc base 59 w' v' (l.take i++[y]++l.drop i)/\w.grownBy w' v.ownBlock/\qQ9 w v v':=by
 by_cases bl:i=l.length
 ·subst bl;have b6:qQa 8 rdIc (fun _=>True) w (.slice (some ⟨q,0,none⟩) 1 1) [y]:=rowE qQp p;have HR:=lH b6;have HO:=lH M;obtain ⟨ap,aq,rfl,a1,a2⟩:=Rf M.read;rw [List.take_length,List.drop_length,List.append_nil];clear b6 M p;by_cases hc:aq=l.length
  ·subst hc;go_enter Tryz.func62,Tryz.ntmps62
   go_wp2_with (at_builtin;go_must (refine qZf rfl _ _ _ rfl qWi (by decide) (v:=.slice ap l.length l.length) rfl HO.o rfl HR.o (fun P y _ h=>one_ic _ P y h) ?hby ?hmx hb (fun _ _ _ _ _ h=>h) ?_);(case hby=>simp only [Zm,List.length_nil];omega);(case hmx=>simp only [Zm,List.length_nil];omega);intro v3 w3 O T _ Q;have ae:=lH O;have ad:=lH T;have ab:=lH Q;clear O T Q)
   go_ret;exact ⟨_,rfl,ae.o,ad.o,ab.o⟩
  ·go_enter Tryz.func62,Tryz.ntmps62
   go_wp2_with (at_builtin;go_must (refine qZf rfl _ _ _ rfl qWi (by decide) (v:=.slice ap l.length aq) rfl HO.o rfl HR.o (fun P y _ h=>one_ic _ P y h) ?hby ?hmx hb (fun _ _ _ _ _ h=>h) ?_);(case hby=>simp only [Zm,List.length_nil];omega);(case hmx=>simp only [Zm,List.length_nil];omega);intro v3 w3 O T _ Q;have ae:=lH O;have ad:=lH T;have ab:=lH Q;clear O T Q)
   go_ret;exact ⟨_,rfl,ae.o,ad.o,ab.o⟩
 ·have b1:i<l.length:=by omega
  rcases blkE qQp (show qQb 8 (fun _ P bv=>P=encIts bv) base 59 w v l from M) with ⟨_,rfl⟩ | ⟨g,A,C,rfl,bf,K,au,c2,bh,ht⟩
  ·simp at b1
  ·have az:q≠g:=fun e=>bp (by rw [e];rfl);have bk:=K.lt;have b4:=p.lt;obtain ⟨i0,a7,ao,aa,a9⟩:=info_parts (by kernel_rfl:(Tryz.prog.info? 59).map (fun i=>(i.zero,i.size,i.bytes))=some (some (Value.agg #[.int .i64 0,.int .i64 0,.string ⟨#[]⟩,.string ⟨#[]⟩,.int .i64 0,.int .i64 0,.bool false,.slice none 0 0]),8,96));have N:(Tryz.prog.info? 59).map (·.size)=some 8:=(by rw [a7];simp [aa]);have c5:((i:Int)==(l.length:Int))=false:=(by simp;omega);have a5:∀ j (h:j<(l.flatMap encIts).length),C[j]?=some (l.flatMap encIts)[j]:=fun j h=>by
    have D:=congrArg (fun bu=>bu[j]?) ht;have h3:j<l.length*8:=(by rw [qQv qQp] at h;exact h);simp only [List.getElem?_take,h3,if_true] at D;rw [D,Zi h]
   have am:(l.flatMap encIts).length=l.length*8:=qQv qQp l;have a8:l.flatMap encIts=(l.take i).flatMap encIts++(l.drop i).flatMap encIts:=(by rw [<- List.flatMap_append,List.take_append_drop]);have z:((l.take i).flatMap encIts).length=i*8:=(by rw [qQv qQp,List.length_take,Nat.min_eq_left hi]);have F:((l.drop i).flatMap encIts).length=(l.length - i)*8:=(by rw [qQv qQp,List.length_drop]);have a6:∀ j u,((l.drop i).flatMap encIts)[j]?=some u->C[i*8+j]?=some u:=fun j u b=>by
    have c:j<((l.drop i).flatMap encIts).length:=(List.getElem?_eq_some_iff.1 b).1;rw [a5 (i*8+j) (by rw [am];omega)];rw [<- b,<- Zi (by rw [am];omega),a8,List.getElem?_append_right (by omega),z];congr 1;omega
   by_cases b5:l.length+1<=A
   ·
    obtain ⟨f,C2,e1,e2,e3,e4,e5⟩:=qBw qQp y b1 ht (by rw [au];exact Nat.mul_le_mul_right _ b5);have bo:∀ lb cb,(callFunc 106 #[.slice (some ⟨q,0,none⟩) 1 1,.slice (some ⟨g,(i+1)*8,none⟩) lb cb]).run Tryz.prog w=.ok (.value (.bool false)) w:=fun lb cb=>by
     rw [run_callFunc_extern Tryz.func106 (by kernel_rfl) (by kernel_rfl) (by kernel_rfl) (e:=Extern.SlicesOverlaps.overlaps #[26,26] #[4]) (by kernel_rfl),
      Lib.run_overlaps_apart w 26 4 59 Tryz.underlying26 8 (fun w=>by simp) ⟨q,0,none⟩ ⟨g,(i+1)*8,none⟩ 1 1 lb cb az 59 59 8 C.length (by unfold Blk at p;simp [World.shape?,p,encIts,qQe]) (by unfold Blk at K;simp [World.shape?,K]) (by omega) (p.frozen 0) (p.frozen _)]
     rfl
    have aw:∀ t d s,(Builtin.copy_ #[26,26] t #[.slice (some ⟨g,(i+1)*8,none⟩) (l.length - i) d,.slice (some ⟨g,i*8,none⟩) (l.length+1 - i) s]).run Tryz.prog w.drew=.ok (goInt (Nat.min (l.length+1 - i) (l.length - i))) (w.drew.setCells g ((i+1)*8) ((l.drop i).flatMap encIts)):=fun t d s=>by
     have J:=qZe w.drew 26 26 t 59 8 g ((i+1)*8) (l.length - i) d ⟨g,i*8,none⟩ (l.length+1 - i) s _ Tryz.underlying26 N (by rw [F];simp only [Nat.min_def];split <;> omega)
      (fun j u b=>by rw [Addr.add_lit,K.drew.cell];exact a6 j u b)
      (fun j c=>by rw [K.drew.cell,Zi (by omega)];rfl) (fun j c=>K.drew.frozen _) (qY2 _)
     exact J
    obtain ⟨a,x⟩:∃ a,a=w.drew.setCells g ((i+1)*8) ((l.drop i).flatMap encIts):=⟨_,rfl⟩;have ai:Blk a g f 59:=(by rw [x,e1];exact qZd g _ _ _ _ _ K.drew (by omega));have E:w.grownBy a (some g):=(by rw [x];exact qQm (qY0 (World.grownBy.refl _ _)) (qQ2 _ _ _ _));have b3:Blk a q (encIts y) 59:=p.of (E.block q b4 (fun e=>az (Option.some.inj e)));have bi:∀ (W:World),W.heap=a.heap->∀ t d,(Builtin.copy_ #[26,26] t #[.slice (some ⟨g,i*8,none⟩) (l.length+1 - i) d,.slice (some ⟨q,0,none⟩) 1 1]).run Tryz.prog W=.ok (goInt (Nat.min 1 (l.length+1 - i))) (W.setCells g (i*8) (encIts y)):=fun W H t d=>by
     have o:Blk W g f 59:=(by unfold Blk;rw [H];exact ai);have an:Blk W q (encIts y) 59:=(by unfold Blk;rw [H];exact b3);have J:=qZe W 26 26 t 59 8 g (i*8) (l.length+1 - i) d ⟨q,0,none⟩ 1 1 (encIts y) Tryz.underlying26 N (by rw [qQp];simp only [Nat.min_def];split <;> omega)
      (fun j u b=>by rw [Addr.add_lit,Nat.zero_add,an.cell];exact b)
      (fun j c=>by rw [qQp] at c;rw [o.cell,Zi (by omega)];rfl) (fun j c=>o.frozen _) (fun u b=>qY2 [y] u (by simpa using b))
     exact J
    have X:∀ W:World,W.heap=a.heap->W.os=a.os->W.tape=a.tape->W.output=a.output->qQb 8 rdIc base 59 (W.setCells g (i*8) (encIts y)) (.slice (some ⟨g,0,none⟩) (l.length+1) A) (l.take i++[y]++l.drop i)/\w.grownBy (W.setCells g (i*8) (encIts y)) (some g):=fun W H o1 o2 O=>by
     have o:Blk W g f 59:=(by unfold Blk;rw [H];exact ai);have bc:w.grownBy W (some g):=⟨o1.trans E.os,o2.trans E.tape,O.trans E.output,by rw [H];exact E.size,fun k I hr=>by rw [H];exact E.block k I hr⟩;have D:=qZd g 59 (encIts y) (i*8) W f o (by rw [qQp,e3];omega);rw [<- e2] at D;have Y:(l.take i++[y]++l.drop i).length=l.length+1:=(by simp;omega);exact ⟨ownE qQp D bf Y.symm (by rw [e4];exact au) (by rw [Y];exact b5) bh e5,qQm bc (qQ2 _ _ _ _)⟩
    have ac:=lH X;have bq:¬ ((A:Int)<(l.length:Int)+1):=(by omega);have bm:IntKind.i64.wrap ((l.length:Int)+1)=(l.length:Int)+1:=(by rw [IntKind.wrap_i64];omega);have bn:IntKind.i64.wrap ((i:Int)+1)=(i:Int)+1:=(by rw [IntKind.wrap_i64];omega);have c1:decide ((l.length:Int)+1 > (A:Int))=false:=(by simpa using bq);have be:¬ (A=i):=(by omega);have hb1:(0:Int)<=(i:Int)+1:=(by omega);have bs:((i:Int)+1).toNat=i+1:=(by omega);have hb3:(i:Int)<=(l.length:Int)+1:=(by omega);have bz:¬ (A=i+1):=(by omega);clear X ht e1 e2 e3 e4 e5 a5 a8 z F a6 M p K ai E b3 a7 ao aa a9 N;rw [<- x] at aw;clear x;generalize encIts y=Y8 at *
    go_enter Tryz.func62,Tryz.ntmps62
    go_wp2_with (simp only [bo])
    go_region_law (refine step_copy_runI rfl _ _ 26 26 rfl _ _ (by simp [Act.eval,Act.put]) (by simp [Act.eval,Act.put]) (aw _ _ _) ?_)
    go_wp2_with (at_builtin;refine wpList_copy_runI _ rfl _ _ 26 26 rfl _ _ rfl rfl (bi _ rfl _ _) ?_)
    go_ret;obtain ⟨f1,f2⟩:=ac.o _ rfl rfl rfl rfl;skip
    exact ⟨_,rfl,f1,f2,.inl rfl⟩
   ·
    obtain rfl:A=l.length:=(by omega);have c4:i*8<=l.length*8:=Nat.mul_le_mul_right 8 hi;have b2:(Builtin.firstCells i0.size i (.slice (some ⟨g,0,none⟩) i l.length)).run Tryz.prog w.drew=.ok ((l.take i).flatMap encIts).toArray w.drew:=by
     rw [aa];exact run_firstCells_some w.drew 8 i ⟨g,0,none⟩ i l.length _ (by rw [z]) (fun j u b=>by
      have c:=(List.getElem?_eq_some_iff.1 b).1;have b0:j<(l.flatMap encIts).length:=(by rw [am];rw [z] at c;omega);rw [Addr.add_lit,Nat.zero_add,K.drew.cell,a5 j b0,<- b,<- Zi b0,a8,List.getElem?_append_left c])
    obtain ⟨G,hG⟩:∃ G,G=grownCap w (l.length+1) l.length 59:=⟨_,rfl⟩;have bd:l.length+1<=G:=(by rw [hG];exact grownCap_ge w _ _ _);have bb:G<=9223372036854775807:=by
     have:=grownCap_le_maxLen w (l.length+1) l.length 59 (by unfold maxLen;omega);rw [<- hG] at this;unfold maxLen at this;omega
    obtain ⟨R,a3⟩:∃ R:Array Value,R=((l.take i).flatMap encIts).toArray++Builtin.zeroCells ((Value.agg #[.int .i64 0,.int .i64 0,.string ⟨#[]⟩,.string ⟨#[]⟩,.int .i64 0,.int .i64 0,.bool false,.slice none 0 0])).cells (l.length+1 - i)++Builtin.zeroCells ((Value.agg #[.int .i64 0,.int .i64 0,.string ⟨#[]⟩,.string ⟨#[]⟩,.int .i64 0,.int .i64 0,.bool false,.slice none 0 0])).cells (G - (l.length+1)):=⟨_,rfl⟩;have bt:((Value.agg #[.int .i64 0,.int .i64 0,.string ⟨#[]⟩,.string ⟨#[]⟩,.int .i64 0,.int .i64 0,.bool false,.slice none 0 0])).cells.size=8:=rfl;have al:R.toList.length=G*8:=by
     rw [a3,Array.length_toList,Array.size_append,Array.size_append,size_zeroCells,size_zeroCells,List.size_toArray,z,bt];omega
    have av:R.toList.take (i*8)=(l.take i).flatMap encIts:=by
     rw [a3,Array.toList_append,Array.toList_append,List.append_assoc,List.take_left' z]
    have br:∀ t,(Builtin.append_ #[26,3] t #[.slice (some ⟨g,0,none⟩) i l.length,.int .i64 ((l.length:Int)+1 - (i:Int))]).run Tryz.prog w=.ok (.slice (some ⟨w.heap.size,0,none⟩) (l.length+1) G) (w.drew.alloc (.cells R 59)):=fun t=>by
     have h:=Lib.run_append_grow_zeros w 26 3 t 59 i0 _ .i64 .i64 Tryz.underlying26 Tryz.underlying3 a7 ao (some ⟨g,0,none⟩) i l.length _ b2 (l.length+1 - i) (by omega) (by omega) (by omega) (by omega) (by rw [a9];omega) (by rw [a9,show i+(l.length+1 - i)=l.length+1 by omega];exact growslice_fits (by omega) (by omega));rw [show i+(l.length+1 - i)=l.length+1 by omega,<- hG,<- a3] at h;rw [show (l.length:Int)+1 - (i:Int)=((l.length+1 - i:Nat):Int) by omega];exact h
    obtain ⟨a,x⟩:∃ a,a=w.drew.alloc (.cells R 59):=⟨_,rfl⟩;have aj:Blk a w.heap.size R.toList 59:=(by rw [x];exact Blk.new' w.drew w.heap.size rfl R _);have af:Bel w a:=(by rw [x];exact ((Br w).drew).alloc _);have b7:∀ k,k<w.heap.size->a.heap[k]?=w.heap[k]?:=fun k I=>af.block k I;have ax:∀ (W:World),W.heap=a.heap->∀ t d,(Builtin.copy_ #[26,26] t #[.slice (some ⟨w.heap.size,i*8,none⟩) (l.length+1 - i) d,.slice (some ⟨q,0,none⟩) 1 1]).run Tryz.prog W=.ok (goInt (Nat.min 1 (l.length+1 - i))) (W.setCells w.heap.size (i*8) (encIts y)):=fun W H t d=>by
     have o:Blk W w.heap.size R.toList 59:=(by unfold Blk;rw [H];exact aj);have an:Blk W q (encIts y) 59:=p.of (by rw [H];exact b7 q b4);have J:=qZe W 26 26 t 59 8 w.heap.size (i*8) (l.length+1 - i) d ⟨q,0,none⟩ 1 1 (encIts y) Tryz.underlying26 N (by rw [qQp];simp only [Nat.min_def];split <;> omega)
      (fun j u b=>by rw [Addr.add_lit,Nat.zero_add,an.cell];exact b)
      (fun j c=>by rw [qQp] at c;rw [o.cell,Zi (by omega)];rfl) (fun j c=>o.frozen _) (fun u b=>qY2 [y] u (by simpa using b))
     exact J
    obtain ⟨f,a0⟩:∃ f,f=R.toList.take (i*8)++encIts y++R.toList.drop (i*8+(encIts y).length):=⟨_,rfl⟩;obtain ⟨r,a4⟩:∃ r,r=a.setCells w.heap.size (i*8) (encIts y):=⟨_,rfl⟩;have ak:Blk r w.heap.size f 59:=(by rw [a4,a0];exact qZd w.heap.size 59 _ _ _ _ aj (by rw [qQp,al];omega));have Z:Bel w r:=(by rw [a4];exact qZ1 (Zb _) _ _ _ af);have ag:f.length=G*8:=(by rw [a0,Zj,Zj,List.length_take,List.length_drop,qQp,al];omega);have ar:f.take ((i+1)*8)=(l.take i).flatMap encIts++encIts y:=by
     rw [a0,av,List.take_left'];rw [Zj,z,qQp];omega
    have ay:∀ (W:World),W.heap=r.heap->∀ t d s,(Builtin.copy_ #[26,26] t #[.slice (some ⟨w.heap.size,(i+1)*8,none⟩) (l.length - i) d,.slice (some ⟨g,i*8,none⟩) (l.length - i) s]).run Tryz.prog W=.ok (goInt (Nat.min (l.length - i) (l.length - i))) (W.setCells w.heap.size ((i+1)*8) ((l.drop i).flatMap encIts)):=fun W H t d s=>by
     have o:Blk W w.heap.size f 59:=(by unfold Blk;rw [H];exact ak);have bj:Blk W g C 59:=K.of (by rw [H];exact Z.block g bk);have J:=qZe W 26 26 t 59 8 w.heap.size ((i+1)*8) (l.length - i) d ⟨g,i*8,none⟩ (l.length - i) s ((l.drop i).flatMap encIts) Tryz.underlying26 N (by rw [F];simp only [Nat.min_def];split <;> omega)
      (fun j u b=>by rw [Addr.add_lit,bj.cell];exact a6 j u b)
      (fun j c=>by rw [F] at c;rw [o.cell,Zi (by omega)];rfl) (fun j c=>o.frozen _) (qY2 _)
     exact J
    have X:∀ W:World,W.heap=r.heap->W.os=w.os->W.tape=w.tape->W.output=w.output->qQb 8 rdIc base 59 (W.setCells w.heap.size ((i+1)*8) ((l.drop i).flatMap encIts)) (.slice (some ⟨w.heap.size,0,none⟩) (l.length+1) G) (l.take i++[y]++l.drop i)/\w.grownBy (W.setCells w.heap.size ((i+1)*8) ((l.drop i).flatMap encIts)) (some g):=fun W H o1 o2 O=>by
     have o:Blk W w.heap.size f 59:=(by unfold Blk;rw [H];exact ak);have D:=qZd w.heap.size 59 ((l.drop i).flatMap encIts) ((i+1)*8) W f o (by rw [F,ag];omega);have Y:(l.take i++[y]++l.drop i).length=l.length+1:=(by simp;omega);have ba:Bel w W:=⟨o1,o2,O,by rw [H];exact Z.size,fun k I=>by rw [H];exact Z.block k I⟩;refine ⟨ownE qQp D (by omega) Y.symm (by rw [Zj,Zj,List.length_take,List.length_drop,F,ag];omega) (by rw [Y];exact bd) bb ?_,?_⟩
     ·rw [ar];exact qFv qQp rfl rfl
     ·have U:Bel w (W.setCells w.heap.size ((i+1)*8) ((l.drop i).flatMap encIts)):=qZ1 (Zb _) _ _ _ ba;exact ⟨U.os,U.tape,U.output,U.size,fun k I _=>U.block k I⟩
    have ac:=lH X;have b9:Hi (qQ9 w (.slice (some ⟨g,0,none⟩) l.length l.length) (.slice (some ⟨w.heap.size,0,none⟩) (l.length+1) G)):=lH (.inr ⟨w.heap.size,rfl,Zb _⟩);have HA:Hi (∀ (W:World),W.heap=a.heap->∀ t d,(Builtin.copy_ #[26,26] t #[.slice (some ⟨w.heap.size,i*8,none⟩) (l.length+1 - i) d,.slice (some ⟨q,0,none⟩) 1 1]).run Tryz.prog W=.ok (goInt (Nat.min 1 (l.length+1 - i))) (W.setCells w.heap.size (i*8) (encIts y))):=lH ax;have HB:Hi (∀ (W:World),W.heap=r.heap->∀ t d s,(Builtin.copy_ #[26,26] t #[.slice (some ⟨w.heap.size,(i+1)*8,none⟩) (l.length - i) d,.slice (some ⟨g,i*8,none⟩) (l.length - i) s]).run Tryz.prog W=.ok (goInt (Nat.min (l.length - i) (l.length - i))) (W.setCells w.heap.size ((i+1)*8) ((l.drop i).flatMap encIts))):=lH ay;have HE:Hi (∀ W:World,W.heap=a.heap->(W.setCells w.heap.size (i*8) (encIts y)).heap=r.heap):=lH (fun W H=>by rw [a4];exact qVr H _ _);have bm:IntKind.i64.wrap ((l.length:Int)+1)=(l.length:Int)+1:=(by rw [IntKind.wrap_i64];omega);have bn:IntKind.i64.wrap ((i:Int)+1)=(i:Int)+1:=(by rw [IntKind.wrap_i64];omega);have c3:IntKind.i64.wrap ((l.length:Int)+1 - (i:Int))=(l.length:Int)+1 - (i:Int):=(by rw [IntKind.wrap_i64];omega);have hb1:(0:Int)<=(i:Int)+1:=(by omega);have bs:((i:Int)+1).toNat=i+1:=(by omega);have hb3:(i:Int)<=(l.length:Int):=(by omega);have be:¬ (l.length=i):=(by omega);have bw:¬ (G=i):=(by omega);have bx:¬ (G=i+1):=(by omega);clear X ht a5 a8 z F a6 M p K aj ak af Z b7 a7 ao aa a9 N ax ay a0 ag ar al av a3 b2 a4 hG;subst x;generalize encIts y=Y8 at *
    go_enter Tryz.func62,Tryz.ntmps62
    have c0:=HA.o ((w.alloc (.cells R 59)).drew) rfl;have ah:=HE.o ((w.alloc (.cells R 59)).drew) rfl;skip
    have bg:=HB.o (((w.alloc (.cells R 59)).drew.setCells w.heap.size (i*8) Y8).drew) (drew_h ah);have b8:=lH ah;clear ah;go_wp2_with (at_builtin;refine Lib.wpList_append_run _ rfl _ _ _ _ rfl _ _ rfl rfl _ _ (br _) ?_)
    go_region_law (refine step_copy_runI rfl _ _ 26 26 rfl _ _ (by simp [Act.eval,Act.put]) (by simp [Act.eval,Act.put]) (bg _ _ _) ?_)
    go_wp2;go_ret;obtain ⟨f1,f2⟩:=ac.o (((w.alloc (.cells R 59)).drew.setCells w.heap.size (i*8) Y8).drew) (drew_h b8.o) (drew_o (qJe _ _ _ _).1) (drew_t (qJe _ _ _ _).2.1) (drew_p (qJe _ _ _ _).2.2);skip
    exact ⟨_,rfl,f1,f2,b9.o⟩
theorem qFd (base:Nat) (v:Value) (l:List Ic) (k:Nat) (w:World) (P:qQb 8 rdIc base 59 w v l) (q:k<l.length) (hl:l.length<=1000000000) :
 Calls Tryz.prog 31 #[v,.int .i64 k,.int .i64 ((k:Int)+1)] w fun e w'=>∃ y,e=.returned y/\qQb 8 rdIc base 59 w' y (l.eraseIdx k)/\w.grownBy w' v.ownBlock/\y.ownBlock=v.ownBlock:=by
 rcases blkE qQp (show qQb 8 (fun _ R ae=>R=encIts ae) base 59 w v l from P) with ⟨_,rfl⟩ | ⟨g,c,C,rfl,a0,K,I,am,a1,r⟩
 ·simp at q
 ·obtain ⟨i0,a4,a9,ab,aa⟩:=info_parts (by kernel_rfl:(Tryz.prog.info? 59).map (fun i=>(i.zero,i.size,i.bytes))=some (some (Value.agg #[.int .i64 0,.int .i64 0,.string ⟨#[]⟩,.string ⟨#[]⟩,.int .i64 0,.int .i64 0,.bool false,.slice none 0 0]),8,96));obtain ⟨x,C2,E,z,U,D,F⟩:=zXv qQp q r (by rw [I];omega) (Z:=[.int .i64 0,.int .i64 0,.string ⟨#[]⟩,.string ⟨#[]⟩,.int .i64 0,.int .i64 0,.bool false,.slice none 0 0]) rfl;obtain ⟨N,s⟩:∃ N,N=(l.drop (k+1)).flatMap encIts:=⟨_,rfl⟩;have o:N.length=(l.length - (k+1))*8:=by rw [s,qQv qQp,List.length_drop]
  have a3:(l.flatMap encIts).length=l.length*8:=qQv qQp l;have O:∀ j u,N[j]?=some u->C[(k+1)*8+j]?=some u:=fun j u H=>by
   have p:j<N.length:=(List.getElem?_eq_some_iff.1 H).1;have b:=congrArg (fun t=>t[(k+1)*8+j]?) r;have Z:(k+1)*8+j<l.length*8:=(by omega);simp only [List.getElem?_take,Z,if_true] at b;have a5:l.flatMap encIts=(l.take (k+1)).flatMap encIts++(l.drop (k+1)).flatMap encIts:=(by rw [<- List.flatMap_append,List.take_append_drop]);have a8:((l.take (k+1)).flatMap encIts).length=(k+1)*8:=(by rw [qQv qQp,List.length_take,Nat.min_eq_left (by omega)]);rw [b,a5,List.getElem?_append_right (by omega),a8,show (k+1)*8+j - (k+1)*8=j by omega,<- s];exact H
  obtain ⟨A,hA,a6⟩:∃ A:Addr,(if c=k+1 then some (⟨g,0,none⟩:Addr) else some ⟨g,(k+1)*8,none⟩)=some A/\Hi (∀ t u,N[t]?=some u->w.drew.cell? (A.add t)=some u):=by
   by_cases h:c=k+1
   ·refine ⟨⟨g,0,none⟩,by simp [h],fun t u H=>?_⟩;have Y:N.length=0:=(by rw [o];omega);rw [List.length_eq_zero_iff.1 Y] at H;simp at H
   ·refine ⟨⟨g,(k+1)*8,none⟩,by simp [h],fun t u H=>?_⟩;rw [Addr.add_lit,K.drew.cell];exact O t u H
  have s1:Hi (N.length=(l.length - (k+1))*8):=lH o;have s2:Hi (∀ u∈N,u.oneCell'=true):=lH (by rw [s];exact qY2 _);have s3:Hi (∀ t,t<N.length->(w.drew.cell? ⟨g,0+k*8+t,none⟩).isSome=true/\w.drew.frozen? ⟨g,0+k*8+t,none⟩=false):=lH (fun t h=>by
   rw [o] at h;refine ⟨?_,K.drew.frozen _⟩;rw [K.drew.cell,Zi (by omega)];rfl)
  obtain ⟨a,f⟩:∃ a,a=w.drew.setCells g (0+k*8) N:=⟨_,rfl⟩;have d:Blk a g x 59:=by rw [f,E,<- s,Nat.zero_add];exact qZd g _ _ _ _ _ K.drew (by omega)
  have J:w.grownBy a (some g):=by rw [f];exact qQm (qY0 (World.grownBy.refl _ _)) (qQ2 _ _ _ _)
  have af:∀ T cc,(Builtin.clear_ #[26] T #[.slice (some ⟨g,(l.length - 1)*8,none⟩) 1 cc]).run Tryz.prog a=.ok (.tuple #[]) (a.setCells g ((l.length - 1)*8) [.int .i64 0,.int .i64 0,.string ⟨#[]⟩,.string ⟨#[]⟩,.int .i64 0,.int .i64 0,.bool false,.slice none 0 0]):=fun T cc=>by
   have hst:=run_storeCells_cells (P:=Tryz.prog) g ((l.length - 1)*8) [.int .i64 0,.int .i64 0,.string ⟨#[]⟩,.string ⟨#[]⟩,.int .i64 0,.int .i64 0,.bool false,.slice none 0 0] 0 a (fun j p=>by
    simp only [Zm,List.length_nil] at p;rw [d.cell,Zi (by omega)];rfl) (fun j p=>d.frozen _) (by simp [Value.oneCell'])
   have ac:∀ w,(zeroValue 59).run Tryz.prog w=.ok (Value.agg #[.int .i64 0,.int .i64 0,.string ⟨#[]⟩,.string ⟨#[]⟩,.int .i64 0,.int .i64 0,.bool false,.slice none 0 0]) w:=fun w=>by simp
   have ad:(Builtin.zeroCells (Value.agg #[.int .i64 0,.int .i64 0,.string ⟨#[]⟩,.string ⟨#[]⟩,.int .i64 0,.int .i64 0,.bool false,.slice none 0 0]).cells 1).toList=[.int .i64 0,.int .i64 0,.string ⟨#[]⟩,.string ⟨#[]⟩,.int .i64 0,.int .i64 0,.bool false,.slice none 0 0]:=zGp _ _ _ _ _ _ _ _;simp only [Nat.add_zero] at hst;simp [Builtin.clear_,run_underlying Tryz.underlying26,ac,ad,hst]
  have M:qQb 8 rdIc base 59 (a.setCells g ((l.length - 1)*8) [.int .i64 0,.int .i64 0,.string ⟨#[]⟩,.string ⟨#[]⟩,.int .i64 0,.int .i64 0,.bool false,.slice none 0 0]) (.slice (some ⟨g,0,none⟩) (k+(l.length - (k+1))) c) (l.eraseIdx k)/\w.grownBy (a.setCells g ((l.length - 1)*8) [.int .i64 0,.int .i64 0,.string ⟨#[]⟩,.string ⟨#[]⟩,.int .i64 0,.int .i64 0,.bool false,.slice none 0 0]) (some g):=by
   have b:=qZd g 59 [.int .i64 0,.int .i64 0,.string ⟨#[]⟩,.string ⟨#[]⟩,.int .i64 0,.int .i64 0,.bool false,.slice none 0 0] ((l.length - 1)*8) a x d (by simp;omega);rw [<- z] at b;have a2:(l.eraseIdx k).length=l.length - 1:=(by rw [List.length_eraseIdx,if_pos q]);exact ⟨ownE qQp b a0 (by rw [a2];omega) (by rw [D];exact I) (by omega) a1 F,qQm J (qQ2 _ _ _ _)⟩
  have Q:=lH M;have hW:Hi (a=w.drew.setCells g (0+k*8) N):=lH f;have aj:k<=c:=by omega
  have ak:k+1<=c:=by omega
  have an:((k:Int)==(k:Int)+1)=false:=by simp;omega
  have ah:(0:Int)<=(k:Int)+1:=by omega
  have ai:(k:Int)+1<=(l.length:Int):=by omega
  have a7:k+(l.length - (k+1))=l.length - 1:=by omega
  have ao:l.length - (l.length - 1)=1:=by omega
  have ag:¬ c=l.length - 1:=by omega
  have al:l.length - 1<=l.length:=by omega
  clear M f K d J r E z U D F O s o a3 P a9 aa;go_enter Tryz.func31,Tryz.ntmps31
  go_wp2_with fail
  go_region_law (refine step_append_room rfl (.tmp 22) (.tmp 25) 26 rfl 59 i0 8 Tryz.underlying26 a4 ab g 0 k c (by simp [Act.eval,Act.put]) A (l.length - (k+1)) (c - (k+1)) N (by simp [Act.eval,Act.put]) s1.o a6.out s2.o (by omega) s3.o ?_;rw [<- hW.o])
  go_wp2;go_ret;obtain ⟨G,X⟩:=Q.o;rw [a7] at G;exact ⟨_,rfl,G,X,rfl⟩

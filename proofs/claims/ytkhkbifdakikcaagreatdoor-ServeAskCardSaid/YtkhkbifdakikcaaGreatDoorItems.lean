/- A call of a Go function, as one step of a region that draws its order. -/
import Derived.Test.YtkhkbifdakikcaaGreatDoorShelf
import Derived.Shelf.Abstract
namespace Go.Proofs.YtkhkbifdakikcaaGreatDoor
open Go.RowKit
theorem qZ6 {P:Program} {w:World} {o:Oper} {a:Act} {K:Act->World->Prop} {Q:Exit->Act->World->Prop} {E:Prop} {O:Array Oper} (hg:o.guard=none)
 (f:FuncId) (g:∀ args w,(callFunc f args).run P w=.ok (.enter f args) w) (xs:Array Operand) (t:Array TypeId) (c:o.op=.call { callee:=.value (.func f),args:=xs,argTypes:=t })
 {vs:Array Value} (hv:xs.map a.eval=vs) {R:Ending->World->Prop} (H:Calls P f vs w R) (h:∀ e w',R e w'->∃ v,e=.returned v/\K (a.put o.dst v) w'):if Region.wanted o (yielded O a.tmps)=true then Oper.wp P o a w K Q else E:=by
 rw [if_pos (by simp [Region.wanted,hg])];subst hv;unfold Oper.wp;simp [execOp,c,resolve,Deferred.ofValue,Act.eval,invoke,g];refine H.mono (fun e w' r=>?_);obtain ⟨v,rfl,b⟩:=h e w' r;exact b
end Go.Proofs.YtkhkbifdakikcaaGreatDoor
namespace Go.Proofs.YtkhkbifdakikcaaGreatDoor
structure Hd where
 node:Int:=0
 role:Int:=0
 name:Txt:=[]
 about:Txt:=[]
 level:Int:=0
 checked:Int:=0
 off:Bool:=false
 deriving DecidableEq
inductive It where
 | mk (h:Hd) (kids:List It)
variable {l:List It} {j:Nat}
def It.h:It->Hd
 | .mk h _=>h
def It.kids:It->List It
 | .mk _ k=>k
mutual
def nodesI:It->List Int
 | .mk h k=>h.node::nodesL k
def nodesL:List It->List Int
 | []=>[]
 | x::l=>nodesI x++nodesL l
end
theorem qZm:∀ l:List It,nodesL l=l.flatMap nodesI
 | []=>rfl
 | x::l=>by rw [nodesL,List.flatMap_cons,qZm l]
theorem qKx (x:It):nodesI x=x.h.node::nodesL x.kids:=by cases x;rfl
theorem zY8 (l:List It) (x:It):nodesL (l++[x])=nodesL l++(x.h.node::nodesL x.kids):=by
 rw [qZm,qZm,List.flatMap_append,List.flatMap_cons,List.flatMap_nil,List.append_nil,qKx]
theorem qDn (h:j<l.length):nodesL (l.take (j+1))=nodesL (l.take j)++(l[j].h.node::nodesL l[j].kids):=by
 rw [Zk h,zY8]
theorem qHf (l:List It):l.length<=(nodesL l).length:=by
 induction l with
 | nil=>simp
 | cons x l i=>
   rw [nodesL,qKx];simp;omega
theorem zXw (H:j<l.length):(nodesL (l.take j)).length+1+(nodesL l[j].kids).length<=(nodesL l).length:=by
 have h:nodesL l=nodesL (l.take (j+1))++nodesL (l.drop (j+1)):=by
  rw [qZm,qZm,qZm,<- List.flatMap_append,List.take_append_drop]
 rw [h,qDn H];simp;omega
end Go.Proofs.YtkhkbifdakikcaaGreatDoor
namespace Go.Proofs.YtkhkbifdakikcaaGreatDoor
open Go.RowKit
variable {l:List It} {S:List Nat} {base k k' m n sz:Nat} {B C:Nat->Prop} {α:Type} {e:TypeId} {v:Value} {w w':World}
def qQi (h:Hd) (v:Value):List Value:=[.int .i64 h.node,.int .i64 h.role,.string ⟨h.name.toArray⟩,.string ⟨h.about.toArray⟩,.int .i64 h.level,.int .i64 h.checked,.bool h.off,v]
def rdIt (B:Nat->Prop):Nat->World->List Value->It->Prop
 | 0,_,_,_=>False
 | k+1,w,cs,x=>∃ v,cs=qQi x.h v/\qQa 8 (rdIt B k) B w v x.kids
abbrev ItsK (B:Nat->Prop) (k:Nat):World->Value->List It->Prop:=qQa 8 (rdIt B k) B
theorem rdIt.agree (ha:qZt B w w'):∀ {k:Nat} {cs:List Value} {x:It},rdIt B k w cs x->rdIt B k w' cs x:=by
 intro k;induction k with
 | zero=>intro cs x h;exact h.elim
 | succ k i=>
   intro cs x h;obtain ⟨v,H,a⟩:=h;exact ⟨v,H,a.agree ha (fun cs x _ r=>i r)⟩
theorem rdIt.mono (c:∀ b,B b->C b):∀ {k:Nat} {cs:List Value} {x:It},rdIt B k w cs x->rdIt C k w cs x:=by
 intro k;induction k with
 | zero=>intro cs x h;exact h.elim
 | succ k i=>
   intro cs x h;obtain ⟨v,H,a⟩:=h;exact ⟨v,H,a.mono c (fun cs x _ r=>i r)⟩
theorem ItsK.agree (h:ItsK B k w v l) (ha:qZt B w w'):ItsK B k w' v l:=qQa.agree h ha (fun _ _ _ H=>H.agree ha)
theorem ItsK.mono (h:ItsK B k w v l) (H:∀ b,B b->C b):ItsK C k w v l:=qQa.mono h H (fun _ _ _ r=>r.mono H)
theorem rdIt.more:∀ {k:Nat} {cs:List Value} {x:It},rdIt B k w cs x->rdIt B (k+1) w cs x:=by
 intro k;induction k with
 | zero=>intro cs x h;exact h.elim
 | succ k i=>
   intro cs x h;obtain ⟨v,H,a⟩:=h;exact ⟨v,H,a.mono (fun _ h=>h) (fun cs x _ r=>i r)⟩
theorem rdIt.le (H:k<=k') {cs:List Value} {x:It} (h:rdIt B k w cs x):rdIt B k' w cs x:=by
 induction H with
 | refl=>exact h
 | step _ i=>exact i.more
theorem ItsK.le (H:k<=k') (h:ItsK B k w v l):ItsK B k' w v l:=qQa.mono h (fun _ h=>h) (fun _ _ _ r=>r.le H)
theorem ItsK.later (h:ItsK (·<n) k w v l) (H:Below m w w') (a:n<=m):ItsK (·<n) k w' v l:=
 h.agree (qZt.mono (qZt.below H) (fun _ H=>Zc H a))
theorem ItsK.raise (h:ItsK (·<n) k w v l) (H:n<=m):ItsK (·<m) k w v l:=h.mono (fun _ h=>Zc h H)
theorem ItsK.up (h:ItsK (·<m) k w v l) (H:Bel w w') (hm:m<=w.heap.size):ItsK (·<w'.heap.size) k w' v l:=(h.later H hm).raise (Za hm H.size)
structure ItC (B:Nat->Prop) (k:Nat) (w:World) (b o:Nat) (x:It) (kv:Value):Prop where
 node:w.cell? ⟨b,o,none⟩=some (.int .i64 x.h.node)
 role:w.cell? ⟨b,o+1,none⟩=some (.int .i64 x.h.role)
 name:w.cell? ⟨b,o+2,none⟩=some (.string ⟨x.h.name.toArray⟩)
 about:w.cell? ⟨b,o+3,none⟩=some (.string ⟨x.h.about.toArray⟩)
 level:w.cell? ⟨b,o+4,none⟩=some (.int .i64 x.h.level)
 checked:w.cell? ⟨b,o+5,none⟩=some (.int .i64 x.h.checked)
 off:w.cell? ⟨b,o+6,none⟩=some (.bool x.h.off)
 kids:w.cell? ⟨b,o+7,none⟩=some kv
 kidsAt:ItsK B k w kv x.kids
theorem ItsK.item (h:ItsK B k w v l) (i:Nat) (s:i<l.length) :
 ∃ b o c kv k',k=k'+1/\v=.slice (some ⟨b,o,none⟩) l.length c/\l.length<=c/\c<=9223372036854775807/\B b/\ItC B k' w b (o+i*8) l[i] kv:=by
 obtain ⟨a,t,E,g,p⟩:=Rf h;obtain ⟨b,o,c,u,d,q,x,H,f⟩:=qQa.elem h i s;rw [d] at E;simp at E;obtain ⟨_,rfl⟩:=E;cases k with
 | zero=>exact f.elim
 | succ k=>
   obtain ⟨kv,rfl,r⟩:=f;exact ⟨b,o,c,kv,k,rfl,d,g,p,q,by simpa using H 0 _ rfl,H 1 _ rfl,H 2 _ rfl,H 3 _ rfl,H 4 _ rfl,H 5 _ rfl,H 6 _ rfl,H 7 _ rfl,r⟩
theorem qB4:SlT Tryz.prog 26 82 8 96:=by
 refine ⟨by kernel_rfl,?_⟩;obtain ⟨i,h,H,a,b⟩:=info_parts (by kernel_rfl:(Tryz.prog.info? 82).map (fun i=>(i.zero,i.size,i.bytes))=some (some (.agg #[.int .i64 0,.int .i64 0,.string ⟨#[]⟩,.string ⟨#[]⟩,.int .i64 0,.int .i64 0,.bool false,.slice none 0 0]),8,96));exact ⟨i,_,h,H,a,b,rfl⟩
theorem qJw {P:Program} {O:Array Oper} {rest:List Oper} {o:Oper} {a:Act} {Q:Exit->Act->World->Prop} (hg:o.guard=none)
 (s x:Operand) (t:TypeId) (ho:o.op=.call {callee:=.builtin .append,args:=#[s,x],argTypes:=#[t,t] } )
 {J:Nat} (S:SlT P t e sz J) (a5:0<sz) {rd:World->List Value->α->Prop} (hst:∀ w' cs y,w.grownBy w' v.ownBlock->rd w cs y->rd w' cs y) (M:∀ w cs y,rd w cs y->∀ u∈cs,u.oneCell'=true)
 {l:List α} (hs:a.eval s=v) (G:qQb sz rd base e w v l) {C:Array Value} {E:TypeId} {g:Nat} (hx:a.eval x=.slice (some ⟨g,0,none⟩) 1 1) (hgs:g=w.heap.size) (y:α)
 (hC:C.size=sz/\rd w C.toList y) (R:(l.length+1)*J<=140737488355328) (a0:l.length+1<=9223372036854775807) (a6:base<=w.heap.size)
 (h:∀ z w',qQb sz rd base e w' z (l++[y])->w.grownBy w' v.ownBlock->qZc w v z->wpList P O Q rest (a.put o.dst z) w'):wpList P O Q (o::rest) a (w.alloc (.cells C E)):=by
 subst hgs;have A:∀ cs Y,rd w cs Y->rd (w.alloc (.cells C E)) cs Y:=fun cs Y h=>hst _ _ _ (World.grownBy_alloc w _ _) h;have a3:=qJv (rd:=rd) (sz:=sz) w C.toList E y (by simpa using hC.1) (by simp only [Array.toArray_toList];exact A _ _ hC.2);simp only [Array.toArray_toList] at a3;have a1:qQb sz rd base e (w.alloc (.cells C E)) v l:=G.agree (fun b F=>Below.heap_alloc w _ b (G.lt b F).2) (fun _ _ _ H=>A _ _ H);obtain ⟨r,p⟩:∃ r:World->List Value->α->Prop,r=fun W cs Y=>rd w cs Y/\rd W cs Y:=⟨_,rfl⟩;have up:∀ {W V m},qQb sz r base e W V m->qQb sz rd base e W V m:=fun U=>by
  obtain ⟨X,I,q,D⟩:=U;exact ⟨X,I,fun i c d=>⟨(q i c d).1,by have:=(q i c d).2;rw [p] at this;exact this.2⟩,D⟩
 have a2:qQb sz r base e (w.alloc (.cells C E)) v l:=by
  obtain ⟨X,I,q,D⟩:=G;obtain ⟨a7,p1,p2,p3⟩:=a1;refine ⟨X,I,fun i c d=>⟨(q i c d).1,by rw [p];exact ⟨(q i c d).2,A _ _ (q i c d).2⟩⟩,qJz D (fun b F=>Below.heap_alloc w _ b (D.lt b F).2)⟩
 have a4:qQa sz r (·=w.heap.size) (w.alloc (.cells C E)) (.slice (some ⟨w.heap.size,0,none⟩) 1 1) [y]:=by
  have:=qJv (rd:=r) (sz:=sz) w C.toList E y (by simpa using hC.1) (by simp only [Array.toArray_toList];rw [p];exact ⟨hC.2,A _ _ hC.2⟩);simpa only [Array.toArray_toList] using this
 refine qZe hg s x t ho S a5 hs a2 hx a4 (fun cs Y _ H=>M _ _ _ (by rw [p] at H;exact H.2)) (by simpa using R) (by simpa using a0) (by simp;omega)
  (fun w' T cs Y _ H=>by
   rw [p] at H ⊢;exact ⟨H.1,hst _ _ _ (qQl (World.grownBy_alloc w _ _) T) H.1⟩) ?_
 intro z w' K N _ f;refine h z w' (up K) (qQl (World.grownBy_alloc w _ _) N) ?_;rcases f with f | ⟨k,f,Z⟩
 ·exact .inl f
 ·exact .inr ⟨k,f,by simp at Z;omega⟩
theorem qQa.conv {d:Type} {rd:World->List Value->α->Prop} {rd':World->List Value->d->Prop} {l:List α} {l':List d} (h:qQa sz rd B w v l) (a:l.length=l'.length)
 (u:∀ i (H:i<l.length) (q:i<l'.length) b c,v.ownBlock=some b->B b->rd w c l[i]->C b/\rd' w c l'[i]):qQa sz rd' C w v l':=by
 rcases h with ⟨rfl,rfl⟩ | ⟨b,O,p,H,q,r,s⟩
 ·left;refine ⟨rfl,?_⟩;cases l' with
  | nil=>rfl
  | cons=>simp at a
 ·refine .inr ⟨b,O,p,by rw [H,a],by omega,r,fun i t=>?_⟩;obtain ⟨g,c,G,f,o⟩:=s i (by omega);obtain ⟨R,x⟩:=u i (by omega) t b c (by rw [H];rfl) g o;exact ⟨R,c,G,f,x⟩
def rdO (base:Nat):Nat->World->List Value->It×List Nat->Prop
 | 0,_,_,_=>False
 | k+1,w,cs,y=>∃ (v:Value) (Ss:List (List Nat)),cs=qQi y.1.h v/\Ss.length=y.1.kids.length/\qQb 8 (rdO base k) base 82 w v (y.1.kids.zip Ss)/\y.2=v.ownBlock.toList++Ss.flatten/\y.2.Nodup
def OwnT (base k:Nat) (w:World) (v:Value) (l:List It) (S:List Nat):Prop:=
 ∃ Ss:List (List Nat),Ss.length=l.length/\qQb 8 (rdO base k) base 82 w v (l.zip Ss)/\S=v.ownBlock.toList++Ss.flatten/\S.Nodup
theorem zDb {s:List (List Nat)} {y:It×List Nat} (h:y∈l.zip s):y.2∈s:=(List.of_mem_zip (a:=y.1) (b:=y.2) h).2
theorem rdO.lt:∀ {k:Nat} {cs:List Value} {y:It×List Nat},rdO base k w cs y->∀ b∈y.2,base<=b/\b<w.heap.size:=by
 intro k;induction k with
 | zero=>intro cs y h;exact h.elim
 | succ k I=>
   intro cs y h b H;obtain ⟨v,s,_,p,O,a,_⟩:=h;rw [a] at H;rcases List.mem_append.1 H with H | H
   ·exact O.lt b (by simpa using H)
   ·obtain ⟨S,c,d⟩:=List.mem_flatten.1 H;obtain ⟨i,o,rfl⟩:=List.getElem_of_mem c;obtain ⟨x,G,g,f⟩:=O;have z:i<(y.1.kids.zip s).length:=(by simp;omega);have:=(g i z (by omega)).2;refine I this b ?_;rw [List.getElem_zip];exact d
theorem OwnT.lt (h:OwnT base k w v l S):∀ b∈S,base<=b/\b<w.heap.size:=by
 obtain ⟨s,H,a,c,d⟩:=h;exact rdO.lt (k:=k+1) (cs:=_) (y:=(It.mk {} l,S)) ⟨v,s,rfl,H,a,c,d⟩
theorem qQb.redo {rd rd':World->List Value->α->Prop} {l:List α} (h:qQb sz rd base e w v l) (ha:∀ b,v.ownBlock=some b->w'.heap[b]?=w.heap[b]?) (r:∀ cs x,x∈l->rd w cs x->rd' w' cs x):qQb sz rd' base e w' v l:=by
 obtain ⟨X,d,a,f⟩:=h;exact ⟨X,d,fun i H c=>⟨(a i H c).1,r _ _ (Zl H) (a i H c).2⟩,qJz f ha⟩
theorem rdO.agree:∀ {k:Nat} {cs:List Value} {y:It×List Nat},rdO base k w cs y->(∀ b∈y.2,w'.heap[b]?=w.heap[b]?)->rdO base k w' cs y:=by
 intro k;induction k with
 | zero=>intro cs y h;exact h.elim
 | succ k i=>
   intro cs y h c;obtain ⟨v,s,d,f,O,H,N⟩:=h;refine ⟨v,s,d,f,O.redo (fun b a=>c b (by rw [H,a];simp)) (fun cs x g r=>i r (fun b a=>c b ?_)),H,N⟩;rw [H];exact List.mem_append_right _ (List.mem_flatten.2 ⟨_,zDb g,a⟩)
theorem rdO.base_le {base':Nat} (b:base'<=base):∀ {k:Nat} {cs:List Value} {y:It×List Nat},rdO base k w cs y->rdO base' k w cs y:=by
 intro k;induction k with
 | zero=>intro cs y h;exact h.elim
 | succ k i=>
   intro cs y h;obtain ⟨v,s,H,c,O,a,N⟩:=h;exact ⟨v,s,H,c,(O.redo (fun _ _=>rfl) (fun cs x _ r=>i r)).base_le b,a,N⟩
theorem OwnT.agree (h:OwnT base k w v l S) (ha:∀ b∈S,w'.heap[b]?=w.heap[b]?):OwnT base k w' v l S:=by
 obtain ⟨s,H,f,i,o⟩:=h;obtain ⟨V,a,e,g,G,c,d⟩:=rdO.agree (k:=k+1) (cs:=qQi {} v) (y:=(It.mk {} l,S)) ⟨v,s,rfl,H,f,i,o⟩ ha;have:v=V:=by unfold qQi at e;simp at e;exact e.2.2.2.2.2.2.2
 subst this;exact ⟨a,g,G,c,d⟩
theorem OwnT.below (h:OwnT base k w v l S) (H:Bel w w'):OwnT base k w' v l S:=
 h.agree (fun b a=>H.block b (h.lt b a).2)
theorem rdO.its:∀ {k:Nat} {cs:List Value} {y:It×List Nat},rdO base k w cs y->rdIt (fun b=>b∈y.2) k w cs y.1:=by
 intro k;induction k with
 | zero=>intro cs y h;exact h.elim
 | succ k I=>
   intro cs y h;obtain ⟨v,s,c,g,O,H,N⟩:=h;refine ⟨v,c,O.row.conv (by simp;omega) (fun i d f b cs hv a r=>?_)⟩;refine ⟨by rw [H,hv];simp,?_⟩;have:=I r;rw [List.getElem_zip] at this;refine this.mono (fun b a=>?_);rw [H];exact List.mem_append_right _ (List.mem_flatten.2 ⟨_,Zl _,a⟩)
theorem OwnT.its (h:OwnT base k w v l S):ItsK (·∈S) k w v l:=by
 obtain ⟨s,H,a,b,c⟩:=h;obtain ⟨V,e,g⟩:=rdO.its (k:=k+1) (cs:=qQi {} v) (y:=(It.mk {} l,S)) ⟨v,s,rfl,H,a,b,c⟩;have:v=V:=by unfold qQi at e;simp at e;exact e.2.2.2.2.2.2.2
 subst this;exact g
theorem OwnT.read (h:OwnT base k w v l S):ItsK (·<w.heap.size) k w v l:=h.its.mono (fun b H=>(h.lt b H).2)

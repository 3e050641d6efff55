/- What an engine holds: names that are kept are those that would be reckoned; plain laws. -/
import Derived.Test.YtkhkbifdakikcaaGreatDoorIntSort
import Derived.LaidEqlPtr
namespace Go.Proofs.YtkhkbifdakikcaaGreatDoor
open Go.RowKit
variable {d:Dc} {B t:Fl} {k n x:Int} {c:Int->Nat} {S:Int->Sv} {D:List Int} {m:Me} {base i:Nat} {lab:Nat->Int} {w:World}
structure Eng where
 doc:Dc
 told:List It
 memos:List Me
 dirty:List Int
def qWl (dirty:List Int) (k:Int):List Int:=if dirty.contains k then dirty else (dirty++[k]).mergeSort leI
def qKu (d:Dc) (told:List It) (memos:List Me) (dirty:List Int) (x:Chg):Int×Int×Dc×List It×List Me×List Int:=
 if (qQ7 d x).1=0 then (0,(qQ7 d x).2.1,(qQ7 d x).2.2,told,if qKo x then memos else [],if qKo x then qWl dirty x.node else [])
 else ((qQ7 d x).1,0,[],[],[],[])
def chgE (E:Eng) (x:Chg):Eng:=if (qQ7 E.doc x).1=0 then ⟨(qQ7 E.doc x).2.2,E.told,if qKo x then E.memos else [],if qKo x then qWl E.dirty x.node else []⟩ else E
def qBp (d:Dc):List Int:=qXt d (qQv d) 100 0
def qDr (d:Dc) (n:Int):Me:=meOf n (qJn d (qQv d) n)
def keptM (dirty:List Int) (n:Int):List Me->Bool
 | []=>false
 | m::l=>if m.node==n then qVm m dirty else keptM dirty n l
def qY2 (memos:List Me) (dirty:List Int) (L:List Int):Nat:=L.countP (fun n=>!keptM dirty n memos)
def qGf (E:Eng):Eng:=⟨E.doc,qJ0 E.doc,(qBp E.doc).map (qDr E.doc),[]⟩
theorem zGx:∀ (l:List Me) (i:Nat),(idxMe x l i = -1/\keptM D x l=false/\∀ m∈l,m.node≠x)∨∃ (k:Nat) (h:k<l.length),idxMe x l i=((i+k:Nat):Int)/\l[k].node=x/\keptM D x l=qVm l[k] D:=by
 intro l;induction l with
 | nil=>intro i;exact .inl ⟨rfl,rfl,by simp⟩
 | cons m l I=>
   intro i;by_cases h:m.node=x
   ·exact .inr ⟨0,by simp,by simp [idxMe,h],h,by simp [keptM,h]⟩
   ·have H:(m.node==x)=false:=(by simpa using h);rcases I (i+1) with ⟨a,b,f⟩ | ⟨k,g,a,b,f⟩
    ·exact .inl ⟨by rw [idxMe,H];exact a,by rw [keptM,H];exact b,by
      intro q j;rcases List.mem_cons.1 j with e | e
      ·rw [e];exact h
      ·exact f q e⟩
    ·refine .inr ⟨k+1,by simpa using g,?_,by simpa using b,?_⟩
     ·rw [idxMe,H];simp only [Bool.false_eq_true,if_false];rw [a];congr 1;omega
     ·rw [keptM,H];simpa using f
theorem qFw:qVm m D=true↔∀ u∈m.uses,u∉D:=by
 simp [qVm]
theorem zBe {a:List Int} (h:qVm m a=true) (s:∀ x∈D,x∈a):qVm m D=true:=
 qFw.2 (fun u b H=>qFw.1 h u b (s u H))
theorem qDw:x∈qWl D k↔x∈D∨x=k:=by
 unfold qWl;split
 ·rename_i h;have:=List.contains_iff_mem.1 h;constructor
  ·exact .inl
  ·rintro (h | rfl)
   ·exact h
   ·exact this
 ·rw [List.mem_mergeSort,List.mem_append,List.mem_singleton]
theorem zVg (h:D.Nodup):(qWl D k).Nodup:=by
 unfold qWl;split
 ·exact h
 ·rename_i j;have l:k∉D:=fun f=>j (List.contains_iff_mem.2 f);rw [(List.mergeSort_perm _ _).nodup_iff,List.nodup_append];exact ⟨h,by simp,fun a g b H e=>l (by rw [List.mem_singleton] at H;rw [<- H,<- e];exact g)⟩
theorem dirty_ne (D:List Int) (k:Int):k∈qWl D k:=qDw.2 (.inr rfl)
theorem zWa (h:D.Nodup) (H:∀ n∈D,0<=n/\n<60):D.length<=60:=by
 have:=qK7 60 D h (fun x a=>by have:=H x a;omega);exact this
structure EngOk (E:Eng):Prop where
 good:Good E.doc
 told:E.told=[]∨∃ d,Good d/\E.told=qJ0 d
 kept:∀ m∈E.memos,qVm m E.dirty=true->m=qDr E.doc m.node
 uses:∀ m∈E.memos,m.uses.length<=1000
 few:E.memos.length<=1000
 once:E.dirty.Nodup
 range:∀ n∈E.dirty,0<=n/\n<60
theorem EngOk.alike {E:Eng} (h:EngOk E):qW3 E.told/\(nodesL E.told).length<=60:=by
 rcases h.told with e | ⟨d,g,e⟩
 ·rw [e];exact ⟨⟨by simp [nodesL],by simp [nodesL]⟩,by simp [nodesL]⟩
 ·rw [e];have H:=qDo g;have b:∀ n∈nodesL (qJ0 d),0<=n/\n<(d.length:Int):=fun n a=>by
   obtain ⟨p,f,rfl,-⟩:=qQy.1 ((qZs g).2 n (H.2 n a).2);omega
  refine ⟨⟨H.1,fun n a=>(b n a).1⟩,?_⟩;have:=qK7 d.length _ H.1 b;have:=g.len;omega
theorem zF2:EngOk ⟨rootD,[],[],[]⟩:=⟨zHg,.inl rfl,by simp,by simp,by simp,by simp,by simp⟩
theorem zXg {E:Eng} (h:EngOk E) (x:Chg):EngOk (chgE E x):=by
 unfold chgE;split
 ·rename_i a;cases s:qKo x with
  | false=>exact ⟨qHx h.good a,h.told,by simp,by simp,by simp,by simp,by simp⟩
  | true=>
    simp only [if_true];obtain ⟨b,f,_⟩:=zBk h.good a s;refine ⟨qHx h.good a,h.told,fun m q g=>?_,h.uses,h.few,zVg h.once,fun n r=>?_⟩
    ·have o:=zBe g (fun y v=>qDw.2 (.inl v));have j:=h.kept m q o;have H:x.node∉m.uses:=fun H=>qFw.1 g _ H (dirty_ne _ _);have u:x.node∉(qJn E.doc (qQv E.doc) m.node).uses:=by
      rw [j] at H;exact H
     have:qDr (qQ7 E.doc x).2.2 m.node=qDr E.doc m.node:=by
      unfold qDr;rw [b.claims,zGs b f u]
     show m=qDr (qQ7 E.doc x).2.2 m.node;rw [this];exact j
    ·rcases qDw.1 r with l | rfl
     ·exact h.range n l
     ·obtain ⟨p,z,e,-⟩:=qQy.1 f;have:=h.good.len;omega
 ·exact h
def SubP (a b:List Int):Prop:=∃ z:List Int,a.Perm z/\z.Sublist b
theorem SubP.append {a b c e:List Int} (h:SubP a b) (k:SubP c e):SubP (a++c) (b++e):=by
 obtain ⟨z,H,f⟩:=h;obtain ⟨y,K,g⟩:=k;exact ⟨z++y,H.append K,f.append g⟩
theorem SubP.nil (b:List Int):SubP [] b:=⟨[],.nil,by simp⟩
theorem SubP.flat {a:Type} {f g:a->List Int} :∀ {l:List a},(∀ x∈l,SubP (f x) (g x))->SubP (l.flatMap f) (l.flatMap g):=by
 intro l;induction l with
 | nil=>intro _;exact SubP.nil _
 | cons x l I=>
   intro h;rw [List.flatMap_cons,List.flatMap_cons];exact (h x (by simp)).append (I (fun y H=>h y (by simp [H])))
theorem asks_sub (d:Dc) (C:List Clm) (M:Int->Mm):∀ (f:Nat) (n:Int),SubP (qXt d C f n) (nodesL (itemsF d C M f n)):=by
 intro f;induction f with
 | zero=>intro n;exact SubP.nil _
 | succ f I=>
   intro n;have a:SubP (if qBi d n then [] else (qQp d C n).flatMap (qXt d C f)) (nodesL (if qBi d n then [] else (qQp d C n).flatMap (itemsF d C M f))):=by
    cases qBi d n with
    | true=>exact SubP.nil _
    | false=>
      simp only [Bool.false_eq_true,if_false];rw [qWv];exact SubP.flat (fun x _=>I x)
   rw [zJs,qYc];split
   ·exact SubP.nil _
   ·split
    ·exact SubP.nil _
    ·by_cases hg:(qQd d n=0∨qQd d n=18)/\n≠0
     ·rw [if_pos hg,if_pos hg,List.append_nil];exact a
     ·rw [if_neg hg,if_neg hg,nodesL,nodesI,nodesL,List.append_nil];obtain ⟨z,h,H⟩:=a;cases (kOf (qQd d n)).named;rotate_left
      ·exact ⟨n::z,(List.perm_append_comm.trans (List.Perm.cons n h)),List.Sublist.cons_cons _ H⟩
      ·simp only [Bool.false_eq_true,if_false,List.append_nil];exact ⟨z,h,H.cons _⟩
theorem zDf (d:Dc):SubP (qBp d) (nodesL (qJ0 d)):=asks_sub d (qQv d) _ 100 0
theorem zV2 (g:Good d):(qBp d).length<=60:=by
 obtain ⟨z,H,a⟩:=zDf d;have h:=(qDo g);have b:∀ n∈nodesL (qJ0 d),0<=n/\n<(d.length:Int):=fun n e=>by
  obtain ⟨p,f,rfl,-⟩:=qQy.1 ((qZs g).2 n (h.2 n e).2);omega
 have:=qK7 d.length _ h.1 b;have:=g.len;have:=a.length_le;have:=H.length_eq;omega
theorem uses_few (g:Good d) (n:Int):(qDr d n).uses.length<=1000:=by
 have h:=g.len;unfold qDr meOf qJn;split
 ·refine Za (List.length_filter_le _ _) ?_;simp;omega
 ·simp
theorem qVc {E:Eng} (h:EngOk E):EngOk (qGf E):=by
 refine ⟨h.good,.inr ⟨E.doc,h.good,rfl⟩,fun m H _=>?_,fun m H=>?_,?_,by simp [qGf],by simp [qGf]⟩
 ·obtain ⟨n,_,rfl⟩:=List.mem_map.1 H;rfl
 ·obtain ⟨n,_,rfl⟩:=List.mem_map.1 H;exact uses_few h.good n
 ·have:=zV2 h.good;simp only [qGf,List.length_map];omega
theorem qZx {P:Program} {f:Func} {p q u:Tmp} {y:TypeId} (h:f.results = #[.cell p y,.tmp q,.tmp u]) (T:Array Value) (w:World) (g:Nat) (t:TypeId) (cs:Array Value) (F:Nat×Nat) (d:TypeDesc)
 (a:T.getD p undef=.pointer (some ⟨g,0,none⟩)) (hg:w.heap[g]?=some (.cells cs t F))
 (e:P.underlying y=some d) (hd:(match d with | .struct _ | .array _ _=>true | _=>false)=true) (H:(P.info? y).map (·.size)=some cs.size) :
 (results f T).run P w=.ok (.tuple #[.agg cs,T.getD q undef,T.getD u undef]) w:=by
 have b:T[p]?.getD undef=.pointer (some ⟨g,0,none⟩):=by simpa using a
 simp [results,h,b,asAddr,run_loadVar_row w g t y cs F d hg e hd H]
structure PlSt (B t:Fl) (c:Int->Nat) (w:Int) (i:Nat):Prop where
 inv:Inv B t c
 here:w = -1∨qJx B c w
 cw:c w=i
 zero:∀ j (h:j<(B.kids w).length),i<=j->∀ y,Reach B.kids (B.kids w)[j] y->c y=0
theorem pl_start {w:Int} (I:Inv B t c) (a:w = -1∨qJx B c w) (H:∀ y,Reach B.kids w y->c y=0):PlSt B t c w 0:=
 ⟨I,a,H w .here,fun _ h _ y r=>H y (r.trans (.step .here (Zl h)))⟩
open Classical in
theorem pl_next {w:Int} (H:Wf B) (s:zQ5 B) {J:Int->Nat} {N f:Nat} (F:Falls B.kids J N) (Y:N<J w+(f+1)) (P:PlSt B t c w i) (o:i<(B.kids w).length) :
 GoesL t (qZ2 B t (B.kids w)[i] w i).2 (qZ2 B t (B.kids w)[i] w i).1/\(∃ C,Inv B (qZ2 B t (B.kids w)[i] w i).1 C/\qJx B C (B.kids w)[i]/\∀ y,Reach B.kids (B.kids w)[i] y->C y=0) /\
 ∃ K,PlSt B (qZf B f (B.kids w)[i] (qZ2 B t (B.kids w)[i] w i).1).1 K w (i+1):=by
 obtain ⟨X,G,I⟩:=zFv H s P.inv P.here P.cw o;have l:=Zl o;have z:∀ y,Reach B.kids (B.kids w)[i] y->y≠w:=fun y h e=>by
  subst e;have:=Reach.le F h;have:=F.down _ _ l;omega
 have A:∀ y,Reach B.kids (B.kids w)[i] y->(if y=w then i+1 else c y)=0:=fun y h=>by
  rw [if_neg (z y h)];exact P.zero i o (Zb _) y h
 obtain ⟨r1,W⟩:=place_ok H s F f _ _ _ G (.inr I) (by have:=F.down _ _ l;omega) A;refine ⟨X,⟨_,G,I,A⟩,_,W,?_,by rw [if_neg (fun h=>z w h rfl),if_pos rfl],fun j u Z y h=>?_⟩
 ·rcases P.here with e | e
  ·exact .inl e
  ·right;unfold qJx at e ⊢;refine (List.take_subset_take_left _ ?_) e;show c (B.par w)<=if Reach B.kids (B.kids w)[i] (B.par w) then (B.kids (B.par w)).length else if B.par w=w then i+1 else c (B.par w)
   split
   ·exact P.inv.le _
   ·exact zY9 P.cw _
 ·have q:=Zl u;have v:(B.kids w)[j]≠(B.kids w)[i]:=fun e=>by
   have:=(List.getElem_inj (H.alone.once w)).1 e;omega
  have V:y≠w:=fun e=>by
   subst e;have:=Reach.le F h;have:=F.down _ _ q;omega
  have r:∀ {a b:Int},a∈B.kids w->b∈B.kids w->Reach B.kids a b->a=b:=fun R T h=>by
   cases h with
   | here=>rfl
   | @step p _ g Q=>
     have M:=H.alone.par _ _ Q;have E:=H.alone.par _ _ T;rw [M] at E;subst E;have:=Reach.le F g;have:=F.down _ _ R;omega
  have U:¬ Reach B.kids (B.kids w)[i] y:=fun O=>by
   rcases qHp H.alone h O with g | g
   ·exact v (r q l g)
   ·exact v (r l q g).symm
  rw [if_neg U,if_neg V];exact P.zero j u (by omega) y h
theorem zWp (rec:Int->Fl->Fl×List Evt) (B:Fl) (w:Int) (t:Fl) {l:List Int} (h:i<l.length):qKg rec B w i (l.drop i) t =
 ((qKg rec B w (i+1) (l.drop (i+1)) (rec l[i] (qZ2 B t l[i] w i).1).1).1,(qZ2 B t l[i] w i).2++((rec l[i] (qZ2 B t l[i] w i).1).2++(qKg rec B w (i+1) (l.drop (i+1)) (rec l[i] (qZ2 B t l[i] w i).1).1).2)):=by
 rw [List.drop_eq_getElem_cons h];rfl
theorem cell_inj (h:qQx base w S lab t) (H:Wf t) {box:Addr} (o:BoxOk w box S t) {m:Int} (y:n = -1∨Has t n) (hm:m = -1∨Has t m) (e:qQg box t (fun n=>(S n).v) n=qQg box t (fun n=>(S n).v) m):n=m:=by
 rcases h.cell H y box with ⟨rfl,E⟩ | ⟨b,g,C,j,E⟩ <;> rcases h.cell H hm box with ⟨rfl,a⟩ | ⟨f,G,z,l,a⟩
 ·rfl
 ·exfalso;rw [E,a] at e;exact o.apart _ (H.par_has f) (by rw [l,e];rfl)
 ·exfalso;rw [E,a] at e;exact o.apart _ (H.par_has b) (by rw [j,<- e];rfl)
 ·rw [E,a] at e;simp only [Addr.mk.injEq] at e;obtain ⟨q,r,-⟩:=e;subst q;have p:t.par n=t.par m:=(h.owner (H.par_has b) (b:=g) (by rw [j];rfl)).symm.trans (h.owner (H.par_has f) (b:=g) (by rw [l];rfl));rw [p] at r;have v:n∈t.kids (t.par m):=by rw [<- p];exact b
  have s:(t.kids (t.par m)).idxOf n=(t.kids (t.par m)).idxOf m:=by omega
  have u:=List.getElem_idxOf (List.idxOf_lt_length_of_mem v);have G:=List.getElem_idxOf (List.idxOf_lt_length_of_mem f);exact u.symm.trans (Eq.trans (by simp only [s]) G)
theorem zVu (h:qQx base w S lab t) (b:Wf t) {D:Nat} {C:List Value} {e:TypeId} (j:Blk w D C e) (l:n = -1∨Has t n):∃ C e,Blk w (qQg ⟨D,0,none⟩ t (fun n=>(S n).v) n).block C e:=by
 rcases h.cell b l ⟨D,0,none⟩ with ⟨rfl,a⟩ | ⟨f,g,p,H,a⟩
 ·rw [a];exact ⟨C,e,j⟩
 ·rw [a];obtain ⟨X,Q,s,q⟩:=(h _ (b.par_has f)).1;rcases q.2 with ⟨E,_⟩ | ⟨G,o,r,E,_,hg,_⟩
  ·rw [H] at E;unfold Sv.v at E;simp at E
  ·have:g=G:=(by rw [H] at E;unfold Sv.v at E;simp at E;exact E.1);subst this;exact ⟨r.toList,_,by unfold Blk;rw [Array.toArray_toList];exact hg⟩
theorem zVj (w:World) {a b:Addr} {ca cb:List Value} {T g:TypeId} (ha:Blk w a.block ca T) (f:Blk w b.block cb g):(binOp .neq 127 (.pointer (some a)) (.pointer (some b))).run Tryz.prog w=.ok (.bool (!decide (a=b))) w:=by
 have p:Tryz.prog.underlying 127=some (.pointer 26):=by kernel_rfl
 obtain ⟨i,H,s⟩:=Option.map_eq_some_iff.1 (by kernel_rfl:(Tryz.prog.info? 26).map (fun i=>i.size)=some 1);by_cases e:a=b
 ·subst e;have h:∀ d:Nat,(Op.equalIn (d+1) 127 (.pointer (some a)) (.pointer (some a))).run Tryz.prog w=.ok true w:=fun d=>by
   simp [Op.equalIn,run_underlying p,sizeOf,typeInfo,H,run_sameAddr_same]
  simp only [binOp];simp [Op.equal,Op.maxDepth,h 9999]
 ·have h:∀ d:Nat,(Op.equalIn (d+1) 127 (.pointer (some a)) (.pointer (some b))).run Tryz.prog w=.ok false w:=fun d=>by
   simp [Op.equalIn,run_underlying p,sizeOf,typeInfo,H,s,run_sameAddr_other w e ha f]
  simp only [binOp];simp [Op.equal,Op.maxDepth,h 9999,e]
theorem qFa {w0:WP} {D:Nat} {L:List Int} {U:List Evt} (M:Dif w0 D w L t U) (x:Int):∃ P kv,(∀ W,Bel w W->Calls Tryz.prog 57 #[.pointer (some ⟨D,0,none⟩),.int .i64 x] W (Rv (.tuple #[P,kv]) W)) /\
 ((¬ Has t x/\P=.pointer none)∨(Has t x/\∃ b o,P=.pointer (some b)/\kv=.int .i64 ((t.kids (t.par x)).idxOf x:Nat)/\(∀ W,Bel w W->∃ g C z,W.cell? b=some (.slice (some ⟨g,0,none⟩) (t.kids (t.par x)).length C)/\(t.kids (t.par x)).length<=C/\C<=9223372036854775807/\TabC W g ((t.kids (t.par x)).idxOf x*8) (t.head x) z/\o=g/\∀ k A N,Falls t.kids A N->N<k->ItsK (·<W.heap.size) k W z (itsOf t k x)) /\
  ∀ T,(T = -1∨Has t T)->∃ a,(∀ W,Bel w W->Calls Tryz.prog 109 #[.pointer (some ⟨D,0,none⟩),.int .i64 T] W (Rv (.pointer (some a)) W))/\(b=a↔t.par x=T)/\∀ W,Bel w W->(binOp .neq 127 (.pointer (some b)) (.pointer (some a))).run Tryz.prog W=.ok (.bool (!decide (b=a))) W)):=by
 obtain ⟨H,l,h3,h4,h5,⟨S,lab,ov,K,j,k3,k4,k5,k6,k7,-⟩,⟨Cb,a5,v⟩,-⟩:=M
 obtain ⟨A,N,F⟩:=H.falls
 have R:qQg ⟨D,0,none⟩ t (fun n=>(S n).v) (-1)=⟨D,0,none⟩:=by unfold qQg;rw [if_pos rfl]
 by_cases f:Has t x
 ·have p:=H.par_has f
  refine ⟨.pointer (some (qQg ⟨D,0,none⟩ t (fun n=>(S n).v) (t.par x))),.int .i64 ((t.kids (t.par x)).idxOf x:Nat),fun W h=>qX5 (K.bel h) H l (j.bel h) f,.inr ⟨f,qQg ⟨D,0,none⟩ t (fun n=>(S n).v) (t.par x),?_⟩⟩
  have q:(t.kids (t.par x)).idxOf x<(t.kids (t.par x)).length:=List.idxOf_lt_length_of_mem f
  obtain ⟨g,Z,C,E,s,Q,hg,hT⟩:=K.rd.item p _ q
  have X:Z=0:=by
   rcases (K _ p).1 with ⟨a8,q1,q2,q3⟩;rcases q3.2 with ⟨e,_⟩ | ⟨g',a0,a2,e,_⟩
   ·rw [E] at e;simp at e
   ·rw [E] at e;simp at e;exact e.1.2
  subst X
  refine ⟨g,rfl,rfl,fun W h=>?_,fun T r=>⟨qQg ⟨D,0,none⟩ t (fun n=>(S n).v) T,fun W h=>qYj H F (Nat.lt_succ_self N) l T W (K.bel h).rd (j.bel h).cell r,⟨?_,fun e=>by rw [e]⟩,fun W h=>?_⟩⟩
  ·obtain ⟨g2,a7,a1,O,a3,a4,a6,u⟩:=(K.bel h).rd.item p _ q
   have y:=E.symm.trans O
   simp at y
   obtain ⟨⟨rfl,rfl⟩,rfl⟩:=y
   have Y:(t.kids (t.par x))[(t.kids (t.par x)).idxOf x]=x:=List.getElem_idxOf q
   rw [Y] at u
   refine ⟨g,C,_,?_,s,Q,by simpa using u,rfl,fun k μ' N' G hk=>(rd_its (K.bel h).rd H G k x (.inr f) (by omega)).mono (fun b V=>V.2)⟩
   rw [(K.bel h).rd.cell H (j.bel h).cell p]
   exact congrArg some E
  ·exact fun e=>cell_inj K H j p r e
  ·obtain ⟨C1,E,I⟩:=zVu (K.bel h) H (v.bel h) p
   obtain ⟨C2,s,J⟩:=zVu (K.bel h) H (v.bel h) r
   exact zVj W I J
 ·refine ⟨.pointer none,.int .i64 0,fun W h=>?_,.inl ⟨f,rfl⟩⟩
  have:=qJl (box:=⟨D,0,none⟩) H F l x (N+1) (-1) W (K.bel h).rd (.inl rfl) (by omega) ((K.bel h).rd.cell H (j.bel h).cell (.inl rfl))
  rw [qH4 H F (Nat.lt_succ_self N) f,R] at this
  exact this

/- Names, walked: sets, the namer in memory, lists, what an element is, one name. -/
import Derived.Test.YtkhkbifdakikcaaGreatDoorRoleDoc
import Derived.Maps.RangeWalk
set_option maxRecDepth 100000
set_option maxHeartbeats 4000000
namespace Go.Proofs.YtkhkbifdakikcaaGreatDoor
open Go.RowKit
variable {done ks:List Int} {b r:Nat} {k x:Operand} {E K T:TypeId} {w':World}
open Go.ChangeMaps (setBlock)
def qJ3 (w:World) (r:Nat) (ks:List Int):Prop:=
 ∃ (es:Array MapEntry) (clock:Nat),w.heap[r]?=some (.map es clock)/\es.toList.map (fun e=>(e.key,e.val))=ks.map (fun k=>(kI k,.bool true))/\ks.Nodup/\(es.toList.map (·.born)).Nodup/\∀ e∈es.toList,e.born<clock
theorem qJ3.lt {w:World} (h:qJ3 w r ks):r<w.heap.size:=by
 obtain ⟨j,f,H,_⟩:=h;exact (Array.getElem?_eq_some_iff.1 H).1
theorem qJ3.agree {w:World} (h:qJ3 w r ks) (ha:w'.heap[r]?=w.heap[r]?):qJ3 w' r ks:=by
 obtain ⟨j,f,H,l⟩:=h;exact ⟨j,f,ha.trans H,l⟩
theorem qJ3.made (w:World):qJ3 (w.alloc (.map #[] 0)) w.heap.size []:=
 ⟨#[],0,heap_alloc_new w _,rfl,List.nodup_nil,by simp,by simp⟩
theorem qJ3.ne {w:World} {g:Nat} {C:Array Value} {e:TypeId} {f:Nat×Nat} (h:qJ3 w r ks) (hg:w.heap[g]?=some (.cells C e f)):g≠r:=by
 rintro rfl;obtain ⟨l,j,H,_⟩:=h;rw [hg] at H;simp at H
theorem zJn {k:Int} {v:Int->Value} :∀ i,fnd k (ks.map (fun k=>(k,v k))) i=none↔k∉ks:=by
 induction ks with
 | nil=>intro i;simp [fnd]
 | cons x ks I=>
   intro i;simp only [List.map_cons,fnd,List.mem_cons,not_or];split
   ·rename_i e;simp [e]
   ·rename_i e;rw [I];simp [e]
theorem qJ3.map {w:World} (h:qJ3 w r ks):qWj kI w r (fun k=>if k∈ks then some (.bool true) else none):=by
 obtain ⟨A,q,B,D,_⟩:=h;refine ⟨A,q,ks.map (fun k=>(k,.bool true)),B,by rw [D];simp,fun k=>?_⟩;dsimp only;cases H:fnd k (ks.map (fun k=>(k,Value.bool true))) 0 with
 | none=>rw [if_neg ((zJn (v:=fun _=>.bool true) 0).1 H)];rfl
 | some p=>
   obtain ⟨j,v⟩:=p;obtain ⟨_,f,l⟩:=zHu H;simp only [Nat.sub_zero,List.getElem_map,Prod.mk.injEq] at l;simp only [Nat.sub_zero,List.length_map] at f;obtain ⟨t,z⟩:=l;rw [if_pos (by rw [<- t];exact Zl f),<- z];rfl
def addK (ks:List Int) (k:Int):List Int:=if k∈ks then ks else ks++[k]
theorem mem_addK {k x:Int} :x∈addK ks k↔x∈ks∨x=k:=by
 unfold addK;split
 ·constructor
  ·intro h;exact .inl h
  ·rintro (h | rfl) <;> assumption
 ·simp
theorem zJa {P:Program} (M:P.underlying T=some (.map K E)) (L:KeyLaw P K kI) {w:World} (h:qJ3 w r ks) (k:Int) :
 ∃ w',(Instr.mapUpdate T (.map (some r)) (kI k) (.bool true)).run P w=.ok () w'/\qJ3 w' r (addK ks k)/\w.grownBy w' (some r)/\w'.heap.size=w.heap.size:=by
 obtain ⟨f,z,B,q,S,hb1,hb2⟩:=h;have Z:=(Array.getElem?_eq_some_iff.1 B).1;have hg:∀ o,w.grownBy { w with heap:=w.heap.setIfInBounds r o } (some r):=fun o=>
  ⟨rfl,rfl,rfl,by simp,fun b _ a0=>by
   show (w.heap.setIfInBounds r o)[b]?=_;rw [Array.getElem?_setIfInBounds_ne];intro e;exact a0 (by rw [e])⟩
 have U:∀ o,(w.heap.setIfInBounds r o)[r]?=some o:=fun o=>by rw [Array.getElem?_setIfInBounds_self,if_pos Z]
 have a2:f.size=ks.length:=by have:=congrArg List.length q;simpa using this
 have J:f.toList.map (fun e=>(e.key,e.val))=(ks.map (fun k=>(k,Value.bool true))).map (fun p=>(kI p.1,p.2)):=by rw [q];simp
 cases H:fnd k (ks.map (fun k=>(k,Value.bool true))) 0 with
 | none=>
   have l:=(zJn (v:=fun _=>.bool true) 0).1 H;refine ⟨{ w with heap:=w.heap.setIfInBounds r (.map (f.push { key:=kI k,val:=.bool true,born:=z }) (z+1)) },?_,?_,hg _,by simp⟩
   ·unfold Instr.mapUpdate;simp only [Sem.run_bind,qV3 M,Result.andThen_ok,getObj,Sem.run,B,L.check,qXv L k f.toList _ J,H,setObj]
   ·refine ⟨_,_,U _,?_,?_,?_,?_⟩
    ·simp [q,addK,l]
    ·unfold addK;rw [if_neg l];rw [List.nodup_append];refine ⟨S,by simp,?_⟩;intro a D b t e;simp at t;subst t;exact l (e▸D)
    ·simp only [Array.toList_push,List.map_append,List.map_cons,List.map_nil];rw [List.nodup_append];refine ⟨hb1,by simp,?_⟩;intro a D b t e;simp at t;subst t;obtain ⟨x,hx,rfl⟩:=List.mem_map.1 D;have:=hb2 x hx;omega
    ·intro e A;simp only [Array.toList_push,List.mem_append,List.mem_singleton] at A;rcases A with A | rfl
     ·have:=hb2 e A;omega
     ·simp
 | some p=>
   obtain ⟨j,v0⟩:=p;have l:k∈ks:=by
    apply Classical.byContradiction;intro V;rw [(zJn (v:=fun _=>.bool true) 0).2 V] at H;simp at H
   obtain ⟨_,O,R⟩:=zHu H;simp only [Nat.sub_zero,List.getElem_map,Prod.mk.injEq,List.length_map] at O R;have G:j<f.size:=(by omega);have I:f[j].key=kI k/\f[j].val=.bool true:=by
    have N:=congrArg (fun a1:List (Value×Value)=>a1[j]?) q;simp only [List.getElem?_map,Array.getElem?_toList,Array.getElem?_eq_getElem G,Zi O,R.1] at N;simpa using N
   have Y:(f.modify j fun e=>{ e with key:=kI k,val:=.bool true })=f:=by
    apply Array.ext_getElem?;intro n;rw [Array.getElem?_modify];split
    ·rename_i e;subst e;rw [Array.getElem?_eq_getElem G];simp only [Option.map_some];rw [<- I.1,<- I.2]
    ·rfl
   refine ⟨{ w with heap:=w.heap.setIfInBounds r (.map (f.modify j fun e=>{ e with key:=kI k,val:=.bool true }) z) },?_,?_,hg _,by simp⟩
   ·unfold Instr.mapUpdate;simp only [Sem.run_bind,qV3 M,Result.andThen_ok,getObj,Sem.run,B,L.check,qXv L k f.toList _ J,H,setObj,Array.getElem?_eq_getElem G,Option.map_some,Option.getD_some,I.1,Instr.keyThatStays,L.same,if_true,Sem.run_pure,Result.andThen_ok]
   ·rw [Y];refine ⟨f,z,U _,?_,?_,hb1,hb2⟩
    ·unfold addK;rw [if_pos l];exact q
    ·unfold addK;rw [if_pos l];exact S
theorem qJ1 {P:Program} {w:World} {ops:Array Oper} {rest:List Oper} {o:Oper} {a:Act} {Q:Exit->Act->World->Prop} (hg:o.guard=none)
 {v:Operand} (H:o.op=.insert T x k v∨o.op=.mapUpdate T x k v) (z:P.underlying T=some (.map K E)) (L:KeyLaw P K kI)
 (h:qJ3 w r ks) (f:Int) (D:a.eval x=.map (some r)) (B:a.eval k=kI f) (hv:a.eval v=.bool true)
 (A:∀ w',qJ3 w' r (addK ks f)->w.grownBy w' (some r)->w'.heap.size=w.heap.size->wpList P ops Q rest (a.put o.dst undef) w'):wpList P ops Q (o::rest) a w:=by
 refine wpList_plain hg fun K t=>?_;obtain ⟨w',j,l,p,q⟩:=zJa z L h f;unfold Oper.wp execOp;rcases H with H | H <;>
 ·simp only [H,Sem.run_bind,D,B,hv,j,Result.andThen_ok];exact t _ _ (A w' l p q)
theorem zZj {P:Program} {w:World} {ops:Array Oper} {rest:List Oper} {o:Oper} {a:Act} {Q:Exit->Act->World->Prop} (hg:o.guard=none)
 (q:o.op=.lookup T x k false) (H:P.underlying T=some (.map K E)) (L:KeyLaw P K kI) {i:TypeInfo} (l:P.info? E=some i) (z:i.zero=some (.bool false))
 (h:qJ3 w r ks) (f:Int) (t:a.eval x=.map (some r)) (p:a.eval k=kI f)
 (j:wpList P ops Q rest (a.put o.dst (.bool (ks.contains f))) w):wpList P ops Q (o::rest) a w:=by
 refine zZm (ok:=false) hg q H L l z h.map f t p ?_;have e:((if f∈ks then some (Value.bool true) else none).getD (.bool false))=.bool (ks.contains f):=by
  by_cases h:f∈ks <;> simp [h]
 simp only [Bool.false_eq_true,if_false];rw [e];exact j
theorem qY4 {P:Program} {w:World} {ops:Array Oper} {rest:List Oper} {o:Oper} {a:Act} {Q:Exit->Act->World->Prop} (hg:Region.wanted o (yielded ops a.tmps)=true)
 (z:o.op=.lookup T x k false) (l:P.underlying T=some (.map K E)) (L:KeyLaw P K kI) {i:TypeInfo} (q:P.info? E=some i) (B:i.zero=some (.bool false))
 (h:qJ3 w r ks) (f:Int) (A:a.eval x=.map (some r)) (t:a.eval k=kI f)
 (p:wpList P ops Q rest (a.put o.dst (.bool (ks.contains f))) w):wpList P ops Q (o::rest) a w:=by
 refine wpList_step fun K j=>?_;rw [if_pos hg];have H:=qY5 l L q B h.map f false;have e:((if f∈ks then some (Value.bool true) else none).getD (.bool false))=.bool (ks.contains f):=by
  by_cases h:f∈ks <;> simp [h]
 simp only [Bool.false_eq_true,if_false,e] at H;unfold Oper.wp execOp;simp only [z,Sem.run_bind,A,t,H,Result.andThen_ok];exact j _ _ p
def qKs (w:World) (b r:Nat) (ks done:List Int):Prop:=
 ∃ (es:Array MapEntry) (clock since:Nat) (seen:Array Nat) (c0:Nat),w.heap[b]?=some (.map es clock)/\es.toList.map (fun e=>(e.key,e.val))=ks.map (fun k=>(kI k,.bool true))/\ks.Nodup/\(es.toList.map (·.born)).Nodup /\
  w.heap[r]?=some (.mapIter (some b) since seen c0)/\since<=c0/\since<=clock/\(∀ e∈es.toList,e.born<since)/\done.Nodup/\(∀ e∈es.toList,∀ k,e.key=kI k->(k∈done↔seen.contains e.born=true))/\∀ k∈done,k∈ks
theorem qKs.lt {w:World} (h:qKs w b r ks done):b<w.heap.size/\r<w.heap.size/\b≠r:=by
 obtain ⟨p,l,q,S,j,f,_,_,_,H,_⟩:=h;refine ⟨(Array.getElem?_eq_some_iff.1 f).1,(Array.getElem?_eq_some_iff.1 H).1,fun e=>?_⟩;subst e;rw [f] at H;simp at H
theorem qKs.agree {w:World} (h:qKs w b r ks done) (H:w'.heap[b]?=w.heap[b]?) (D:w'.heap[r]?=w.heap[r]?):qKs w' b r ks done:=by
 obtain ⟨B,z,G,S,t,A,f,j,l,p,q⟩:=h;exact ⟨B,z,G,S,t,H.trans A,f,j,l,D.trans p,q⟩
theorem qJ3.range {P:Program} (z:P.underlying T=some (.map K E)) {w:World} (h:qJ3 w b ks) :
 ∃ w',(Instr.range T (.map (some b))).run P w=.ok (.pointer (some ⟨w.heap.size,0,none⟩)) w'/\qKs w' b w.heap.size ks []/\w.grownBy w' none/\w'.heap.size=w.heap.size+1:=by
 have A:=h.lt;obtain ⟨j,f,H,l,p,q,t⟩:=h;refine ⟨_,run_range_map w T K E b j f z H,⟨j,f,f,#[],f,(heap_alloc_old w _ A).trans H,l,p,q,heap_alloc_new w _,Zb _,Zb _,t,List.nodup_nil,?_,by simp⟩,World.grownBy_alloc w _ none,by simp⟩;intro e _ k _;simp
theorem zFc {j:Array MapEntry} (H:j.toList.map (fun e=>(e.key,e.val))=ks.map (fun k=>(kI k,.bool true))) {e:MapEntry} (l:e∈j.toList):∃ k∈ks,e.key=kI k/\e.val=.bool true:=by
 have:(e.key,e.val)∈ks.map (fun k=>(kI k,Value.bool true)):=by rw [<- H];exact List.mem_map.2 ⟨e,l,rfl⟩
 obtain ⟨k,p,f⟩:=List.mem_map.1 this;simp only [Prod.mk.injEq] at f;exact ⟨k,p,f.1.symm,f.2.symm⟩
theorem zFg {f:Array MapEntry} (H:f.toList.map (fun e=>(e.key,e.val))=ks.map (fun k=>(kI k,.bool true))) {k:Int} (p:k∈ks):∃ e∈f.toList,e.key=kI k:=by
 have:(kI k,Value.bool true)∈f.toList.map (fun e=>(e.key,e.val)):=by rw [H];exact List.mem_map.2 ⟨k,p,rfl⟩
 obtain ⟨e,l,j⟩:=List.mem_map.1 this;simp only [Prod.mk.injEq] at j;exact ⟨e,l,j.1⟩
theorem kI_inj {a b:Int} (h:kI a=kI b):a=b:=by
 unfold kI at h;injection h
theorem zGe {f:Array MapEntry} (t:f.toList.map (fun e=>(e.key,e.val))=ks.map (fun k=>(kI k,.bool true))) (G:ks.Nodup) {e p:MapEntry} (A:e∈f.toList) (B:p∈f.toList) (h:e.key=p.key):e=p:=by
 obtain ⟨i,H,rfl⟩:=List.getElem_of_mem A;obtain ⟨j,D,rfl⟩:=List.getElem_of_mem B;have I:f.toList.length=ks.length:=by have:=congrArg List.length t;simpa using this
 have z:∀ i (H:i<f.toList.length),(f.toList[i]).key=kI (ks[i]'(by omega)):=fun i H=>by
  have q:=congrArg (fun l:List (Value×Value)=>l[i]?) t;simp only [List.getElem?_map,Zi H,Zi (show i<ks.length by omega)] at q;simp at q;exact q.1
 rw [z i H,z j D] at h;have:=(List.getElem_inj (h₀:=by omega) (h₁:=by omega) G).1 (kI_inj h);subst this;rfl
theorem qKs.next {P:Program} {w:World} (h:qKs w b r ks done) (U:TypeId) :
 (done.Perm ks/\(Instr.next (.pointer (some ⟨r,0,none⟩)) false U).run P w=.ok (.tuple #[.bool false]) w) ∨
 ∃ k w',k∈ks/\k∉done/\(Instr.next (.pointer (some ⟨r,0,none⟩)) false U).run P w=.ok (.tuple #[.bool true,.int .i64 k,.bool true]) w'/\qKs w' b r ks (done++[k])/\w.grownBy w' (some r)/\w'.heap.size=w.heap.size /\
  (Instr.entry (.pointer (some ⟨r,0,none⟩))).run P w'=.ok (.tuple #[.int .i64 k,.bool true]) w':=by
 have a6:=h.lt
 obtain ⟨j,f,p,S,Y,Z,z,J,M,h5,h6,h7,h8,h9,I,a0⟩:=h
 rcases run_next_at (P:=P) w U r b p Y S j f h5 Z h8 h6 with ⟨h0,O⟩ | ⟨e,B,V,A,O⟩
 ·left
  refine ⟨?_,O⟩
  refine (List.perm_ext_iff_of_nodup h9 J).2 (fun k=>⟨a0 k,fun D=>?_⟩)
  obtain ⟨e,B,a4⟩:=zFg z D
  exact (I e B k a4).2 (by
   cases l:S.contains e.born with
 | true=>rfl
 | false=>
    have hm:e∈leftOf j S:=(by unfold leftOf;rw [Array.mem_filter];exact ⟨Array.mem_toList_iff.1 B,by rw [l];rfl⟩);have:leftOf j S = #[]:=Array.eq_empty_of_size_eq_zero h0;rw [this] at hm;simp at hm)
 ·right
  obtain ⟨q,a5⟩:=mem_left B
  obtain ⟨k,D,t,a3⟩:=zFc z q
  have a7:V.heap[r]?=some (.mapIter (some b) p S Y):=by rcases A with rfl | rfl <;> exact h5
  have hb1:V.heap[b]?=some (.map j f):=by rcases A with rfl | rfl <;> exact Z
  have G:=MapKept.heap_set (o':=.mapIter (some b) p (S.push e.born) f) a7
  have a1:(setBlock V r (.mapIter (some b) p (S.push e.born) f)).heap[b]?=some (.map j f):=(G.2 b a6.2.2).trans hb1
  have a2:k∉done:=fun l=>by
   have:=(I e q k t).1 l;rw [a5] at this;simp at this
  refine ⟨k,_,D,a2,by rw [O,t,a3];rfl,⟨j,f,p,S.push e.born,f,a1,z,J,M,G.1,h7,h7,h8,?_,?_,?_⟩,?_,?_,?_⟩
  ·rw [List.nodup_append]
   refine ⟨h9,by simp,?_⟩
   intro a ha c l e2
   simp at l
   subst l
   exact a2 (e2▸ha)
  ·intro e' N R H
   rw [contains_push,List.mem_append,List.mem_singleton,I e' N R H,Bool.or_eq_true]
   refine or_congr Iff.rfl ?_
   constructor
   ·rintro rfl
    have:=zGe z J N q (H.trans t.symm)
    subst this
    simp
   ·intro hb
    simp at hb
    have:=born_inj M N q hb
    subst this
    exact kI_inj (H.symm.trans t)
  ·intro R H
   rcases List.mem_append.1 H with H | H
   ·exact a0 R H
   ·simp at H;subst H;exact D
  ·rcases A with rfl | rfl <;> exact ⟨rfl,rfl,rfl,by simp [setBlock],fun i _ hi=>G.2 i (fun e1=>hi (by rw [e1]))⟩
  ·rcases A with rfl | rfl <;> simp [setBlock]
  ·have:=run_entry_at (P:=P) _ r b p S j f e G.1 a1 q M
   rw [this,t,a3]
   rfl
section
variable {P:Program} {w:World} {ops:Array Oper} {rest:List Oper} {o:Oper} {a:Act} {Q:Exit->Act->World->Prop}
theorem zKo (hg:o.guard=none) {m:Operand} (p:o.op=.range T m) (j:P.underlying T=some (.map K E)) (hm:a.eval m=.map (some b)) (h:qJ3 w b ks)
 (H:∀ w',qKs w' b w.heap.size ks []->w.grownBy w' none->w'.heap.size=w.heap.size+1->wpList P ops Q rest (a.put o.dst (.pointer (some ⟨w.heap.size,0,none⟩))) w'):wpList P ops Q (o::rest) a w:=by
 refine wpList_plain hg fun z f=>?_;obtain ⟨w',l,R,q,t⟩:=h.range (P:=P) j;unfold Oper.wp;simp [execOp,p,hm,l,Result.andThen];exact f _ _ (H w' R q t)
theorem zYc (hg:o.guard=none) {I:Operand} (p:o.op=.next I false) (t:a.eval I=.pointer (some ⟨r,0,none⟩)) (h:qKs w b r ks done)
 (j:done.Perm ks->wpList P ops Q rest (a.put o.dst (.tuple #[.bool false])) w)
 (q:∀ (k:Int) (w':World),k∈ks->k∉done->qKs w' b r ks (done++[k])->w.grownBy w' (some r)->w'.heap.size=w.heap.size ->
  (Instr.entry (.pointer (some ⟨r,0,none⟩))).run P w'=.ok (.tuple #[.int .i64 k,.bool true]) w'->wpList P ops Q rest (a.put o.dst (.tuple #[.bool true,.int .i64 k,.bool true])) w'):wpList P ops Q (o::rest) a w:=by
 refine wpList_plain hg fun M f=>?_
 unfold Oper.wp
 rcases h.next (P:=P) o.type with ⟨G,H⟩ | ⟨k,w',B,D,H,l,A,J,z⟩
 ·simp [execOp,p,t,H,Result.andThen]
  exact f _ _ (j G)
 ·simp [execOp,p,t,H,Result.andThen]
  exact f _ _ (q k w' B D l A J z)
end
end Go.Proofs.YtkhkbifdakikcaaGreatDoor
namespace Go.Proofs.YtkhkbifdakikcaaGreatDoor
open Go.RowKit
variable {y:Int} {K ks:List Int} {F cap i len off sz:Nat} {α:Type} {v:Value} {W:World}
structure Nmd (h u:Nat) (w w':World):Prop where
 os:w'.os=w.os
 tape:w'.tape=w.tape
 output:w'.output=w.output
 size:w.heap.size<=w'.heap.size
 block:∀ b,b<w.heap.size->b≠h->b≠u->w'.heap[b]?=w.heap[b]?
section
variable {h u:Nat} {a b c:World}
theorem Nmd.refl (w:World):Nmd h u w w:=⟨rfl,rfl,rfl,Zb _,fun _ _ _ _=>rfl⟩
theorem Nmd.trans (x:Nmd h u a b) (y:Nmd h u b c):Nmd h u a c:=
 ⟨y.os.trans x.os,y.tape.trans x.tape,y.output.trans x.output,Za x.size y.size,fun k j H f=>(y.block k (Zc j x.size) H f).trans (x.block k j H f)⟩
theorem Nmd.bel (x:Bel a b):Nmd h u a b:=⟨x.os,x.tape,x.output,x.size,fun k H _ _=>x.block k H⟩
theorem Nmd.had (x:a.grownBy b (some h)):Nmd h u a b:=⟨x.os,x.tape,x.output,x.size,fun k f H _=>x.block k f (fun e=>H (Option.some.inj e))⟩
theorem Nmd.use (x:a.grownBy b (some u)):Nmd h u a b:=⟨x.os,x.tape,x.output,x.size,fun k f _ H=>x.block k f (fun e=>H (Option.some.inj e))⟩
theorem Nmd.below (x:Nmd h u a b) {n:Nat} (H:n<=h) (f:n<=u) (l:n<=a.heap.size):Below n a b:=⟨x.os,x.tape,x.output,x.size,fun k j=>x.block k (by omega) (by omega) (by omega)⟩
theorem Nmd.new (x:Nmd h u a b) (H:a.heap.size<=h) (f:a.heap.size<=u):Bel a b:=x.below H f (Zb _)
theorem Nmd.own (x:Nmd h u a b) {rd:World->List Value->α->Prop} {e:TypeId} {base:Nat} {l:List α} (o:qQb sz rd base e a v l) (S:qHo rd) (j:h<base) (p:u<base):qQb sz rd base e b v l:=
 o.agree (fun k H=>x.block k (o.lt k H).2 (by have:=(o.lt k H).1;omega) (by have:=(o.lt k H).1;omega)) (fun _ _ _ f=>S _ _ _ _ f)
end
def qH6 (d:Dc) (s:St):Prop:=∀ x,s.asked x=true->isM d x false=true/\(0<=upR d x->s.asked (upR d x)=true)
theorem zJy {d:Dc} (g:Good d) {x:Int} :y∈ups d x↔On (upR d) x y:=by
 obtain ⟨p,H,f⟩:=qWz g;have l:=g.len;exact zXm ⟨fun n _ j=>f n j⟩ 100 x y (by have:=H x;omega)
theorem on_is {d:Dc} (g:Good d) {n:Int} (h:On (upR d) n y) (f:isM d n false=true):isM d y false=true:=by
 induction h with
 | here _=>exact f
 | @step a b _ H I=>
   refine I ?_;obtain ⟨r,G⟩:=g.tree;have j:=H.ge;have:0<=upR d a:=(by cases H <;> assumption);rw [qGk G] at this ⊢;rcases zQ7 G a with h | h
   ·omega
   ·exact (qWr G ((qJs G).2 ⟨h,rfl⟩)).1
theorem On.up {U:Int->Int} {n:Int} (h:On U n y) (f:0<=U y):On U n (U y):=by
 induction h with
 | here H=>exact .step H (.here f)
 | step H _ I=>exact .step H (I f)
theorem qH6.mark {d:Dc} (g:Good d) {s:St} (k:qH6 d s) {n:Int} (l:isM d n false=true):qH6 d (markM d n s):=by
 intro x H;simp only [markM,Bool.or_eq_true,List.contains_iff_mem] at H ⊢;rcases H with H | H
 ·exact ⟨(k x H).1,fun f=>.inl ((k x H).2 f)⟩
 ·have j:=(zJy g).1 H;exact ⟨on_is g j l,fun f=>.inr ((zJy g).2 (j.up f))⟩
theorem qH6.hit {d:Dc} {s:St} (k:qH6 d s) (n:Int):qH6 d (hitM n s):=k
structure NmM (m g h u:Nat) (dv cv:Value) (X:List Value) (e:TypeId) (d:Dc) (C:List Clm) (w:World) (s:St):Prop where
 doc:qZh m w dv d
 clm:qQa 2 qYr (·<m) w cv C
 blk:Blk w g (dv::cv::.map (some h)::.map (some u)::X) e
 had:∃ ks,qJ3 w h ks/\∀ x,s.had x=ks.contains x
 use:∃ ks,qJ3 w u ks/\∀ x,s.asked x=ks.contains x
 ne:h≠u
 lo:m<=g/\m<=h/\m<=u
section
variable {m g h u:Nat} {dv cv:Value} {X:List Value} {e:TypeId} {d:Dc} {C:List Clm} {w w':World} {s s':St}
theorem NmM.lts (k:NmM m g h u dv cv X e d C w s):g<w.heap.size/\h<w.heap.size/\u<w.heap.size/\m<=w.heap.size:=by
 obtain ⟨_,H,_⟩:=k.had;obtain ⟨_,f,_⟩:=k.use;have:=k.blk.lt;have:=k.lo;exact ⟨k.blk.lt,H.lt,f.lt,by omega⟩
theorem NmM.nes (k:NmM m g h u dv cv X e d C w s):g≠h/\g≠u:=by
 obtain ⟨_,H,_⟩:=k.had;obtain ⟨_,f,_⟩:=k.use;exact ⟨H.ne k.blk,f.ne k.blk⟩
theorem NmM.c0 (k:NmM m g h u dv cv X e d C w s):w.cell? ⟨g,0,none⟩=some dv:=k.blk.cell 0
theorem NmM.c1 (k:NmM m g h u dv cv X e d C w s):w.cell? ⟨g,1,none⟩=some cv:=k.blk.cell 1
theorem NmM.c2 (k:NmM m g h u dv cv X e d C w s):w.cell? ⟨g,2,none⟩=some (.map (some h)):=k.blk.cell 2
theorem NmM.c3 (k:NmM m g h u dv cv X e d C w s):w.cell? ⟨g,3,none⟩=some (.map (some u)):=k.blk.cell 3
theorem NmM.bel (k:NmM m g h u dv cv X e d C w s) (b:Bel w w'):NmM m g h u dv cv X e d C w' s:=by
 obtain ⟨q,j,p,l⟩:=k.lts;refine ⟨k.doc.later b l,k.clm.later qZj b l,k.blk.bel b,?_,?_,k.ne,k.lo⟩
 ·obtain ⟨ks,H,f⟩:=k.had;exact ⟨ks,H.agree (b.block h j),f⟩
 ·obtain ⟨ks,H,f⟩:=k.use;exact ⟨ks,H.agree (b.block u p),f⟩
theorem NmM.congr (k:NmM m g h u dv cv X e d C w s) (H:∀ x,s'.had x=s.had x) (f:∀ x,s'.asked x=s.asked x):NmM m g h u dv cv X e d C w s':=
 ⟨k.doc,k.clm,k.blk,by obtain ⟨ks,a,b⟩:=k.had;exact ⟨ks,a,fun x=>(H x).trans (b x)⟩,by obtain ⟨ks,a,b⟩:=k.use;exact ⟨ks,a,fun x=>(f x).trans (b x)⟩,k.ne,k.lo⟩
theorem qB0 {n x:Int} :(addK ks n).contains x=(ks.contains x||x==n):=by
 rw [Bool.eq_iff_iff];simp only [List.contains_iff_mem,mem_addK,Bool.or_eq_true,beq_iff_eq]
theorem NmM.hit (k:NmM m g h u dv cv X e d C w s) (l:∀ x,s.had x=ks.contains x) {n:Int} (p:qJ3 w' h (addK ks n)) (hg:w.grownBy w' (some h)):NmM m g h u dv cv X e d C w' (hitM n s):=by
 obtain ⟨q,A,t,z⟩:=k.lts;obtain ⟨N,B⟩:=k.nes;have H:=(Nmd.had hg:Nmd h u w w').below k.lo.2.1 k.lo.2.2 z;refine ⟨k.doc.later H (Zb _),k.clm.later qZj H (Zb _),k.blk.of (hg.block g q (fun e=>N (Option.some.inj e))),⟨_,p,fun x=>?_⟩,?_,k.ne,k.lo⟩
 ·rw [qB0,<- l];rfl
 ·obtain ⟨ks,f,j⟩:=k.use;exact ⟨ks,f.agree (hg.block u t (fun e=>k.ne (Option.some.inj e).symm)),j⟩
theorem NmM.ask (k:NmM m g h u dv cv X e d C w s) (l:∀ x,s.asked x=ks.contains x) {n:Int} (p:qJ3 w' u (addK ks n)) (hg:w.grownBy w' (some u)):NmM m g h u dv cv X e d C w' { s with asked:=fun x=>s.asked x||x==n }:=by
 obtain ⟨q,t,A,z⟩:=k.lts;obtain ⟨B,N⟩:=k.nes;have H:=(Nmd.use hg:Nmd h u w w').below k.lo.2.1 k.lo.2.2 z;refine ⟨k.doc.later H (Zb _),k.clm.later qZj H (Zb _),k.blk.of (hg.block g q (fun e=>N (Option.some.inj e))),?_,⟨_,p,fun x=>?_⟩,k.ne,k.lo⟩
 ·obtain ⟨ks,f,j⟩:=k.had;exact ⟨ks,f.agree (hg.block h t (fun e=>k.ne (Option.some.inj e))),j⟩
 ·rw [qB0,<- l]
end
theorem Nmd.grown {h u:Nat} {a b c:World} (x:Nmd h u a b) {R:Option Nat} (g:b.grownBy c R) (l:∀ k,R=some k->a.heap.size<=k):Nmd h u a c:=
 ⟨g.os.trans x.os,g.tape.trans x.tape,g.output.trans x.output,Za x.size g.size,fun k H f j=>(g.block k (Zc H x.size) (fun e=>by have:=l k e.symm;omega)).trans (x.block k H f j)⟩
theorem Nmd.alloc {h u:Nat} {a b:World} (x:Nmd h u a b) (o:Obj):Nmd h u a (b.alloc o):=x.trans (Nmd.bel ((Br b).alloc o))
theorem Nmd.row {h u:Nat} {a b:World} (x:Nmd h u a b) {rd:World->List Value->α->Prop} {B:Nat->Prop} {l:List α} (r:qQa sz rd B a v l) (S:qHo rd) (H:∀ k,B k->k<a.heap.size/\k≠h/\k≠u):qQa sz rd B b v l:=
 r.agree (fun k f=>x.block k (H k f).1 (H k f).2.1 (H k f).2.2) (fun _ _ _ j=>S _ _ _ _ j)
section
variable {m g h u:Nat} {dv cv:Value} {X:List Value} {e:TypeId} {d:Dc} {C:List Clm} {w w':World} {s:St}
theorem NmM.grown (k:NmM m g h u dv cv X e d C w s) {B:Nat} {R:Option Nat} (G:w.grownBy w' R) (t:∀ b,R=some b->B<=b) (l:g<B/\h<B/\u<B):NmM m g h u dv cv X e d C w' s:=by
 obtain ⟨z,A,D,I⟩:=k.lts;obtain ⟨J,M,N⟩:=k.lo;have H:∀ b,b<B->some b≠R:=fun b q e=>by have:=t b e.symm;omega
 have p:Below m w w':=⟨G.os,G.tape,G.output,G.size,fun b q=>G.block b (by omega) (H b (by omega))⟩;refine ⟨k.doc.later p (Zb _),k.clm.later qZj p (Zb _),k.blk.of (G.block g z (H g l.1)),?_,?_,k.ne,k.lo⟩
 ·obtain ⟨ks,f,j⟩:=k.had;exact ⟨ks,f.agree (G.block h A (H h l.2.1)),j⟩
 ·obtain ⟨ks,f,j⟩:=k.use;exact ⟨ks,f.agree (G.block u D (H u l.2.2)),j⟩
end
structure NmAt (m g h u:Nat) (dv cv:Value) (X:List Value) (e:TypeId) (d:Dc) (C:List Clm) (w:World) (s:St):Prop where
 mem:NmM m g h u dv cv X e d C w s
 ok:qH6 d s
def Rm (W:World) (h u:Nat) (v:Value) (R:World->Prop):Ending->World->Prop:=fun e w'=>e=.returned v/\Nmd h u W w'/\R w'
structure Mark (d:Dc) (n:Int) (s:St) (x:Int) (s':St):Prop where
 had:∀ y,s'.had y=s.had y
 asked:∀ y,(s'.asked y=true∨On (upR d) x y)↔(s.asked y=true∨On (upR d) n y)
 ok:∀ y,s'.asked y=true->isM d y false=true/\(0<=upR d y->s'.asked (upR d y)=true∨upR d y=x)
 at_:0<=x->isM d x false=true
section
variable {d:Dc} {n x:Int} {s s':St}
theorem Mark.start (k:qH6 d s) (j:isM d n false=true):Mark d n s n s:=⟨fun _=>rfl,fun _=>Iff.rfl,fun y H=>⟨(k y H).1,fun f=>.inl ((k y H).2 f)⟩,fun _=>j⟩
theorem Mark.step (g:Good d) (k:Mark d n s x s') (H:0<=x):Mark d n s (upR d x) { s' with asked:=fun y=>s'.asked y||y==x }:=by
 refine ⟨k.had,fun y=>?_,fun y f=>?_,fun j=>?_⟩
 ·rw [<- k.asked y];simp only [Bool.or_eq_true,beq_iff_eq];constructor
  ·rintro ((h | rfl) | h)
   ·exact .inl h
   ·exact .inr (.here H)
   ·exact .inr (.step H h)
  ·rintro (h | h)
   ·exact .inl (.inl h)
   ·cases h with
    | here _=>exact .inl (.inr rfl)
    | step _ h=>exact .inr h
 ·simp only [Bool.or_eq_true,beq_iff_eq] at f ⊢;rcases f with f | rfl
  ·refine ⟨(k.ok y f).1,fun j=>.inl ?_⟩;rcases (k.ok y f).2 j with h | h
   ·exact .inl h
   ·exact .inr h
  ·exact ⟨k.at_ H,fun _=>.inr rfl⟩
 ·exact on_is g (.step H (.here j)) (k.at_ H)
theorem Mark.done (g:Good d) (k:Mark d n s x s') (h:x<0∨s'.asked x=true):∀ y,(markM d n s).asked y=s'.asked y:=by
 have q:∀ y,On (upR d) x y->s'.asked y=true:=by
  rcases h with h | h
  ·intro y f;have:=f.ge;cases f <;> omega
  ·intro y f;have p:∀ z,s'.asked z=true->0<=upR d z->s'.asked (upR d z)=true:=fun z t j=>by
    rcases (k.ok z t).2 j with H | H
    ·exact H
    ·rw [H];exact h
   clear k;induction f with
   | here _=>exact h
   | @step a b _ l I=>exact I (p a h (by cases l <;> assumption))
 intro y;rw [Bool.eq_iff_iff];simp only [markM,Bool.or_eq_true,List.contains_iff_mem,zJy g];rw [<- k.asked y];constructor
 ·rintro (H | H)
  ·exact H
  ·exact q y H
 ·intro H;exact .inl H
end
theorem qBa {one:Int->St->Txt×St} {s:St} {j:Nat} (H:j<K.length):eachF one (K.take (j+1)) s =
 if 0<=K[j]/\(eachF one (K.take j) s).2.had K[j]=false then ((eachF one (K.take j) s).1++[(one K[j] (eachF one (K.take j) s).2).1],(one K[j] (eachF one (K.take j) s).2).2) else eachF one (K.take j) s:=by
 have f:∀ (L:List Int) (k:Int) (s:St),eachF one (L++[k]) s=if 0<=k/\(eachF one L s).2.had k=false then ((eachF one L s).1++[(one k (eachF one L s).2).1],(one k (eachF one L s).2).2) else eachF one L s:=by
  intro L;induction L with
  | nil=>
    intro k s;by_cases h:0<=k/\s.had k=false
    ·simp only [List.nil_append,eachF,if_pos h];exact (if_pos h).symm
    ·simp only [List.nil_append,eachF,if_neg h];exact (if_neg h).symm
  | cons x L I=>
    intro k s;rw [List.cons_append];unfold eachF;split
    ·rw [I];split <;> rfl
    ·exact I k s
 rw [Zk H];exact f _ _ _
theorem qQ0:Tryz.prog.underlying 89=some (.map 3 4):=by kernel_rfl
theorem qYx:Tryz.prog.underlying 3=some (.int .i64):=by kernel_rfl
theorem zWq:(Tryz.prog.info? 4).map (fun i=>(i.zero,i.size,i.bytes))=some (some (.bool false),1,1):=by kernel_rfl
theorem qB9:∃ i,Tryz.prog.info? 4=some i/\i.zero=some (.bool false):=by
 obtain ⟨i,H,f,_,_⟩:=info_parts zWq;exact ⟨i,H,f⟩
def zKe (μ:Int->Nat) (x:Int):Nat:=if x<0 then 0 else μ x+1
theorem qDf {f:Int->Nat} {x:Int} (j:0<=x) (h:0<=y->f y<f x):zKe f y<zKe f x:=by
 unfold zKe;rw [if_neg (by omega:¬ x<0)];by_cases H:y<0
 ·rw [if_pos H];omega
 ·rw [if_neg H];have:=h (by omega);omega
theorem qWi {m g h u:Nat} {dv cv:Value} {X:List Value} {e:TypeId} {d:Dc} {C:List Clm} {s:St} (A:Good d) (k:NmM m g h u dv cv X e d C W s) (ok:qH6 d s) {n:Int} (Z:isM d n false=true) :
 Calls Tryz.prog 34 #[.pointer (some ⟨g,0,none⟩),.int .i64 n] W (Rm W h u (.tuple #[]) (fun w'=>NmM m g h u dv cv X e d C w' (markM d n s))):=by
 obtain ⟨ib,U,a0⟩:=qB9;obtain ⟨μ,a6,a1⟩:=qWz A;have HM:=lH a1;have G:=lH A;have HK:=lH k;have HS:=lH (Mark.start ok Z);have cU:Hi (∀ w' s',NmM m g h u dv cv X e d C w' s'->∀ x,Calls Tryz.prog 33 #[dv,.int .i64 x] w' (Rb (.int .i64 (upR d x)) w')):=lH (fun w' s' V x=>qX7 m dv d x w' V.doc V.lts.2.2.2 A);have J:=zZs qYx;clear a6 a1 k ok Z;go_enter Tryz.func34,Tryz.ntmps34
 go_wp2;go_loopw [1] (fun z wr=>∃ (x:Int) (s':St),z=.int .i64 x/\Mark d n s x s'/\NmM m g h u dv cv X e d C wr s'/\Nmd h u W wr) (fun z _=>zKe μ (intOf z))
 case atStart=>exact ⟨n,s,rfl,HS.o,HK.o,Nmd.refl _⟩
 case round=>
  obtain ⟨x,s',rfl,O,f,N⟩:=hrel;have H:=lH O;have p:=lH f;have D:=lH N;have M:=f.c0;have c3:=f.c3;obtain ⟨ks,R,Y⟩:=f.use;have q:=lH R;have S:=lH Y;clear O f N R Y;by_cases hx:0<=x
  ·cases I:ks.contains x with
   | true=>
     go_wp2_with (with_reducible refine qY4 rfl rfl qQ0 J U a0 q.o x rfl rfl ?_;rw [I])
     go_end0;exact ⟨rfl,D.o,p.o.congr (fun y=>(H.o.had y).symm) (H.o.done G.o (.inr ((S.o x).trans I)))⟩
   | false=>
     have a4:=lH (H.o.step G.o hx);go_wp2_with (first
 | (with_reducible refine qY4 rfl rfl qQ0 J U a0 q.o x rfl rfl ?_;rw [I])
 | (with_reducible refine qJ1 rfl (.inr rfl) qQ0 J q.o x rfl rfl rfl ?_;intro w1 q1 t s1;have j:=lH (p.o.ask S.o q1 t);have a2:=lH (D.o.trans (Nmd.use t));have M:=j.o.c0;have c3:=j.o.c3;clear q1 t s1)
 | (go_at_call 33;(with_reducible refine (cU.o _ _ j.o x).mono ?_);rintro e w2 ⟨rfl,B⟩;have l:=lH (j.o.bel B);have a3:=lH (a2.o.trans (Nmd.bel B));have M:=l.o.c0;have c3:=l.o.c3;clear B))
     go_roundw
     case rel=>exact ⟨upR d x,_,rfl,a4.o,l.o,a3.o⟩
     case measure=>
      exact qDf hx (HM.o x)
  ·have a5:x<0:=by omega
   go_wp2
   go_end0
   exact ⟨rfl,D.o,p.o.congr (fun y=>(H.o.had y).symm) (H.o.done G.o (.inl a5))⟩
theorem qJj {m g h u:Nat} {dv cv:Value} {X:List Value} {e:TypeId} {d:Dc} {C:List Clm} {s:St} (G:Good d) (k:NmM m g h u dv cv X e d C W s) (n:Int) (name:Txt) :
 Calls Tryz.prog 37 #[.pointer (some ⟨g,0,none⟩),.int .i64 n,.string ⟨name.toArray⟩] W (Rb (.string ⟨(sq d n name).toArray⟩) W):=by
 have f:=lH (qJm k.doc k.lts.2.2.2 n name);have S:=lH (qKl (said d n name) (qJp G _ _));have l:=k.c0;have R:Hi (sq d n name=qQn (said d n name)):=lH rfl;rw [R.o];have H:=lH (Br W);clear k R;generalize qQn (said d n name)=j at *
 generalize said d n name=A at *
 generalize hasA d n name=p at *
 go_enter Tryz.func37,Tryz.ntmps37
 go_wp2_with (first
 | (go_at_call 39;refine qQe (f.o _ H.o) H fun q H=>?_)
 | (go_at_call 68;refine qQe (S.o _) H fun t H=>?_))
 go_ret;exact ⟨rfl,H.o⟩
def OneAt (one:FuncId) (m g h u:Nat) (dv cv:Value) (X:List Value) (e:TypeId) (d:Dc) (C:List Clm) (F:Nat):Prop:=
 ∀ (k:Int) (li:Bool) (s':St) (W':World),NmAt m g h u dv cv X e d C W' s'->isM d k false=true->s'.had k=false->qZz d s'.had<=F ->
  Calls Tryz.prog one #[.pointer (some ⟨g,0,none⟩),.int .i64 k,.bool true,.bool li] W' (Rm W' h u (.string ⟨(qQs d C F k true li s').1.toArray⟩) (fun w'=>NmAt m g h u dv cv X e d C w' (qQs d C F k true li s').2))
theorem zY2 {d:Dc} (G:Good d) {C:List Clm} (hC:∀ c∈C,isM d c.kid false=true) {li:Bool} (l:∀ k∈K,k<0∨isM d k false=true) {s:St} (t:qZz d s.had<=F) (j:Nat):DoesL d s (eachF (fun k s=>qQs d C F k true li s) (K.take j) s):=
 qBx _ _ (fun k p=>l k (List.mem_of_mem_take p)) (fun k s' H f q=>(qHd G hC F k true li s' H f (by omega)).1)
theorem qFd {d:Dc} {s:St} {r:List Txt×St} (h:DoesL d s r) (G:Good d):wsum r.1<=3660/\r.1.length<=3660:=by
 have H:=h.len;have f:=qWt d s.had;have j:=G.len;have p:r.1.length<=(r.1.map (fun t=>t.length+1)).sum:=by
  clear h H;induction r.1 with
  | nil=>simp
  | cons x l I=>simp only [List.map_cons,List.sum_cons,Zm];omega
 have e:wsum r.1=(r.1.map (fun t=>t.length+1)).sum:=rfl;rw [e];omega
theorem jn_len (l:List Txt):(join l).length<=wsum l:=zVk l
theorem find_isM {d:Dc} (g:Good d) {n:Int} {I:Txt} (h:0<=findD d n I):isM d (findD d n I) false=true:=by
 rcases qD9 g n I with H | H
 ·omega
 ·exact H
theorem qX9 {m g h u:Nat} {dv cv:Value} {X:List Value} {e:TypeId} {d:Dc} {C:List Clm} {s:St} (G:Good d) (hC:∀ c∈C,isM d c.kid false=true) (H1:OneAt 35 m g h u dv cv X e d C F)
 (k:NmAt m g h u dv cv X e d C W s) (hF:qZz d s.had<=F) (n:Int) (name:Txt) :
 Calls Tryz.prog 36 #[.pointer (some ⟨g,0,none⟩),.int .i64 n,.string ⟨name.toArray⟩] W
  (Rm W h u (.string ⟨(qYq d (fun k s=>qQs d C F k true true s) n name s).1.toArray⟩) (fun w'=>NmAt m g h u dv cv X e d C w' (qYq d (fun k s=>qQs d C F k true true s) n name s).2)):=by
 obtain ⟨ib,ai,am⟩:=qB9
 have an:=zZs qYx
 have HG:=lH G
 have af:=lH k
 have H1:=lH H1
 have HF:=lH hF
 have a7:=k.mem.lts
 have O:=lH a7
 have b4:=qJp G n name
 have cA:=lH (qJm k.mem.doc a7.2.2.2 n name)
 have cT:Hi (∀ f,Calls Tryz.prog 40 #[.string ⟨(said d n name).toArray⟩] f (Rn f fun w' v=>qQb 1 qHg f.heap.size 9 w' v (toks (said d n name)))):=lH (fun f=>qYg _ f (by omega))
 have b5:=qY6 (said d n name)
 have HL:Hi (qYq d (fun k s=>qQs d C F k true true s) n name s=(qQn (join (eachF (fun k s=>qQs d C F k true true s) ((toks (said d n name)).map (findD d n)) s).1),(eachF (fun k s=>qQs d C F k true true s) ((toks (said d n name)).map (findD d n)) s).2)):=lH rfl
 rw [HL.o]
 have az:Hi (∀ w' s',NmM m g h u dv cv X e d C w' s'->∀ I,Calls Tryz.prog 41 #[dv,.int .i64 n,.string ⟨I.toArray⟩] w' (Rb (.int .i64 (findD d n I)) w')):=lH (fun w' s' z I=>qVk m dv d n I w' z.doc z.lts.2.2.2 G)
 have aq:Hi (∀ I,0<=findD d n I->isM d (findD d n I) false=true):=lH (fun I z=>find_isM G z)
 have ae:Hi (∀ j,DoesL d s (eachF (fun k s=>qQs d C F k true true s) (((toks (said d n name)).map (findD d n)).take j) s)):=lH (zY2 G hC (fun k z=>by obtain ⟨I,_,rfl⟩:=List.mem_map.1 z;exact qD9 G n I) hF)
 have c0:=k.mem.c0
 have aa:=lH (Br W)
 clear HL k a7 hF
 generalize toks (said d n name)=T at *
 generalize said d n name=sd at *
 generalize hasA d n name=hh at *
 go_enter Tryz.func36,Tryz.ntmps36
 go_wp2_with (first
 | (go_at_call 39;refine qQe (cA.o _ aa.o) aa fun w2 ab=>?_)
 | (go_at_call 40;refine (cT.o _).mono ?_;rintro t w3 ⟨b3,y3,rfl,o3⟩;have HT:=lH o3;have S3:=b3.size;have S2:=ab.o.size;have ac:=lH (Bt ab.o b3);obtain ⟨ta,tc,rfl,t1,t2⟩:=Rf o3.read;clear b3 o3))
 go_loopw [26,9] (fun a8 o wr=>∃ (j:Nat) (r:List Txt×St),j<=T.length/\a8=.int .i64 j/\r=eachF (fun k s=>qQs d C F k true true s) ((T.map (findD d n)).take j) s/\qQb 1 qHg w3.heap.size 9 wr o r.1/\NmAt m g h u dv cv X e d C wr r.2/\Nmd h u w3 wr) (fun a8 _ _=>T.length - (intOf a8).toNat)
 case atStart=>exact ⟨0,([],s),by omega,rfl,rfl,qQb.nil _ _ _,⟨af.o.mem.bel ac.o,af.o.ok⟩,Nmd.refl _⟩
 case round=>
  obtain ⟨j,r,hj,rfl,hr,hO,J,V⟩:=hrel;have HR:=lH hr;have R:=lH hO;have H:=lH J;have M:=lH V;have Y:=ae.o j;rw [<- hr] at Y;have b1:=qFd Y HG.o;have ar:Hi (qZz d r.2.had<=F):=lH (Za Y.free HF.o);have Z:qQa 1 qHg (fun b=>w2.heap.size<=b/\b<w3.heap.size) wr (.slice ta T.length tc) T:=V.row (HT.o.row.mono (fun _ h=>⟨h.1,h.2.1⟩) (fun _ _ _ h=>h)) qXd (fun b hb=>by have:=O.o;omega);have c0:=J.mem.c0;have c2:=J.mem.c2;have SD:=V.size;obtain ⟨oa,oc,rfl,o1,o2⟩:=Rf hO.read;obtain ⟨ks,hS,ak⟩:=J.mem.had;have S:=lH hS;have ag:=lH ak;clear hr hO J V Y hS ak;by_cases a6:j<T.length
  ·obtain ⟨_,_,_,_,t,_,_,_,_⟩:=qQa.elem Z j a6;simp at t;obtain ⟨rfl,rfl⟩:=t;have cw:=qQa.str_cell Z j a6;have hst:=qBa (one:=fun k s=>qQs d C F k true true s) (K:=T.map (findD d n)) (s:=s) (j:=j) (by simpa using a6);rw [<- HR.o] at hst;simp only [List.getElem_map] at hst;have a1:=lH hst;clear hst Z;generalize T[j]=I at *
   have a3:=lH (az.o _ _ H.o.mem I);have au:=lH (aq.o I);generalize findD d n I=l at *
   by_cases aj:0<=l
   ·cases hc:ks.contains l with
    | true=>
      have p:Hi (eachF (fun k s=>qQs d C F k true true s) ((T.map (findD d n)).take (j+1)) s=r):=lH (by rw [a1.o,if_neg];rw [ag.o l,hc];simp);go_wp2_with (first
 | (go_at_call 41;(with_reducible refine a3.o.mono ?_);rintro t w4 ⟨rfl,B⟩;have q:=lH (NmAt.mk (H.o.mem.bel B) H.o.ok);have A:=lH (M.o.trans (Nmd.bel B));have D:=lH (R.o.below B (Zb _) (fun _ _ _ h=>h));have c2:=q.o.mem.c2;have a2:=lH (S.o.agree (B.block h S.o.lt));clear B)
 | (with_reducible refine qY4 rfl rfl qQ0 an ai am a2.o l rfl rfl ?_;rw [hc]))
      go_roundw
      case rel=>exact ⟨j+1,r,by omega,by go_num,p.o.symm,D.o,q.o,A.o⟩
      case measure=>simp [intOf];omega
    | false=>
      have a5:r.2.had l=false:=(ag.o l).trans hc;have p:Hi (eachF (fun k s=>qQs d C F k true true s) ((T.map (findD d n)).take (j+1)) s=(r.1++[(qQs d C F l true true r.2).1],(qQs d C F l true true r.2).2)):=lH (by rw [a1.o,if_pos ⟨aj,a5⟩]);have cO:Hi (∀ f,NmAt m g h u dv cv X e d C f r.2->Calls Tryz.prog 35 #[.pointer (some ⟨g,0,none⟩),.int .i64 l,.bool true,.bool true] f (Rm f h u (.string ⟨(qQs d C F l true true r.2).1.toArray⟩) (fun w'=>NmAt m g h u dv cv X e d C w' (qQs d C F l true true r.2).2))):=lH (fun f hW=>H1.o l true r.2 f hW (au.o aj) a5 ar.o);have al:=qFd (ae.o (j+1)) HG.o;rw [p.o] at al;clear a5;generalize qQs d C F l true true r.2=b2 at *
      obtain ⟨q1,q2⟩:=b2;simp only at cO p al;go_wp2_with (first
 | (go_at_call 41;(with_reducible refine a3.o.mono ?_);rintro t w4 ⟨rfl,B⟩;have q:=lH (NmAt.mk (H.o.mem.bel B) H.o.ok);have A:=lH (M.o.trans (Nmd.bel B));have D:=lH (R.o.below B (Zb _) (fun _ _ _ h=>h));have c2:=q.o.mem.c2;have a2:=lH (S.o.agree (B.block h S.o.lt));clear B)
 | (with_reducible refine qY4 rfl rfl qQ0 an ai am a2.o l rfl rfl ?_;rw [hc])
 | (go_at_call 35;(with_reducible refine (cO.o _ q.o).mono ?_);rintro t w5 ⟨rfl,U,k5⟩;have N:=lH k5;have ad:=lH (A.o.trans U);have a0:=lH (U.own D.o qXd (by have:=O.o;omega) (by have:=O.o;omega));have S5:=U.size;have c0:=N.o.mem.c0;have c2:=N.o.mem.c2;clear U k5)
 | (at_builtin;go_must (refine qK4 rfl _ _ _ rfl qFb (by decide) qXd zJz rfl a0.o rfl ?hg q1 ⟨rfl,rfl⟩ ?hb1 ?hb2 ?hb3 ?_);(case hg=>simp);(case hb1=>omega);(case hb2=>omega);(case hb3=>have:=ad.o.size;omega);intro v6 w6 o6 g6;have aw:=lH o6;have av:=lH (NmAt.mk (N.o.mem.grown g6 (fun b hb=>(a0.o.lt b hb).1) (by have:=O.o;omega)) N.o.ok);have ap:=lH (ad.o.grown g6 (fun b hb=>(a0.o.lt b hb).1));clear o6 g6))
      go_roundw
      case rel=>exact ⟨j+1,_,by omega,by go_num,p.o.symm,aw.o,av.o,ap.o⟩
      case measure=>simp [intOf];omega
   ·have p:Hi (eachF (fun k s=>qQs d C F k true true s) ((T.map (findD d n)).take (j+1)) s=r):=lH (by rw [a1.o,if_neg (by omega)])
    go_wp2_with (go_at_call 41;(with_reducible refine a3.o.mono ?_);rintro t w4 ⟨rfl,B⟩;have q:=lH (NmAt.mk (H.o.mem.bel B) H.o.ok);have A:=lH (M.o.trans (Nmd.bel B));have D:=lH (R.o.below B (Zb _) (fun _ _ _ h=>h));clear B)
    go_roundw
    case rel=>exact ⟨j+1,r,by omega,by go_num,p.o.symm,D.o,q.o,A.o⟩
    case measure=>simp [intOf];omega
  ·have hT:(T.map (findD d n)).take j=T.map (findD d n):=Zn (by simp;omega)
   rw [hT] at HR
   have b0:=jn_len r.1
   have cJ:Hi (∀ f v,qQb 1 qHg w3.heap.size 9 f v r.1->Calls Tryz.prog 75 #[v,.string ⟨#[32]⟩] f (Rb (.string ⟨(join r.1).toArray⟩) f)):=lH (fun f v ho=>qH1 _ v r.1 f ho.row (by omega))
   have cS:Hi (∀ f,Calls Tryz.prog 68 #[.string ⟨(join r.1).toArray⟩] f (Rb (.string ⟨(qQn (join r.1)).toArray⟩) f)):=lH (fun f=>qJf _ f (by omega))
   have ay:Hi (Nmd h u W wr):=lH ((Nmd.bel ac.o).trans M.o)
   clear hT Z b0 b1
   obtain ⟨SQ,a4⟩:∃ x,x=qQn (join r.1):=⟨_,rfl⟩
   have ax:=lH a4
   rw [<- a4] at cS
   clear a4
   obtain ⟨JN,ah⟩:∃ x,x=join r.1:=⟨_,rfl⟩
   rw [<- ah] at cJ cS
   clear ah
   go_wp2_with (first
 | (go_at_call 75;(with_reducible refine qJ7 (cJ.o _ _ R.o) fun w4 ao=>?_))
 | (go_at_call 68;(with_reducible refine qQe (cS.o _) ao fun w5 a9=>?_)))
   go_ret
   rw [<- HR.o]
   exact ⟨zGc ax.o,ay.o.trans (Nmd.bel a9.o),⟨H.o.mem.bel a9.o,H.o.ok⟩⟩
theorem qBs {m g h u:Nat} {dv cv:Value} {X:List Value} {e:TypeId} {d:Dc} {C:List Clm} {s:St} (G:Good d) (hC:∀ c∈C,isM d c.kid false=true) (ad:C.length<=1000) (Z:OneAt 35 m g h u dv cv X e d C F)
 (k:NmAt m g h u dv cv X e d C W s) (hF:qZz d s.had<=F) (n:Int) (li:Bool) :
 Calls Tryz.prog 74 #[.pointer (some ⟨g,0,none⟩),.int .i64 n,.bool li] W
  (Rm W h u (.string ⟨(qYh d C (fun k s=>qQs d C F k true li s) n s).1.toArray⟩) (fun w'=>NmAt m g h u dv cv X e d C w' (qYh d C (fun k s=>qQs d C F k true li s) n s).2)):=by
 obtain ⟨ib,af,aj⟩:=qB9
 have ak:=zZs qYx
 have HG:=lH G
 have a9:=lH k
 have Z:=lH Z
 have HF:=lH hF
 have ah:=k.mem.lts
 have I:=lH ah
 have Y:=k.mem.bel (Br W).drew
 have cK:=lH (qBd m dv cv d C n W.drew Y.doc Y.clm Y.lts.2.2.2 G ad)
 have eK:∀ a1 w,(callFunc 103 a1).run Tryz.prog w=.ok (.enter 103 a1) w:=fun a1 w=>by rfl
 clear Y
 have b1:=zYm G C n ad
 have HL:Hi (qYh d C (fun k s=>qQs d C F k true li s) n s=(qQn (join (eachF (fun k s=>qQs d C F k true li s) (qQp d C n) s).1),(eachF (fun k s=>qQs d C F k true li s) (qQp d C n) s).2)):=lH rfl
 rw [HL.o]
 have ao:Hi (∀ x∈qQp d C n,isM d x false=true):=lH (fun x hx=>qDp G hC hx)
 have a7:Hi (∀ j,DoesL d s (eachF (fun k s=>qQs d C F k true li s) ((qQp d C n).take j) s)):=lH (zY2 G hC (fun k hk=>.inr (qDp G hC hk)) hF)
 have c0:=k.mem.c0
 have c1:=k.mem.c1
 have b0:=lH (Br W)
 clear HL k ah hF
 generalize qQp d C n=T at *
 go_enter Tryz.func74,Tryz.ntmps74
 go_upto_region 2 with fail
 go_cut [19,20,21] from 10 to 21 (fun y ay z p=>∃ a c,y=.slice a T.length c/\ay=.int .i64 T.length/\z=.int .i64 0/\Bel W p/\qQb 1 qQf W.heap.size 3 p y T)
 case first=>
  go_region_law (refine qZ6 rfl 103 eK #[.tmp 13,.tmp 17,.tmp 18] _ rfl (vs:=#[dv,cv,.int .i64 n]) ?hv cK.o ?_;(case hv=>simp [Act.eval]);rintro M p ⟨b3,y3,rfl,o3⟩;refine ⟨_,rfl,?_⟩;have HT:=lH o3;have A:=lH (Bt (Br W).drew b3);obtain ⟨ta,tc,rfl,t1,t2⟩:=Rf o3.read;clear b3 o3)
  all_goals (go_wp2_with fail;go_meet;exact ⟨ta,tc,rfl,rfl,rfl,A.o,HT.o⟩)
 case rest=>
 obtain ⟨ta,tc,rfl,rfl,rfl,a2,H⟩:=hcut
 have HT:=lH H
 have A:=lH a2
 have S3:=a2.size
 obtain ⟨_,_,e3,t1,t2⟩:=Rf H.read
 clear H a2 e3
 generalize wc=p at *
 go_wp2
 go_loopw [21,7] (fun z o wr=>∃ (j:Nat) (r:List Txt×St),j<=T.length/\z=.int .i64 j/\r=eachF (fun k s=>qQs d C F k true li s) (T.take j) s/\qQb 1 qHg p.heap.size 9 wr o r.1/\NmAt m g h u dv cv X e d C wr r.2/\Nmd h u p wr) (fun z _ _=>T.length - (intOf z).toNat)
 case atStart=>exact ⟨0,([],s),by omega,rfl,rfl,qQb.nil _ _ _,⟨a9.o.mem.bel A.o,a9.o.ok⟩,Nmd.refl _⟩
 case round=>
  obtain ⟨j,r,hj,rfl,hr,hO,t,N⟩:=hrel;have HR:=lH hr;have HO:=lH hO;have B:=lH t;have HD:=lH N;have O:=a7.o j;rw [<- hr] at O;have ax:=qFd O HG.o;have an:Hi (qZz d r.2.had<=F):=lH (Za O.free HF.o);have R:qQa 1 qQf (fun b=>W.heap.size<=b/\b<p.heap.size) wr (.slice ta T.length tc) T:=N.row (HT.o.row.mono (fun _ h=>⟨h.1,h.2.1⟩) (fun _ _ _ h=>h)) qQc (fun b S=>by have:=I.o;omega);have c0:=t.mem.c0;have c2:=t.mem.c2;have SD:=N.size;obtain ⟨oa,oc,rfl,o1,o2⟩:=Rf hO.read;obtain ⟨ks,hS,ag⟩:=t.mem.had;have ac:=lH hS;have aa:=lH ag;clear hr hO t N O hS ag;by_cases V:j<T.length
  ·obtain ⟨_,_,_,_,M,_,_,_,_⟩:=qQa.elem R j V;simp at M;obtain ⟨rfl,rfl⟩:=M;have cw:=qQa.int_cell R j V;have hst:=qBa (one:=fun k s=>qQs d C F k true li s) (K:=T) (s:=s) (j:=j) V;rw [<- HR.o] at hst;have ab:=lH hst;have a8:=lH (ao.o T[j] (Zl V));clear hst R;generalize T[j]=l at *
   have aw:=(qQh.1 a8.o).1;cases U:ks.contains l with
   | true=>
     have q:Hi (eachF (fun k s=>qQs d C F k true li s) (T.take (j+1)) s=r):=lH (by rw [ab.o,if_neg];rw [aa.o l,U];simp);go_wp2_with (with_reducible refine zZj rfl rfl qQ0 ak af aj ac.o l rfl rfl ?_;rw [U])
     go_roundw;case rel=>exact ⟨j+1,r,by omega,by go_num,q.o.symm,HO.o,B.o,HD.o⟩
     case measure=>simp [intOf];omega
   | false=>
     have a4:r.2.had l=false:=(aa.o l).trans U;have q:Hi (eachF (fun k s=>qQs d C F k true li s) (T.take (j+1)) s=(r.1++[(qQs d C F l true li r.2).1],(qQs d C F l true li r.2).2)):=lH (by rw [ab.o,if_pos ⟨aw,a4⟩]);have cO:Hi (∀ f,NmAt m g h u dv cv X e d C f r.2->Calls Tryz.prog 35 #[.pointer (some ⟨g,0,none⟩),.int .i64 l,.bool true,.bool li] f (Rm f h u (.string ⟨(qQs d C F l true li r.2).1.toArray⟩) (fun w'=>NmAt m g h u dv cv X e d C w' (qQs d C F l true li r.2).2))):=lH (fun f hW=>Z.o l li r.2 f hW a8.o a4 an.o);have ai:=qFd (a7.o (j+1)) HG.o;rw [q.o] at ai;clear a4;generalize qQs d C F l true li r.2=az at *
     obtain ⟨q1,q2⟩:=az;simp only at cO q ai;go_wp2_with (first
 | (with_reducible refine zZj rfl rfl qQ0 ak af aj ac.o l rfl rfl ?_;rw [U])
 | (go_at_call 35;(with_reducible refine (cO.o _ B.o).mono ?_);rintro M w5 ⟨rfl,J,k5⟩;have D:=lH k5;have a6:=lH (HD.o.trans J);have a0:=lH (J.own HO.o qXd (by have:=I.o;omega) (by have:=I.o;omega));have S5:=J.size;have c0:=D.o.mem.c0;have c2:=D.o.mem.c2;clear J k5)
 | (at_builtin;go_must (refine qK4 rfl _ _ _ rfl qFb (by decide) qXd zJz rfl a0.o rfl ?hg q1 ⟨rfl,rfl⟩ ?hb1 ?hb2 ?hb3 ?_);(case hg=>simp);(case hb1=>omega);(case hb2=>omega);(case hb3=>have:=a6.o.size;omega);intro v6 w6 o6 g6;have aq:=lH o6;have ap:=lH (NmAt.mk (D.o.mem.grown g6 (fun b S=>(a0.o.lt b S).1) (by have:=I.o;omega)) D.o.ok);have am:=lH (a6.o.grown g6 (fun b S=>(a0.o.lt b S).1));clear o6 g6))
     go_roundw
     case rel=>exact ⟨j+1,_,by omega,by go_num,q.o.symm,aq.o,ap.o,am.o⟩
     case measure=>simp [intOf];omega
  ·have H:T.take j=T:=Zn (by omega)
   rw [H] at HR
   have av:=jn_len r.1
   have cJ:Hi (∀ f v,qQb 1 qHg p.heap.size 9 f v r.1->Calls Tryz.prog 75 #[v,.string ⟨#[32]⟩] f (Rb (.string ⟨(join r.1).toArray⟩) f)):=lH (fun f v ho=>qH1 _ v r.1 f ho.row (by omega))
   have cS:Hi (∀ f,Calls Tryz.prog 68 #[.string ⟨(join r.1).toArray⟩] f (Rb (.string ⟨(qQn (join r.1)).toArray⟩) f)):=lH (fun f=>qJf _ f (by omega))
   have au:Hi (Nmd h u W wr):=lH ((Nmd.bel A.o).trans HD.o)
   clear H R av ax
   obtain ⟨SQ,a3⟩:∃ x,x=qQn (join r.1):=⟨_,rfl⟩
   have ar:=lH a3
   rw [<- a3] at cS
   clear a3
   obtain ⟨JN,ae⟩:∃ x,x=join r.1:=⟨_,rfl⟩
   rw [<- ae] at cJ cS
   clear ae
   go_wp2_with (first
 | (go_at_call 75;(with_reducible refine qJ7 (cJ.o _ _ HO.o) fun w4 al=>?_))
 | (go_at_call 68;(with_reducible refine qQe (cS.o _) al fun w5 a5=>?_)))
   go_ret
   rw [<- HR.o]
   exact ⟨zGc ar.o,au.o.trans (Nmd.bel a5.o),⟨B.o.mem.bel a5.o,B.o.ok⟩⟩
theorem zVs {m:Nat} {w:World} {b:Nat} {d:Dc} (h:qZh m w (.slice (some ⟨b,off,none⟩) len cap) d) (f:i<d.length):w.cell? ⟨b,off+i*9+1,none⟩=some (.string ⟨d[i].tag.toArray⟩):=by
 obtain ⟨B,O,j,A,l,S,e,_,_,_,H⟩:=h.node i f;simp at e;obtain ⟨⟨rfl,rfl⟩,_⟩:=e;exact H.tag
theorem zH4 {m:Nat} {w:World} {b:Nat} {d:Dc} (h:qZh m w (.slice (some ⟨b,off,none⟩) len cap) d) (f:i<d.length):w.cell? ⟨b,off+i*9+2,none⟩=some (.string ⟨d[i].text.toArray⟩):=by
 obtain ⟨B,O,j,A,l,S,e,_,_,_,H⟩:=h.node i f;simp at e;obtain ⟨⟨rfl,rfl⟩,_⟩:=e;exact H.text
theorem qJ3.look {P:Program} {T K E:TypeId} (j:P.underlying T=some (.map K E)) (L:KeyLaw P K kI) {i:TypeInfo} (l:P.info? E=some i) (z:i.zero=some (.bool false)) {w:World} {r:Nat} (h:qJ3 w r ks) (f:Int) :
 (Instr.lookup T (.map (some r)) (.int .i64 f) false).run P w=.ok (.bool (ks.contains f)) w:=by
 have H:=qY5 j L l z h.map f false;have e:((if f∈ks then some (Value.bool true) else none).getD (.bool false))=.bool (ks.contains f):=by
  by_cases h:f∈ks <;> simp [h]
 simp only [Bool.false_eq_true,if_false,e] at H;exact H
theorem qG1 {m g h u:Nat} {dv cv:Value} {X:List Value} {e:TypeId} {d:Dc} {C:List Clm} {s:St} (G:Good d) (H1:OneAt 35 m g h u dv cv X e d C F)
 (k:NmAt m g h u dv cv X e d C W s) (hF:qZz d s.had<=F) (n:Int) (hn:isM d n false=true) :
 Calls Tryz.prog 73 #[.pointer (some ⟨g,0,none⟩),.int .i64 n] W
  (Rm W h u (.string ⟨(qXm d (fun k s=>qQs d C F k true false s) n s).1.toArray⟩) (fun w'=>NmAt m g h u dv cv X e d C w' (qXm d (fun k s=>qQs d C F k true false s) n s).2)):=by
 obtain ⟨ib,bf,bg⟩:=qB9
 have bh:=zZs qYx
 have HG:=lH G
 have l:=lH k
 have H1:=lH H1
 have HF:=lH hF
 obtain ⟨p,hp,rfl,-⟩:=qQy.1 hn
 obtain ⟨b,off,cap,av,kv,sv,rfl,v1,v2,bl,hN⟩:=k.mem.doc.node p hp
 have I:=k.mem.lts
 have ay:=lH I
 have c1:=hN.tag
 have b2:Hi (∀ w' s',NmM m g h u (.slice (some ⟨b,off,none⟩) d.length cap) cv X e d C w' s'->∀ (i:Nat) (hi:i<d.length),w'.cell? ⟨b,off+i*9+1,none⟩=some (.string ⟨d[i].tag.toArray⟩)):=lH (fun w' s' hk i hi=>zVs hk.doc hi)
 have al:Hi (qJj G k.mem (p:Int) altT=qJj G k.mem (p:Int) altT):=lH rfl
 have b4:=lH (qJj G k.mem (p:Int) altT)
 have ab:=lH (qJm k.mem.doc I.2.2.2 (p:Int) idT)
 have b6:=lH (fun x=>qJm k.mem.doc I.2.2.2 x forT)
 have aa:Hi (∀ f,Bel W f->Calls Tryz.prog 41 #[.slice (some ⟨b,off,none⟩) d.length cap,.int .i64 (p:Int),.string ⟨(said d (p:Int) idT).toArray⟩] f (Rb (.int .i64 (findD d (p:Int) (said d (p:Int) idT))) f)):=lH (fun f z=>qVk m _ d (p:Int) _ f (k.mem.doc.later z I.2.2.2) (Za I.2.2.2 z.size) G)
 have b3:Hi (∀ f,Bel W f->Calls Tryz.prog 46 #[.slice (some ⟨b,off,none⟩) d.length cap,.int .i64 0] f (Rn f fun w' x=>qQb 1 qQf f.heap.size 3 w' x (allM d 0))):=lH (fun f z=>qBm m _ d 0 f (k.mem.doc.later z I.2.2.2) (Za I.2.2.2 z.size) G (qFg G))
 have ah:Hi (∀ f x,Bel W f->Calls Tryz.prog 78 #[.slice (some ⟨b,off,none⟩) d.length cap,.int .i64 x] f (Rv (.int .i64 (qQ3 d x)) f)):=lH (fun f x z=>qXb m _ d x f (k.mem.doc.later z I.2.2.2) (qWw G))
 have bk:=qVu G (qFg G)
 have aq:Hi (∀ x∈allM d 0,isM d x false=true):=lH (fun x hx=>by obtain ⟨r,g0⟩:=G.tree;exact qBq g0 g0.is0 hx)
 have hst:qXm d (fun k s=>qQs d C F k true false s) (p:Int) s=if d[p].tag=imgT then (sq d (p:Int) altT,s) else if d[p].tag=qGm/\said d (p:Int) idT≠[]/\findD d (p:Int) (said d (p:Int) idT)=(p:Int) then (match (allM d 0).find? (qXa d (p:Int) s) with | some k=>qQs d C F k true false s | none=>([],s)) else ([],s):=by
  unfold qXm;rw [qQ2 hp];rfl
 obtain ⟨R,hR⟩:∃ R,R=qXm d (fun k s=>qQs d C F k true false s) (p:Int) s:=⟨_,rfl⟩
 rw [<- hR] at hst
 rw [<- hR]
 clear hR
 have B:=lH hst
 have ax:Hi (∀ x,qXa d (p:Int) s x=(decide ((nd d x).tag=lblT)&&decide (said d x forT=said d (p:Int) idT)&&decide (qQ3 d x=qQ3 d (p:Int))&&!s.had x)):=lH (fun _=>rfl)
 have c0:=k.mem.c0
 have H:=lH (Br W)
 clear hst al k I hF hn hN
 generalize b7:sq d (p:Int) altT=bi at *
 clear b7
 generalize hP:qXa d (p:Int) s=P at *
 clear hP
 obtain ⟨fi,D⟩:∃ x,x=findD d (p:Int) (said d (p:Int) idT):=⟨_,rfl⟩
 rw [<- D] at aa B
 clear D
 generalize said d (p:Int) idT=id at *
 generalize hasA d (p:Int) idT=bp at *
 generalize b8:d[p].tag=N at *
 clear b8
 by_cases A:N=imgT
 ·have ba:(N==[105,109,103])=true:=by rw [A];rfl
  have t:Hi (R=(bi,s)):=lH (by rw [B.o,if_pos A])
  clear A
  obtain rfl:=t.o
  clear B t
  go_enter Tryz.func73,Tryz.ntmps73
  go_wp2_with (go_at_call 37;refine qQe b4.o H fun w2 H=>?_)
  go_ret
  exact ⟨rfl,Nmd.bel H.o,⟨l.o.mem.bel H.o,l.o.ok⟩⟩
 have ba:(N==[105,109,103])=false:=by
  have:(N==imgT)=false:=by simpa using A
  exact this
 by_cases M:N=qGm
 ·have hb1:(N==[105,110,112,117,116])=true:=by rw [M];rfl
  by_cases Z:id=[]
  ·subst Z
   have t:Hi (R=([],s)):=lH (by rw [B.o,if_neg A,if_neg (by simp)])
   clear A M
   obtain rfl:=t.o
   clear B t
   go_enter Tryz.func73,Tryz.ntmps73
   go_wp2_with (go_at_call 39;refine qQe (ab.o _ H.o) H fun w2 H=>?_)
   go_ret
   exact ⟨rfl,Nmd.bel H.o,⟨l.o.mem.bel H.o,l.o.ok⟩⟩
  have bm:(id==[])=false:=by simpa using Z
  have bn:=zZf Z
  by_cases D:fi=(p:Int)
  ·have bb:(fi==(p:Int))=true:=by simpa using D
   have t:Hi (R=(match (allM d 0).find? P with | some k=>qQs d C F k true false s | none=>([],s))):=lH (by rw [B.o,if_neg A,if_pos ⟨M,Z,D⟩])
   clear B A M Z
   subst D
   have ag:=t
   clear t
   generalize allM d 0=L at *
   go_enter Tryz.func73,Tryz.ntmps73
   go_wp2_with (first
 | (go_at_call 39;refine qQe (ab.o _ H.o) H fun w2 H=>?_;have c0:=(l.o.mem.bel H.o).c0)
 | (go_at_call 41;(with_reducible refine qQe (aa.o _ H.o) H fun w3 H=>?_);have c0:=(l.o.mem.bel H.o).c0)
 | (go_at_call 46;(with_reducible refine (b3.o _ H.o).mono ?_);rintro e1 w4 ⟨U,y4,rfl,o4⟩;have ae:=lH (Bt H.o U);have HL:=lH o4;obtain ⟨la,lc,rfl,l1,l2⟩:=Rf o4.read;clear U o4))
   go_loopw [54] (fun a5 wr=>∃ j:Nat,j<=L.length/\a5=.int .i64 j/\(L.take j).find? P=none/\Bel w4 wr) (fun a5 _=>L.length - (intOf a5).toNat)
   case atStart=>exact ⟨0,by omega,rfl,rfl,Br _⟩
   case round=>
    obtain ⟨j,hj,rfl,ai,hB⟩:=hrel;have a9:=lH ai;have an:=lH hB;have a0:=lH (Bt ae.o hB);have t:=lH (qQa.later HL.o.read qQc hB (Zb _));have c0:=(l.o.mem.bel a0.o).c0;clear ai hB;by_cases a4:j<L.length
    ·obtain ⟨_,_,_,_,e1,_,_,_,_⟩:=qQa.elem t.o j a4;simp at e1;obtain ⟨rfl,rfl⟩:=e1;have cx:=t.o.int_cell j a4;have az:=lH (fun hh=>qDl a9.o a4 hh);have ap:=lH (fun hh=>zJ6 a9.o a4 hh);have ad:=aq.o L[j] (Zl a4);have ac:=ax.o L[j];clear t;generalize L[j]=kk at *
     obtain ⟨q,hq,rfl,-⟩:=qQy.1 ad;rw [qQ2 hq] at ac;have ar:=lH ad;have a1:=lH ac;have b5:=lH (fun f z=>b6.o (q:Int) f z);clear ad ac;have b1:Hi (∀ f,Bel W f->f.cell? ⟨b,off+q*9+1,none⟩=some (.string ⟨d[q].tag.toArray⟩)):=lH (fun f z=>b2.o _ _ (l.o.mem.bel z) q hq);generalize b9:d[q].tag=tq at *
     clear b9;generalize said d (q:Int) forT=fk at *
     generalize hasA d (q:Int) forT=bo at *
     obtain ⟨ks,hS,ak⟩:=l.o.mem.had;have aw:=lH ak;have b0:Hi (∀ f,Bel W f->qJ3 f h ks):=lH (fun f z=>hS.agree (z.block h ay.o.2.1));clear hS ak;go_upto_region 12 with (go_at_call 39;refine (b5.o _ a0.o).mono ?_;rintro e1 w5 ⟨rfl,U⟩;have a6:=lH (Bt an.o U);have S:=lH (Bt a0.o U);clear U;have c0:=(l.o.mem.bel S.o).c0;have c2:=(l.o.mem.bel S.o).c2;have t8:=b1.o _ S.o)
     go_cut [104] from 67 to 104 (fun a5 wx=>a5=.bool (P (q:Int))/\Bel w4 wx)
     case first=>
      by_cases J:tq=lblT
      ·have bc:(tq==[108,97,98,101,108])=true:=(by rw [J];rfl);by_cases O:fk=id
       ·have bd:(fk==id)=true:=(by simpa using O);by_cases Y:qQ3 d (q:Int)=qQ3 d (p:Int)
        ·have be:(qQ3 d (q:Int)==qQ3 d (p:Int))=true:=(by simpa using Y);have bq:∀ a,(Instr.lookup 89 (.map (some h)) (.int .i64 (q:Int)) false).run Tryz.prog (w5.drewN a)=.ok (.bool (ks.contains (q:Int))) (w5.drewN a):=fun a=>qJ3.look qQ0 bh bf bg (b0.o _ (S.o.drewN a)) _;have V:Hi (P (q:Int)=!ks.contains (q:Int)):=lH (by rw [a1.o,aw.o];simp [J,O,Y]);clear J O Y;go_quiet ((go_at_call 78;exact Calls.quiet_of_same ((ah.o _ _ (S.o.drewN _)).mono (fun _ _ h=>⟨h.1,h.2.symm⟩))))
         go_wp2;go_meet
         exact ⟨by rw [V.o];simp,a6.o.drewN _⟩
        ·have be:(qQ3 d (q:Int)==qQ3 d (p:Int))=false:=(by simpa using Y);have V:Hi (P (q:Int)=false):=lH (by rw [a1.o];simp [Y]);clear J O Y;go_quiet ((go_at_call 78;exact Calls.quiet_of_same ((ah.o _ _ (S.o.drewN _)).mono (fun _ _ h=>⟨h.1,h.2.symm⟩))))
         go_wp2;go_meet
         exact ⟨congrArg Value.bool V.o.symm,a6.o.drewN _⟩
       ·have bd:(fk==id)=false:=(by simpa using O);have V:Hi (P (q:Int)=false):=lH (by rw [a1.o];simp [O]);clear J O;go_quiet (fail)
        go_wp2;go_meet
        exact ⟨congrArg Value.bool V.o.symm,a6.o.drewN _⟩
      ·have bc:(tq==[108,97,98,101,108])=false:=by
        have:(tq==lblT)=false:=(by simpa using J);exact this
       have V:Hi (P (q:Int)=false):=lH (by rw [a1.o];simp [J]);clear J;go_quiet (fail)
       go_wp2;go_meet
       exact ⟨congrArg Value.bool V.o.symm,a6.o.drewN _⟩
     case rest=>
     obtain ⟨rfl,a7⟩:=hcut;have am:=lH a7;have af:=lH (Bt ae.o a7);have bj:=lH (qQa.later HL.o.read qQc a7 (Zb _));clear a7;generalize wc=w6 at *
     cases a2:P (q:Int) with
     | true=>
       have a8:Hi (L.find? P=some (q:Int)):=lH (ap.o a2);have aj:s.had (q:Int)=false:=by
        have:=a1.o;rw [a2] at this;simp at this;exact this.2
       have cO:=lH (H1.o (q:Int) false s w6 ⟨l.o.mem.bel af.o,l.o.ok⟩ ar.o aj HF.o);clear a2 aj;go_wp2_with (go_at_call 35;(with_reducible refine cO.o.mono ?_);rintro e1 w7 ⟨rfl,d7,k7⟩;have ao:=lH d7;have au:=lH k7;clear d7 k7)
       go_ret;have a3:=ag.o;rw [a8.o] at a3;subst a3;exact ⟨rfl,(Nmd.bel af.o).trans ao.o,au.o⟩
     | false=>
       have a8:Hi ((L.take (j+1)).find? P=none):=lH (az.o a2);clear a2;go_wp2;go_roundw;case rel=>exact ⟨j+1,by omega,by go_num,a8.o,am.o⟩
       case measure=>simp [intOf];omega
    ·have hT:L.take j=L:=Zn (by omega);have HE:Hi (L.find? P=none):=lH (by have:=a9.o;rwa [hT] at this);clear hT t;go_wp2;go_ret;have a3:=ag.o;rw [HE.o] at a3;subst a3;exact ⟨rfl,Nmd.bel a0.o,⟨l.o.mem.bel a0.o,l.o.ok⟩⟩
  ·have bb:(fi==(p:Int))=false:=by simpa using D
   have t:Hi (R=([],s)):=lH (by rw [B.o,if_neg A,if_neg (by simp [D])])
   clear A M Z D
   obtain rfl:=t.o
   clear B t
   go_enter Tryz.func73,Tryz.ntmps73
   go_wp2_with (first
 | (go_at_call 39;refine qQe (ab.o _ H.o) H fun w2 H=>?_;have c0:=(l.o.mem.bel H.o).c0)
 | (go_at_call 41;(with_reducible refine qQe (aa.o _ H.o) H fun w3 H=>?_)))
   go_ret
   exact ⟨rfl,Nmd.bel H.o,⟨l.o.mem.bel H.o,l.o.ok⟩⟩
 ·have hb1:(N==[105,110,112,117,116])=false:=by
   have:(N==qGm)=false:=(by simpa using M);exact this
  have t:Hi (R=([],s)):=lH (by rw [B.o,if_neg A,if_neg (fun hh=>M hh.1)])
  clear A M
  obtain rfl:=t.o
  clear B t
  go_enter Tryz.func73,Tryz.ntmps73
  go_wp2
  go_ret
  exact ⟨rfl,Nmd.bel H.o,⟨l.o.mem.bel H.o,l.o.ok⟩⟩
theorem zYd (f A j l p q t:Value) (w:World):(Instr.field 57 (.agg #[f,A,j,l,p,q,t]) 1).run Tryz.prog w=.ok A w:=by kernel_rfl
theorem zY3 {d:Dc} (G:Good d) {C:List Clm} (hC:∀ c∈C,isM d c.kid false=true) {s:St} (H:qZz d s.had<=F) (n:Int) (name:Txt):qZz d (qYq d (fun k s=>qQs d C F k true true s) n name s).2.had<=qZz d s.had:=by
 have h:=zY2 G hC (li:=true) (K:=(toks (said d n name)).map (findD d n)) (fun k f=>by obtain ⟨I,_,rfl⟩:=List.mem_map.1 f;exact qD9 G n I) H ((toks (said d n name)).map (findD d n)).length;rw [List.take_length] at h;exact h.free
theorem zFf {d:Dc} (f:Good d) {C:List Clm} (hC:∀ c∈C,isM d c.kid false=true) {s:St} (l:qZz d s.had<=F) (n:Int):qZz d (qXm d (fun k s=>qQs d C F k true false s) n s).2.had<=qZz d s.had:=by
 unfold qXm;split
 ·exact Zb _
 ·split
  ·split
   ·rename_i k j;obtain ⟨r,G⟩:=f.tree;have p:=List.mem_of_find?_eq_some j;have H:=List.find?_some j;have q:s.had k=false:=(by unfold qXa at H;simp at H;exact H.2);exact Nat.le_of_succ_le (qHd f hC F k true false s (qBq G G.is0 p) q l).1.free
   ·exact Zb _
  ·exact Zb _
theorem zH6 {t:Txt} :t≠[]↔(!t.isEmpty)=true:=by cases t <;> simp
theorem zFe (d:Dc) (C:List Clm) (F:Nat) (n:Int) (f p:Bool) (s:St) (S:St) (R j l:Txt×St) (H:S=hitM n (markM d n s))
 (z:R=if f then ([],S) else qYq d (fun k s=>qQs d C F k true true s) n qJu S) (A:j=qXm d (fun k s=>qQs d C F k true false s) n R.2)
 (B:l=if f||(kOf (qQd d n)).content then qYh d C (fun k s=>qQs d C F k true p s) n j.2 else ([],j.2)) :
 qQs d C (F+1) n f p s=if (!p&&qZa d n)=true then ([],S) else if (nd d n).tag.isEmpty=true then (qQn (nd d n).text,S) else if (!R.1.isEmpty)=true then R
  else if (!(sq d n labelT).isEmpty)=true then (sq d n labelT,R.2) else if (f&&(qQd d n==12))=true then (sq d n valueT,R.2) else if (!j.1.isEmpty)=true then j else if (!l.1.isEmpty)=true then l else (sq d n titleT,l.2):=by
 subst H z A B
 rw [qDb]
 unfold qVd step2 step1 qHy
 simp only [zH6]
 have q:((nd d n).tag=[])=((nd d n).tag.isEmpty=true):=by cases (nd d n).tag <;> simp
 have t:(f=true/\qQd d n=12)=((f&&(qQd d n==12))=true):=by simp
 simp only [q,t]
theorem qVs {m g h u:Nat} {dv cv:Value} {X:List Value} {e:TypeId} {d:Dc} {C:List Clm} (gd:Good d) (hC:∀ c∈C,isM d c.kid false=true) (bb:C.length<=1000):∀ (F:Nat) (n:Int) (a0 Z:Bool) (s:St) (W:World),
 NmAt m g h u dv cv X e d C W s->isM d n false=true->s.had n=false->qZz d s.had<=F ->
 Calls Tryz.prog 35 #[.pointer (some ⟨g,0,none⟩),.int .i64 n,.bool a0,.bool Z] W (Rm W h u (.string ⟨(qQs d C F n a0 Z s).1.toArray⟩) (fun w'=>NmAt m g h u dv cv X e d C w' (qQs d C F n a0 Z s).2)):=by
 intro F;induction F with
 | zero=>
   intro n a0 Z s W k hn hh hf;have:=qB8 hn hh;omega
 | succ F ih=>
 intro n a0 Z s W k hn hh hf;have H1:OneAt 35 m g h u dv cv X e d C F:=fun x li s' W' k' hx bh be=>ih x true li s' W' k' hx bh be;have bf:=qB8 hn hh;obtain ⟨p,hp,rfl,-⟩:=qQy.1 hn;obtain ⟨b,off,cap,av,kv,sv,rfl,v1,v2,bm,hN⟩:=k.mem.doc.node p hp;have ap:=zZs qYx;have bk:=hN.tag;have bl:=hN.text;have G:Hi (∀ w' s',NmM m g h u (.slice (some ⟨b,off,none⟩) d.length cap) cv X e d C w' s'->w'.cell? ⟨b,off+p*9+1,none⟩=some (.string ⟨d[p].tag.toArray⟩)):=lH (fun w' s' O=>zVs O.doc hp);have I:Hi (∀ w' s',NmM m g h u (.slice (some ⟨b,off,none⟩) d.length cap) cv X e d C w' s'->w'.cell? ⟨b,off+p*9+2,none⟩=some (.string ⟨d[p].text.toArray⟩)):=lH (fun w' s' O=>zH4 O.doc hp);obtain ⟨s1,aa⟩:∃ x,x=hitM (p:Int) (markM d (p:Int) s):=⟨_,rfl⟩;have a5:qZz d s1.had<=F:=by rw [aa];show qZz d (hitM (p:Int) s).had<=F;omega
 obtain ⟨r1,a9⟩:∃ r1,r1=if a0 then ([],s1) else qYq d (fun k s=>qQs d C F k true true s) (p:Int) qJu s1:=⟨_,rfl⟩
 have ac:qZz d r1.2.had<=F:=by
  rw [a9];split
  ·exact a5
  ·exact Za (zY3 gd hC a5 _ _) a5
 obtain ⟨r2,ao⟩:∃ r2,r2=qXm d (fun k s=>qQs d C F k true false s) (p:Int) r1.2:=⟨_,rfl⟩;have az:qZz d r2.2.had<=F:=by
  rw [ao];exact Za (zFf gd hC ac _) ac
 obtain ⟨q3,aw⟩:∃ q3,q3=qYh d C (fun k s=>qQs d C F k true Z s) (p:Int) r2.2:=⟨_,rfl⟩;have b5:(if a0||(kOf (qQd d (p:Int))).content then q3 else ([],r2.2))=if a0||(kOf (qQd d (p:Int))).content then qYh d C (fun k s=>qQs d C F k true Z s) (p:Int) r2.2 else ([],r2.2):=by rw [aw]
 have a8:=zFe d C F (p:Int) a0 Z s s1 r1 r2 _ aa a9 ao b5;clear b5;obtain ⟨b0,hR⟩:∃ b0,b0=qQs d C (F+1) (p:Int) a0 Z s:=⟨_,rfl⟩;rw [<- hR] at a8 ⊢;rw [qQ2 hp] at a8;have ba:=lH k;have an:=lH (qWi gd k.mem k.ok hn);have ae:qH6 d s1:=by rw [aa];exact (k.ok.mark gd hn).hit _
 have ae:=lH ae;have ad:Hi (∀ w1 w2 ks,NmM m g h u (.slice (some ⟨b,off,none⟩) d.length cap) cv X e d C w1 (markM d (p:Int) s)->(∀ x,(markM d (p:Int) s).had x=ks.contains x)->qJ3 w2 h (addK ks (p:Int))->w1.grownBy w2 (some h)->NmAt m g h u (.slice (some ⟨b,off,none⟩) d.length cap) cv X e d C w2 s1):=lH (fun w1 w2 ks h1 h2 h3 h4=>⟨by rw [aa];exact h1.hit h2 h3 h4,ae.o⟩);have b2:Hi (∀ w' s',NmM m g h u (.slice (some ⟨b,off,none⟩) d.length cap) cv X e d C w' s'->Calls Tryz.prog 72 #[.slice (some ⟨b,off,none⟩) d.length cap,.int .i64 (p:Int)] w' (Rb (.bool (qZa d (p:Int))) w')):=lH (fun w' s' O=>qVn m _ d _ w' O.doc O.lts.2.2.2 gd);have al:Hi (∀ w' s',NmM m g h u (.slice (some ⟨b,off,none⟩) d.length cap) cv X e d C w' s'->Calls Tryz.prog 14 #[.slice (some ⟨b,off,none⟩) d.length cap,.int .i64 (p:Int)] w' (Rb (.int .i64 (qQd d (p:Int))) w')):=lH (fun w' s' O=>qKa m _ d _ w' O.doc O.lts.2.2.2 gd);have ah:Hi (∀ w' s',NmM m g h u (.slice (some ⟨b,off,none⟩) d.length cap) cv X e d C w' s'->∀ name,Calls Tryz.prog 37 #[.pointer (some ⟨g,0,none⟩),.int .i64 (p:Int),.string ⟨name.toArray⟩] w' (Rb (.string ⟨(sq d (p:Int) name).toArray⟩) w')):=lH (fun w' s' O name=>qJj gd O _ name);have ai:Hi (∀ w' s',NmM m g h u (.slice (some ⟨b,off,none⟩) d.length cap) cv X e d C w' s'->Calls Tryz.prog 37 #[.pointer (some ⟨g,0,none⟩),.int .i64 (p:Int),.string ⟨#[97,114,105,97,45,108,97,98,101,108]⟩] w' (Rb (.string ⟨(sq d (p:Int) labelT).toArray⟩) w')):=lH (fun w' s' O=>ah.o w' s' O labelT);have b1:Hi (∀ w' s',NmM m g h u (.slice (some ⟨b,off,none⟩) d.length cap) cv X e d C w' s'->Calls Tryz.prog 37 #[.pointer (some ⟨g,0,none⟩),.int .i64 (p:Int),.string ⟨#[118,97,108,117,101]⟩] w' (Rb (.string ⟨(sq d (p:Int) valueT).toArray⟩) w')):=lH (fun w' s' O=>ah.o w' s' O valueT);have aj:Hi (∀ w' s',NmM m g h u (.slice (some ⟨b,off,none⟩) d.length cap) cv X e d C w' s'->Calls Tryz.prog 37 #[.pointer (some ⟨g,0,none⟩),.int .i64 (p:Int),.string ⟨#[116,105,116,108,101]⟩] w' (Rb (.string ⟨(sq d (p:Int) titleT).toArray⟩) w')):=lH (fun w' s' O=>ah.o w' s' O titleT);have b6:d[p].text.length<=60:=by
  obtain ⟨r,g0⟩:=gd.tree;have:=(g0.ok (p:Int)).short.1;rwa [qQ2 hp] at this
 have am:Hi (∀ w',Calls Tryz.prog 68 #[.string ⟨d[p].text.toArray⟩] w' (Rb (.string ⟨(qQn d[p].text).toArray⟩) w')):=lH (fun w'=>qKl _ b6 w');have a7:Hi (∀ w',NmAt m g h u (.slice (some ⟨b,off,none⟩) d.length cap) cv X e d C w' r1.2->Calls Tryz.prog 73 #[.pointer (some ⟨g,0,none⟩),.int .i64 (p:Int)] w' (Rm w' h u (.string ⟨r2.1.toArray⟩) (fun ab=>NmAt m g h u (.slice (some ⟨b,off,none⟩) d.length cap) cv X e d C ab r2.2))):=lH (fun w' O=>by rw [ao];exact qG1 gd H1 O ac _ hn);have a6:Hi (∀ w',NmAt m g h u (.slice (some ⟨b,off,none⟩) d.length cap) cv X e d C w' r2.2->Calls Tryz.prog 74 #[.pointer (some ⟨g,0,none⟩),.int .i64 (p:Int),.bool Z] w' (Rm w' h u (.string ⟨q3.1.toArray⟩) (fun ab=>NmAt m g h u (.slice (some ⟨b,off,none⟩) d.length cap) cv X e d C ab q3.2))):=lH (fun w' O=>by rw [aw];exact qBs gd hC bb H1 O az _ Z);have ak:Hi (a0=false->∀ w',NmAt m g h u (.slice (some ⟨b,off,none⟩) d.length cap) cv X e d C w' s1->Calls Tryz.prog 36 #[.pointer (some ⟨g,0,none⟩),.int .i64 (p:Int),.string ⟨#[97,114,105,97,45,108,97,98,101,108,108,101,100,98,121]⟩] w' (Rm w' h u (.string ⟨r1.1.toArray⟩) (fun ab=>NmAt m g h u (.slice (some ⟨b,off,none⟩) d.length cap) cv X e d C ab r1.2))):=lH (fun hw w' O=>by rw [a9,hw];exact qX9 gd hC H1 O a5 _ qJu);have ag:Hi (a0=true->r1=([],s1)):=lH (fun hw=>by rw [a9,hw];rfl);have au:=lH (qKt (qQd d (p:Int)));have bn:=zYd;have J:=k.mem.c0;have c2:=k.mem.c2;have bj:=lH (Br W);clear hR k ih H1 a5 ac az a9 ao aw hf bf hh hn hN b6 ae ba ah;generalize qZa d (p:Int)=hd at *
 generalize sq d (p:Int) labelT=lb at *
 generalize sq d (p:Int) valueT=vl at *
 generalize sq d (p:Int) titleT=tt at *
 generalize qQd d (p:Int)=rl at *
 generalize qQn d[p].text=bx at *
 generalize bd:d[p].text=tx at *
 clear bd;generalize bc:d[p].tag=tg at *
 clear bc;generalize bg:kOf rl=kk at *
 clear bg;obtain ⟨bs,b8,bp,bq,bo,br,bt⟩:=kk;obtain ⟨b9,bv⟩:=r1;obtain ⟨ar,bw⟩:=r2;obtain ⟨aq,bu⟩:=q3;simp only at a8 a7 a6 ak ag au;clear aa;have af:=lH a8;clear a8;cases a0 with
 | true=>
   have b7:=ag.o rfl;simp only [Prod.mk.injEq] at b7;obtain ⟨rfl,rfl⟩:=b7;clear ak ag;cases Z with
   | true=>
     cases j:tg.isEmpty;all_goals
      go_enter Tryz.func35,Tryz.ntmps35
      go_wp2_with (first
 | (go_at_call 34;(with_reducible refine an.o.mono ?_);rintro q w1 ⟨rfl,d1,S⟩;have D:=lH d1;have a2:=lH S;have c2:=S.c2;obtain ⟨ks,hS,a1⟩:=S.had;have a4:=lH hS;have a3:=lH a1;clear d1 S hS a1)
 | (with_reducible refine qJ1 rfl (.inr rfl) qQ0 ap a4.o (p:Int) rfl rfl rfl ?_;intro w2 q2 V z2;have H:=lH (ad.o _ _ _ a2.o a3.o q2 V);have D:=lH (D.o.trans (Nmd.had V));have J:=H.o.mem.c0;have M:=G.o _ _ H.o.mem;have N:=I.o _ _ H.o.mem;clear q2 V z2)
 | (go_at_call 68;(with_reducible refine (am.o _).mono ?_);rintro q w4 ⟨rfl,B⟩;have D:=lH (D.o.trans (Nmd.bel B));have H:=lH (NmAt.mk (H.o.mem.bel B) H.o.ok);clear B)
 | (go_at_call 37;(with_reducible refine (ai.o _ _ H.o.mem).mono ?_);rintro q w6 ⟨rfl,B⟩;have D:=lH (D.o.trans (Nmd.bel B));have H:=lH (NmAt.mk (H.o.mem.bel B) H.o.ok);have J:=H.o.mem.c0;have M:=G.o _ _ H.o.mem;have N:=I.o _ _ H.o.mem;clear B;cases l:lb.isEmpty)
 | (go_at_call 37;(with_reducible refine (b1.o _ _ H.o.mem).mono ?_);rintro q w7 ⟨rfl,B⟩;have D:=lH (D.o.trans (Nmd.bel B));have H:=lH (NmAt.mk (H.o.mem.bel B) H.o.ok);clear B)
 | (go_at_call 37;(with_reducible refine (aj.o _ _ H.o.mem).mono ?_);rintro q w8 ⟨rfl,B⟩;have D:=lH (D.o.trans (Nmd.bel B));have H:=lH (NmAt.mk (H.o.mem.bel B) H.o.ok);clear B)
 | (go_at_call 14;(with_reducible refine (al.o _ _ H.o.mem).mono ?_);rintro q w9 ⟨rfl,B⟩;have D:=lH (D.o.trans (Nmd.bel B));have H:=lH (NmAt.mk (H.o.mem.bel B) H.o.ok);have J:=H.o.mem.c0;have M:=G.o _ _ H.o.mem;have N:=I.o _ _ H.o.mem;clear B;cases U:(rl==12))
 | (go_at_call 73;(with_reducible refine (a7.o _ H.o).mono ?_);rintro q ax ⟨rfl,t,z⟩;have D:=lH (D.o.trans t);have H:=lH z;have J:=H.o.mem.c0;have M:=G.o _ _ H.o.mem;have N:=I.o _ _ H.o.mem;clear t z;cases A:ar.isEmpty)
 | (go_at_call 74;(with_reducible refine (a6.o _ H.o).mono ?_);rintro q ay ⟨rfl,t,z⟩;have D:=lH (D.o.trans t);have H:=lH z;have J:=H.o.mem.c0;have M:=G.o _ _ H.o.mem;have N:=I.o _ _ H.o.mem;clear t z;cases Y:aq.isEmpty))
      all_goals
       go_ret
       have f:=af.o
       first
        | (simp [j,R,l,U,A,Y] at f;subst f;exact ⟨rfl,D.o,H.o⟩)
        | (simp [j,l,U,A,Y] at f;subst f;exact ⟨rfl,D.o,H.o⟩)
        | (simp [j,R,l,A,Y] at f;subst f;exact ⟨rfl,D.o,H.o⟩)
        | (simp [j,R,l,A] at f;subst f;exact ⟨rfl,D.o,H.o⟩)
        | (simp [j,l,A] at f;subst f;exact ⟨rfl,D.o,H.o⟩)
        | (simp [j,l,U,A] at f;subst f;exact ⟨rfl,D.o,H.o⟩)
        | (simp [j,l,U] at f;subst f;exact ⟨rfl,D.o,H.o⟩)
        | (simp [j,R,l] at f;subst f;exact ⟨rfl,D.o,H.o⟩)
        | (simp [j,l] at f;subst f;exact ⟨rfl,D.o,H.o⟩)
        | (simp [j,R] at f;subst f;exact ⟨rfl,D.o,H.o⟩)
        | (simp [j] at f;subst f;exact ⟨rfl,D.o,H.o⟩)
   | false=>
     cases j:tg.isEmpty;all_goals
      go_enter Tryz.func35,Tryz.ntmps35
      go_wp2_with (first
 | (go_at_call 34;(with_reducible refine an.o.mono ?_);rintro q w1 ⟨rfl,d1,S⟩;have D:=lH d1;have a2:=lH S;have c2:=S.c2;obtain ⟨ks,hS,a1⟩:=S.had;have a4:=lH hS;have a3:=lH a1;clear d1 S hS a1)
 | (with_reducible refine qJ1 rfl (.inr rfl) qQ0 ap a4.o (p:Int) rfl rfl rfl ?_;intro w2 q2 V z2;have H:=lH (ad.o _ _ _ a2.o a3.o q2 V);have D:=lH (D.o.trans (Nmd.had V));have J:=H.o.mem.c0;have M:=G.o _ _ H.o.mem;have N:=I.o _ _ H.o.mem;clear q2 V z2)
 | (go_at_call 72;(with_reducible refine (b2.o _ _ H.o.mem).mono ?_);rintro q w3 ⟨rfl,B⟩;have D:=lH (D.o.trans (Nmd.bel B));have H:=lH (NmAt.mk (H.o.mem.bel B) H.o.ok);have J:=H.o.mem.c0;have M:=G.o _ _ H.o.mem;have N:=I.o _ _ H.o.mem;clear B;cases hd)
 | (go_at_call 68;(with_reducible refine (am.o _).mono ?_);rintro q w4 ⟨rfl,B⟩;have D:=lH (D.o.trans (Nmd.bel B));have H:=lH (NmAt.mk (H.o.mem.bel B) H.o.ok);clear B)
 | (go_at_call 37;(with_reducible refine (ai.o _ _ H.o.mem).mono ?_);rintro q w6 ⟨rfl,B⟩;have D:=lH (D.o.trans (Nmd.bel B));have H:=lH (NmAt.mk (H.o.mem.bel B) H.o.ok);have J:=H.o.mem.c0;have M:=G.o _ _ H.o.mem;have N:=I.o _ _ H.o.mem;clear B;cases l:lb.isEmpty)
 | (go_at_call 37;(with_reducible refine (b1.o _ _ H.o.mem).mono ?_);rintro q w7 ⟨rfl,B⟩;have D:=lH (D.o.trans (Nmd.bel B));have H:=lH (NmAt.mk (H.o.mem.bel B) H.o.ok);clear B)
 | (go_at_call 37;(with_reducible refine (aj.o _ _ H.o.mem).mono ?_);rintro q w8 ⟨rfl,B⟩;have D:=lH (D.o.trans (Nmd.bel B));have H:=lH (NmAt.mk (H.o.mem.bel B) H.o.ok);clear B)
 | (go_at_call 14;(with_reducible refine (al.o _ _ H.o.mem).mono ?_);rintro q w9 ⟨rfl,B⟩;have D:=lH (D.o.trans (Nmd.bel B));have H:=lH (NmAt.mk (H.o.mem.bel B) H.o.ok);have J:=H.o.mem.c0;have M:=G.o _ _ H.o.mem;have N:=I.o _ _ H.o.mem;clear B;cases U:(rl==12))
 | (go_at_call 73;(with_reducible refine (a7.o _ H.o).mono ?_);rintro q ax ⟨rfl,t,z⟩;have D:=lH (D.o.trans t);have H:=lH z;have J:=H.o.mem.c0;have M:=G.o _ _ H.o.mem;have N:=I.o _ _ H.o.mem;clear t z;cases A:ar.isEmpty)
 | (go_at_call 74;(with_reducible refine (a6.o _ H.o).mono ?_);rintro q ay ⟨rfl,t,z⟩;have D:=lH (D.o.trans t);have H:=lH z;have J:=H.o.mem.c0;have M:=G.o _ _ H.o.mem;have N:=I.o _ _ H.o.mem;clear t z;cases Y:aq.isEmpty))
      all_goals
       go_ret
       have f:=af.o
       first
        | (simp [j,R,l,U,A,Y] at f;subst f;exact ⟨rfl,D.o,H.o⟩)
        | (simp [j,l,U,A,Y] at f;subst f;exact ⟨rfl,D.o,H.o⟩)
        | (simp [j,R,l,A,Y] at f;subst f;exact ⟨rfl,D.o,H.o⟩)
        | (simp [j,R,l,A] at f;subst f;exact ⟨rfl,D.o,H.o⟩)
        | (simp [j,l,A] at f;subst f;exact ⟨rfl,D.o,H.o⟩)
        | (simp [j,l,U,A] at f;subst f;exact ⟨rfl,D.o,H.o⟩)
        | (simp [j,l,U] at f;subst f;exact ⟨rfl,D.o,H.o⟩)
        | (simp [j,R,l] at f;subst f;exact ⟨rfl,D.o,H.o⟩)
        | (simp [j,l] at f;subst f;exact ⟨rfl,D.o,H.o⟩)
        | (simp [j,R] at f;subst f;exact ⟨rfl,D.o,H.o⟩)
        | (simp [j] at f;subst f;exact ⟨rfl,D.o,H.o⟩)
 | false=>
   have b4:=ak.o rfl;have b3:=lH b4;clear b4 ak;clear ag;cases Z with
   | true=>
     cases j:tg.isEmpty;all_goals
      go_enter Tryz.func35,Tryz.ntmps35
      go_wp2_with (first
 | (go_at_call 34;(with_reducible refine an.o.mono ?_);rintro q w1 ⟨rfl,d1,S⟩;have D:=lH d1;have a2:=lH S;have c2:=S.c2;obtain ⟨ks,hS,a1⟩:=S.had;have a4:=lH hS;have a3:=lH a1;clear d1 S hS a1)
 | (with_reducible refine qJ1 rfl (.inr rfl) qQ0 ap a4.o (p:Int) rfl rfl rfl ?_;intro w2 q2 V z2;have H:=lH (ad.o _ _ _ a2.o a3.o q2 V);have D:=lH (D.o.trans (Nmd.had V));have J:=H.o.mem.c0;have M:=G.o _ _ H.o.mem;have N:=I.o _ _ H.o.mem;clear q2 V z2)
 | (go_at_call 68;(with_reducible refine (am.o _).mono ?_);rintro q w4 ⟨rfl,B⟩;have D:=lH (D.o.trans (Nmd.bel B));have H:=lH (NmAt.mk (H.o.mem.bel B) H.o.ok);clear B)
 | (go_at_call 36;(with_reducible refine (b3.o _ H.o).mono ?_);rintro q w5 ⟨rfl,t,z⟩;have D:=lH (D.o.trans t);have H:=lH z;have J:=H.o.mem.c0;have M:=G.o _ _ H.o.mem;have N:=I.o _ _ H.o.mem;clear t z;cases R:b9.isEmpty)
 | (go_at_call 37;(with_reducible refine (ai.o _ _ H.o.mem).mono ?_);rintro q w6 ⟨rfl,B⟩;have D:=lH (D.o.trans (Nmd.bel B));have H:=lH (NmAt.mk (H.o.mem.bel B) H.o.ok);have J:=H.o.mem.c0;have M:=G.o _ _ H.o.mem;have N:=I.o _ _ H.o.mem;clear B;cases l:lb.isEmpty)
 | (go_at_call 37;(with_reducible refine (aj.o _ _ H.o.mem).mono ?_);rintro q w8 ⟨rfl,B⟩;have D:=lH (D.o.trans (Nmd.bel B));have H:=lH (NmAt.mk (H.o.mem.bel B) H.o.ok);clear B)
 | (go_at_call 14;(with_reducible refine (al.o _ _ H.o.mem).mono ?_);rintro q w9 ⟨rfl,B⟩;have D:=lH (D.o.trans (Nmd.bel B));have H:=lH (NmAt.mk (H.o.mem.bel B) H.o.ok);have J:=H.o.mem.c0;have M:=G.o _ _ H.o.mem;have N:=I.o _ _ H.o.mem;clear B;skip)
 | (go_at_call 73;(with_reducible refine (a7.o _ H.o).mono ?_);rintro q ax ⟨rfl,t,z⟩;have D:=lH (D.o.trans t);have H:=lH z;have J:=H.o.mem.c0;have M:=G.o _ _ H.o.mem;have N:=I.o _ _ H.o.mem;clear t z;cases A:ar.isEmpty)
 | (go_at_call 15;(with_reducible refine (au.o _).mono ?_);rintro q bi ⟨rfl,B⟩;have D:=lH (D.o.trans (Nmd.bel B));have H:=lH (NmAt.mk (H.o.mem.bel B) H.o.ok);have J:=H.o.mem.c0;have M:=G.o _ _ H.o.mem;have N:=I.o _ _ H.o.mem;clear B;cases b8)
 | (go_at_call 74;(with_reducible refine (a6.o _ H.o).mono ?_);rintro q ay ⟨rfl,t,z⟩;have D:=lH (D.o.trans t);have H:=lH z;have J:=H.o.mem.c0;have M:=G.o _ _ H.o.mem;have N:=I.o _ _ H.o.mem;clear t z;cases Y:aq.isEmpty))
      all_goals
       go_ret
       have f:=af.o
       first
        | (simp [j,R,l,U,A,Y] at f;subst f;exact ⟨rfl,D.o,H.o⟩)
        | (simp [j,l,U,A,Y] at f;subst f;exact ⟨rfl,D.o,H.o⟩)
        | (simp [j,R,l,A,Y] at f;subst f;exact ⟨rfl,D.o,H.o⟩)
        | (simp [j,R,l,A] at f;subst f;exact ⟨rfl,D.o,H.o⟩)
        | (simp [j,l,A] at f;subst f;exact ⟨rfl,D.o,H.o⟩)
        | (simp [j,l,U,A] at f;subst f;exact ⟨rfl,D.o,H.o⟩)
        | (simp [j,l,U] at f;subst f;exact ⟨rfl,D.o,H.o⟩)
        | (simp [j,R,l] at f;subst f;exact ⟨rfl,D.o,H.o⟩)
        | (simp [j,l] at f;subst f;exact ⟨rfl,D.o,H.o⟩)
        | (simp [j,R] at f;subst f;exact ⟨rfl,D.o,H.o⟩)
        | (simp [j] at f;subst f;exact ⟨rfl,D.o,H.o⟩)
   | false=>
     cases j:tg.isEmpty;all_goals
      go_enter Tryz.func35,Tryz.ntmps35
      go_wp2_with (first
 | (go_at_call 34;(with_reducible refine an.o.mono ?_);rintro q w1 ⟨rfl,d1,S⟩;have D:=lH d1;have a2:=lH S;have c2:=S.c2;obtain ⟨ks,hS,a1⟩:=S.had;have a4:=lH hS;have a3:=lH a1;clear d1 S hS a1)
 | (with_reducible refine qJ1 rfl (.inr rfl) qQ0 ap a4.o (p:Int) rfl rfl rfl ?_;intro w2 q2 V z2;have H:=lH (ad.o _ _ _ a2.o a3.o q2 V);have D:=lH (D.o.trans (Nmd.had V));have J:=H.o.mem.c0;have M:=G.o _ _ H.o.mem;have N:=I.o _ _ H.o.mem;clear q2 V z2)
 | (go_at_call 72;(with_reducible refine (b2.o _ _ H.o.mem).mono ?_);rintro q w3 ⟨rfl,B⟩;have D:=lH (D.o.trans (Nmd.bel B));have H:=lH (NmAt.mk (H.o.mem.bel B) H.o.ok);have J:=H.o.mem.c0;have M:=G.o _ _ H.o.mem;have N:=I.o _ _ H.o.mem;clear B;cases hd)
 | (go_at_call 68;(with_reducible refine (am.o _).mono ?_);rintro q w4 ⟨rfl,B⟩;have D:=lH (D.o.trans (Nmd.bel B));have H:=lH (NmAt.mk (H.o.mem.bel B) H.o.ok);clear B)
 | (go_at_call 36;(with_reducible refine (b3.o _ H.o).mono ?_);rintro q w5 ⟨rfl,t,z⟩;have D:=lH (D.o.trans t);have H:=lH z;have J:=H.o.mem.c0;have M:=G.o _ _ H.o.mem;have N:=I.o _ _ H.o.mem;clear t z;cases R:b9.isEmpty)
 | (go_at_call 37;(with_reducible refine (ai.o _ _ H.o.mem).mono ?_);rintro q w6 ⟨rfl,B⟩;have D:=lH (D.o.trans (Nmd.bel B));have H:=lH (NmAt.mk (H.o.mem.bel B) H.o.ok);have J:=H.o.mem.c0;have M:=G.o _ _ H.o.mem;have N:=I.o _ _ H.o.mem;clear B;cases l:lb.isEmpty)
 | (go_at_call 37;(with_reducible refine (aj.o _ _ H.o.mem).mono ?_);rintro q w8 ⟨rfl,B⟩;have D:=lH (D.o.trans (Nmd.bel B));have H:=lH (NmAt.mk (H.o.mem.bel B) H.o.ok);clear B)
 | (go_at_call 14;(with_reducible refine (al.o _ _ H.o.mem).mono ?_);rintro q w9 ⟨rfl,B⟩;have D:=lH (D.o.trans (Nmd.bel B));have H:=lH (NmAt.mk (H.o.mem.bel B) H.o.ok);have J:=H.o.mem.c0;have M:=G.o _ _ H.o.mem;have N:=I.o _ _ H.o.mem;clear B;skip)
 | (go_at_call 73;(with_reducible refine (a7.o _ H.o).mono ?_);rintro q ax ⟨rfl,t,z⟩;have D:=lH (D.o.trans t);have H:=lH z;have J:=H.o.mem.c0;have M:=G.o _ _ H.o.mem;have N:=I.o _ _ H.o.mem;clear t z;cases A:ar.isEmpty)
 | (go_at_call 15;(with_reducible refine (au.o _).mono ?_);rintro q bi ⟨rfl,B⟩;have D:=lH (D.o.trans (Nmd.bel B));have H:=lH (NmAt.mk (H.o.mem.bel B) H.o.ok);have J:=H.o.mem.c0;have M:=G.o _ _ H.o.mem;have N:=I.o _ _ H.o.mem;clear B;cases b8)
 | (go_at_call 74;(with_reducible refine (a6.o _ H.o).mono ?_);rintro q ay ⟨rfl,t,z⟩;have D:=lH (D.o.trans t);have H:=lH z;have J:=H.o.mem.c0;have M:=G.o _ _ H.o.mem;have N:=I.o _ _ H.o.mem;clear t z;cases Y:aq.isEmpty))
      all_goals
       go_ret
       have f:=af.o
       first
        | (simp [j,R,l,U,A,Y] at f;subst f;exact ⟨rfl,D.o,H.o⟩)
        | (simp [j,l,U,A,Y] at f;subst f;exact ⟨rfl,D.o,H.o⟩)
        | (simp [j,R,l,A,Y] at f;subst f;exact ⟨rfl,D.o,H.o⟩)
        | (simp [j,R,l,A] at f;subst f;exact ⟨rfl,D.o,H.o⟩)
        | (simp [j,l,A] at f;subst f;exact ⟨rfl,D.o,H.o⟩)
        | (simp [j,l,U,A] at f;subst f;exact ⟨rfl,D.o,H.o⟩)
        | (simp [j,l,U] at f;subst f;exact ⟨rfl,D.o,H.o⟩)
        | (simp [j,R,l] at f;subst f;exact ⟨rfl,D.o,H.o⟩)
        | (simp [j,l] at f;subst f;exact ⟨rfl,D.o,H.o⟩)
        | (simp [j,R] at f;subst f;exact ⟨rfl,D.o,H.o⟩)
        | (simp [j] at f;subst f;exact ⟨rfl,D.o,H.o⟩)

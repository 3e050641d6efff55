/- Names, walked: sets, the namer in memory, lists, what an element is, one name. -/
import Derived.Test.YtklbmkaomojciaaGreatRoleDoc
import Derived.Maps.RangeWalk
set_option maxRecDepth 100000
set_option maxHeartbeats 4000000
namespace Go.Proofs.YtklbmkaomojciaaGreat
open Go.RowKit
open Go.ChangeMaps (setBlock)
def qJ0 (w:World) (r:Nat) (ks:List Int):Prop:=
 ∃ (es:Array MapEntry) (clock:Nat),w.heap[r]?=some (.map es clock)/\es.toList.map (fun e=>(e.key,e.val))=ks.map (fun k=>(kI k,.bool true))/\ks.Nodup/\(es.toList.map (·.born)).Nodup/\∀ e∈es.toList,e.born<clock
theorem qJ0.lt {w:World} {r:Nat} {ks:List Int} (h:qJ0 w r ks):r<w.heap.size:=by
 obtain ⟨es,clock,h1,_⟩:=h
 exact (Array.getElem?_eq_some_iff.1 h1).1
theorem qJ0.agree {w w':World} {r:Nat} {ks:List Int} (h:qJ0 w r ks) (ha:w'.heap[r]?=w.heap[r]?):qJ0 w' r ks:=by
 obtain ⟨es,clock,h1,h2⟩:=h
 exact ⟨es,clock,ha.trans h1,h2⟩
theorem qJ0.made (w:World):qJ0 (w.alloc (.map #[] 0)) w.heap.size []:=
 ⟨#[],0,heap_alloc_new w _,rfl,List.nodup_nil,by simp,by simp⟩
theorem qJ0.ne {w:World} {r g:Nat} {ks:List Int} {C:Array Value} {e:TypeId} {fz:Nat×Nat} (h:qJ0 w r ks) (hg:w.heap[g]?=some (.cells C e fz)):g≠r:=by
 rintro rfl
 obtain ⟨es,clock,h1,_⟩:=h
 rw [hg] at h1
 simp at h1
theorem zZ9 {ks:List Int} {k:Int} {v:Int->Value}:∀ i,fnd k (ks.map (fun k=>(k,v k))) i=none↔k∉ks:=by
 induction ks with
 | nil=>intro i;simp [fnd]
 | cons x ks ih=>
   intro i
   simp only [List.map_cons,fnd,List.mem_cons,not_or]
   split
   ·rename_i e;simp [e]
   ·rename_i e;rw [ih];simp [e]
theorem qJ0.map {w:World} {r:Nat} {ks:List Int} (h:qJ0 w r ks):qV7 kI w r (fun k=>if k∈ks then some (.bool true) else none):=by
 obtain ⟨es,clock,h1,h2,_⟩:=h
 refine ⟨es,clock,ks.map (fun k=>(k,.bool true)),h1,by rw [h2];simp,fun k=>?_⟩
 dsimp only
 cases hf:fnd k (ks.map (fun k=>(k,Value.bool true))) 0 with
 | none=>rw [if_neg ((zZ9 (v:=fun _=>.bool true) 0).1 hf)];rfl
 | some p=>
   obtain ⟨j,v⟩:=p
   obtain ⟨_,hj,hjv⟩:=zB9 hf
   simp only [Nat.sub_zero,List.getElem_map,Prod.mk.injEq] at hjv
   simp only [Nat.sub_zero,List.length_map] at hj
   obtain ⟨e1,e2⟩:=hjv
   rw [if_pos (by rw [<- e1];exact Zl hj),<- e2]
   rfl
def addK (ks:List Int) (k:Int):List Int:=if k∈ks then ks else ks++[k]
theorem mem_addK {ks:List Int} {k x:Int}:x∈addK ks k↔x∈ks∨x=k:=by
 unfold addK
 split
 ·constructor
  ·intro h;exact .inl h
  ·rintro (h | rfl) <;> assumption
 ·simp
theorem zZ8 {P:Program} {T K E:TypeId} (hT:P.underlying T=some (.map K E)) (L:KeyLaw P K kI) {w:World} {r:Nat} {ks:List Int} (h:qJ0 w r ks) (k:Int) :
 ∃ w',(Instr.mapUpdate T (.map (some r)) (kI k) (.bool true)).run P w=.ok () w'/\qJ0 w' r (addK ks k)/\w.grownBy w' (some r)/\w'.heap.size=w.heap.size:=by
 obtain ⟨es,clock,h1,h2,hn,hb1,hb2⟩:=h
 have hlt:=(Array.getElem?_eq_some_iff.1 h1).1
 have hg:∀ o,w.grownBy { w with heap:=w.heap.setIfInBounds r o } (some r):=fun o=>
  ⟨rfl,rfl,rfl,by simp,fun b _ hne=>by
   show (w.heap.setIfInBounds r o)[b]?=_
   rw [Array.getElem?_setIfInBounds_ne]
   intro e;exact hne (by rw [e])⟩
 have hset:∀ o,(w.heap.setIfInBounds r o)[r]?=some o:=fun o=>by rw [Array.getElem?_setIfInBounds_self,if_pos hlt]
 have hlen:es.size=ks.length:=by have:=congrArg List.length h2;simpa using this
 have h2':es.toList.map (fun e=>(e.key,e.val))=(ks.map (fun k=>(k,Value.bool true))).map (fun p=>(kI p.1,p.2)):=by rw [h2];simp
 cases hf:fnd k (ks.map (fun k=>(k,Value.bool true))) 0 with
 | none=>
   have hk:=(zZ9 (v:=fun _=>.bool true) 0).1 hf
   refine ⟨{ w with heap:=w.heap.setIfInBounds r (.map (es.push { key:=kI k,val:=.bool true,born:=clock }) (clock+1)) },?_,?_,hg _,by simp⟩
   ·unfold Instr.mapUpdate
    simp only [Sem.run_bind,qVy hT,Result.andThen_ok,getObj,Sem.run,h1,L.check,qXo L k es.toList _ h2',hf,setObj]
   ·refine ⟨_,_,hset _,?_,?_,?_,?_⟩
    ·simp [h2,addK,hk]
    ·unfold addK
     rw [if_neg hk]
     rw [List.nodup_append]
     refine ⟨hn,by simp,?_⟩
     intro a ha b hb e
     simp at hb
     subst hb
     exact hk (e▸ha)
    ·simp only [Array.toList_push,List.map_append,List.map_cons,List.map_nil]
     rw [List.nodup_append]
     refine ⟨hb1,by simp,?_⟩
     intro a ha b hb e
     simp at hb
     subst hb
     obtain ⟨x,hx,rfl⟩:=List.mem_map.1 ha
     have:=hb2 x hx
     omega
    ·intro e he
     simp only [Array.toList_push,List.mem_append,List.mem_singleton] at he
     rcases he with he | rfl
     ·have:=hb2 e he;omega
     ·simp
 | some p=>
   obtain ⟨j,v0⟩:=p
   have hk:k∈ks:=by
    apply Classical.byContradiction
    intro hc
    rw [(zZ9 (v:=fun _=>.bool true) 0).2 hc] at hf
    simp at hf
   obtain ⟨_,hj,hjv⟩:=zB9 hf
   simp only [Nat.sub_zero,List.getElem_map,Prod.mk.injEq,List.length_map] at hj hjv
   have hjes:j<es.size:=by omega
   have hkey:es[j].key=kI k/\es[j].val=.bool true:=by
    have hh:=congrArg (fun l:List (Value×Value)=>l[j]?) h2
    simp only [List.getElem?_map,Array.getElem?_toList,Array.getElem?_eq_getElem hjes,Zi hj,hjv.1] at hh
    simpa using hh
   have hid:(es.modify j fun e=>{ e with key:=kI k,val:=.bool true })=es:=by
    apply Array.ext_getElem?
    intro n
    rw [Array.getElem?_modify]
    split
    ·rename_i e
     subst e
     rw [Array.getElem?_eq_getElem hjes]
     simp only [Option.map_some]
     rw [<- hkey.1,<- hkey.2]
    ·rfl
   refine ⟨{ w with heap:=w.heap.setIfInBounds r (.map (es.modify j fun e=>{ e with key:=kI k,val:=.bool true }) clock) },?_,?_,hg _,by simp⟩
   ·unfold Instr.mapUpdate
    simp only [Sem.run_bind,qVy hT,Result.andThen_ok,getObj,Sem.run,h1,L.check,qXo L k es.toList _ h2',hf,setObj,Array.getElem?_eq_getElem hjes,Option.map_some,Option.getD_some,hkey.1,Instr.keyThatStays,L.same,if_true,Sem.run_pure,Result.andThen_ok]
   ·rw [hid]
    refine ⟨es,clock,hset _,?_,?_,hb1,hb2⟩
    ·unfold addK;rw [if_pos hk];exact h2
    ·unfold addK;rw [if_pos hk];exact hn
theorem qJw {P:Program} {w:World} {ops:Array Oper} {rest:List Oper} {o:Oper} {a:Act} {Q:Exit->Act->World->Prop} (hg:o.guard=none)
 {T:TypeId} {x k v:Operand} (ho:o.op=.insert T x k v∨o.op=.mapUpdate T x k v) {K E:TypeId} (hT:P.underlying T=some (.map K E)) (L:KeyLaw P K kI)
 {r:Nat} {ks:List Int} (h:qJ0 w r ks) (key:Int) (hx:a.eval x=.map (some r)) (hk:a.eval k=kI key) (hv:a.eval v=.bool true)
 (hc:∀ w',qJ0 w' r (addK ks key)->w.grownBy w' (some r)->w'.heap.size=w.heap.size->wpList P ops Q rest (a.put o.dst undef) w'):wpList P ops Q (o::rest) a w:=by
 refine wpList_plain hg fun K hK=>?_
 obtain ⟨w',h1,h2,h3,h4⟩:=zZ8 hT L h key
 unfold Oper.wp execOp
 rcases ho with ho | ho <;>
 ·simp only [ho,Sem.run_bind,hx,hk,hv,h1,Result.andThen_ok]
  exact hK _ _ (hc w' h2 h3 h4)
theorem zQr {P:Program} {w:World} {ops:Array Oper} {rest:List Oper} {o:Oper} {a:Act} {Q:Exit->Act->World->Prop} (hg:o.guard=none)
 {T:TypeId} {x k:Operand} (ho:o.op=.lookup T x k false) {K E:TypeId} (hT:P.underlying T=some (.map K E)) (L:KeyLaw P K kI) {i:TypeInfo} (hi:P.info? E=some i) (hz:i.zero=some (.bool false))
 {r:Nat} {ks:List Int} (h:qJ0 w r ks) (key:Int) (hx:a.eval x=.map (some r)) (hk:a.eval k=kI key)
 (hc:wpList P ops Q rest (a.put o.dst (.bool (ks.contains key))) w):wpList P ops Q (o::rest) a w:=by
 refine zQj (ok:=false) hg ho hT L hi hz h.map key hx hk ?_
 have e:((if key∈ks then some (Value.bool true) else none).getD (.bool false))=.bool (ks.contains key):=by
  by_cases h:key∈ks <;> simp [h]
 simp only [Bool.false_eq_true,if_false]
 rw [e]
 exact hc
theorem qY5 {P:Program} {w:World} {ops:Array Oper} {rest:List Oper} {o:Oper} {a:Act} {Q:Exit->Act->World->Prop} (hg:Region.wanted o (yielded ops a.tmps)=true)
 {T:TypeId} {x k:Operand} (ho:o.op=.lookup T x k false) {K E:TypeId} (hT:P.underlying T=some (.map K E)) (L:KeyLaw P K kI) {i:TypeInfo} (hi:P.info? E=some i) (hz:i.zero=some (.bool false))
 {r:Nat} {ks:List Int} (h:qJ0 w r ks) (key:Int) (hx:a.eval x=.map (some r)) (hk:a.eval k=kI key)
 (hc:wpList P ops Q rest (a.put o.dst (.bool (ks.contains key))) w):wpList P ops Q (o::rest) a w:=by
 refine wpList_step fun K hK=>?_
 rw [if_pos hg]
 have h1:=qVa hT L hi hz h.map key false
 have e:((if key∈ks then some (Value.bool true) else none).getD (.bool false))=.bool (ks.contains key):=by
  by_cases h:key∈ks <;> simp [h]
 simp only [Bool.false_eq_true,if_false,e] at h1
 unfold Oper.wp execOp
 simp only [ho,Sem.run_bind,hx,hk,h1,Result.andThen_ok]
 exact hK _ _ hc
def qKh (w:World) (b r:Nat) (ks done:List Int):Prop:=
 ∃ (es:Array MapEntry) (clock since:Nat) (seen:Array Nat) (c0:Nat),w.heap[b]?=some (.map es clock)/\es.toList.map (fun e=>(e.key,e.val))=ks.map (fun k=>(kI k,.bool true))/\ks.Nodup/\(es.toList.map (·.born)).Nodup /\
  w.heap[r]?=some (.mapIter (some b) since seen c0)/\since<=c0/\since<=clock/\(∀ e∈es.toList,e.born<since)/\done.Nodup/\(∀ e∈es.toList,∀ k,e.key=kI k->(k∈done↔seen.contains e.born=true))/\∀ k∈done,k∈ks
theorem qKh.lt {w:World} {b r:Nat} {ks done:List Int} (h:qKh w b r ks done):b<w.heap.size/\r<w.heap.size/\b≠r:=by
 obtain ⟨es,clock,since,seen,c0,h1,_,_,_,h2,_⟩:=h
 refine ⟨(Array.getElem?_eq_some_iff.1 h1).1,(Array.getElem?_eq_some_iff.1 h2).1,fun e=>?_⟩
 subst e
 rw [h1] at h2
 simp at h2
theorem qKh.agree {w w':World} {b r:Nat} {ks done:List Int} (h:qKh w b r ks done) (h1:w'.heap[b]?=w.heap[b]?) (h2:w'.heap[r]?=w.heap[r]?):qKh w' b r ks done:=by
 obtain ⟨es,clock,since,seen,c0,a1,a2,a3,a4,a5,a6⟩:=h
 exact ⟨es,clock,since,seen,c0,h1.trans a1,a2,a3,a4,h2.trans a5,a6⟩
theorem qJ0.range {P:Program} {T K E:TypeId} (hT:P.underlying T=some (.map K E)) {w:World} {b:Nat} {ks:List Int} (h:qJ0 w b ks) :
 ∃ w',(Instr.range T (.map (some b))).run P w=.ok (.pointer (some ⟨w.heap.size,0,none⟩)) w'/\qKh w' b w.heap.size ks []/\w.grownBy w' none/\w'.heap.size=w.heap.size+1:=by
 have hlt:=h.lt
 obtain ⟨es,clock,h1,h2,h3,h4,h5⟩:=h
 refine ⟨_,run_range_map w T K E b es clock hT h1,⟨es,clock,clock,#[],clock,(heap_alloc_old w _ hlt).trans h1,h2,h3,h4,heap_alloc_new w _,Zb _,Zb _,h5,List.nodup_nil,?_,by simp⟩,World.grownBy_alloc w _ none,by simp⟩
 intro e _ k _
 simp
theorem zH3 {es:Array MapEntry} {ks:List Int} (h2:es.toList.map (fun e=>(e.key,e.val))=ks.map (fun k=>(kI k,.bool true))) {e:MapEntry} (he:e∈es.toList):∃ k∈ks,e.key=kI k/\e.val=.bool true:=by
 have:(e.key,e.val)∈ks.map (fun k=>(kI k,Value.bool true)):=by rw [<- h2];exact List.mem_map.2 ⟨e,he,rfl⟩
 obtain ⟨k,hk,e2⟩:=List.mem_map.1 this
 simp only [Prod.mk.injEq] at e2
 exact ⟨k,hk,e2.1.symm,e2.2.symm⟩
theorem zHs {es:Array MapEntry} {ks:List Int} (h2:es.toList.map (fun e=>(e.key,e.val))=ks.map (fun k=>(kI k,.bool true))) {k:Int} (hk:k∈ks):∃ e∈es.toList,e.key=kI k:=by
 have:(kI k,Value.bool true)∈es.toList.map (fun e=>(e.key,e.val)):=by rw [h2];exact List.mem_map.2 ⟨k,hk,rfl⟩
 obtain ⟨e,he,e2⟩:=List.mem_map.1 this
 simp only [Prod.mk.injEq] at e2
 exact ⟨e,he,e2.1⟩
theorem kI_inj {a b:Int} (h:kI a=kI b):a=b:=by
 unfold kI at h
 injection h
theorem zBk {es:Array MapEntry} {ks:List Int} (h2:es.toList.map (fun e=>(e.key,e.val))=ks.map (fun k=>(kI k,.bool true))) (hn:ks.Nodup) {e e':MapEntry} (he:e∈es.toList) (he':e'∈es.toList) (h:e.key=e'.key):e=e':=by
 obtain ⟨i,hi,rfl⟩:=List.getElem_of_mem he
 obtain ⟨j,hj,rfl⟩:=List.getElem_of_mem he'
 have hlen:es.toList.length=ks.length:=by have:=congrArg List.length h2;simpa using this
 have key:∀ i (hi:i<es.toList.length),(es.toList[i]).key=kI (ks[i]'(by omega)):=fun i hi=>by
  have hh:=congrArg (fun l:List (Value×Value)=>l[i]?) h2
  simp only [List.getElem?_map,Zi hi,Zi (show i<ks.length by omega)] at hh
  simp at hh
  exact hh.1
 rw [key i hi,key j hj] at h
 have:=(List.getElem_inj (h₀:=by omega) (h₁:=by omega) hn).1 (kI_inj h)
 subst this
 rfl
theorem qKh.next {P:Program} {w:World} {b r:Nat} {ks done:List Int} (h:qKh w b r ks done) (ty:TypeId) :
 (done.Perm ks/\(Instr.next (.pointer (some ⟨r,0,none⟩)) false ty).run P w=.ok (.tuple #[.bool false]) w) ∨
 ∃ k w',k∈ks/\k∉done/\(Instr.next (.pointer (some ⟨r,0,none⟩)) false ty).run P w=.ok (.tuple #[.bool true,.int .i64 k,.bool true]) w'/\qKh w' b r ks (done++[k])/\w.grownBy w' (some r)/\w'.heap.size=w.heap.size /\
  (Instr.entry (.pointer (some ⟨r,0,none⟩))).run P w'=.ok (.tuple #[.int .i64 k,.bool true]) w':=by
 have hlts:=h.lt
 obtain ⟨es,clock,since,seen,c0,h1,h2,h3,h4,h5,h6,h7,h8,h9,h10,h11⟩:=h
 rcases run_next_at (P:=P) w ty r b since c0 seen es clock h5 h1 h8 h6 with ⟨h0,hrun⟩ | ⟨e,he,w1,hal,hrun⟩
 ·left
  refine ⟨?_,hrun⟩
  refine (List.perm_ext_iff_of_nodup h9 h3).2 (fun k=>⟨h11 k,fun hk=>?_⟩)
  obtain ⟨e,he,hek⟩:=zHs h2 hk
  exact (h10 e he k hek).2 (by
   cases hc:seen.contains e.born with
 | true=>rfl
 | false=>
    have hm:e∈leftOf es seen:=by unfold leftOf;rw [Array.mem_filter];exact ⟨Array.mem_toList_iff.1 he,by rw [hc];rfl⟩
    have:leftOf es seen = #[]:=Array.eq_empty_of_size_eq_zero h0
    rw [this] at hm
    simp at hm)
 ·right
  obtain ⟨hem,hes⟩:=mem_left he
  obtain ⟨k,hk,hkey,hval⟩:=zH3 h2 hem
  have hr1:w1.heap[r]?=some (.mapIter (some b) since seen c0):=by rcases hal with rfl | rfl <;> exact h5
  have hb1:w1.heap[b]?=some (.map es clock):=by rcases hal with rfl | rfl <;> exact h1
  have hset:=MapKept.heap_set (o':=.mapIter (some b) since (seen.push e.born) clock) hr1
  have hb':(setBlock w1 r (.mapIter (some b) since (seen.push e.born) clock)).heap[b]?=some (.map es clock):=(hset.2 b hlts.2.2).trans hb1
  have hkd:k∉done:=fun hc=>by
   have:=(h10 e hem k hkey).1 hc
   rw [hes] at this
   simp at this
  refine ⟨k,_,hk,hkd,by rw [hrun,hkey,hval];rfl,⟨es,clock,since,seen.push e.born,clock,hb',h2,h3,h4,hset.1,h7,h7,h8,?_,?_,?_⟩,?_,?_,?_⟩
  ·rw [List.nodup_append]
   refine ⟨h9,by simp,?_⟩
   intro a ha c hc e2
   simp at hc
   subst hc
   exact hkd (e2▸ha)
  ·intro e' he' k' hk'
   rw [contains_push,List.mem_append,List.mem_singleton,h10 e' he' k' hk',Bool.or_eq_true]
   refine or_congr Iff.rfl ?_
   constructor
   ·rintro rfl
    have:=zBk h2 h3 he' hem (hk'.trans hkey.symm)
    subst this
    simp
   ·intro hb
    simp at hb
    have:=born_inj h4 he' hem hb
    subst this
    exact kI_inj (hk'.symm.trans hkey)
  ·intro k' hk'
   rcases List.mem_append.1 hk' with hk' | hk'
   ·exact h11 k' hk'
   ·simp at hk';subst hk';exact hk
  ·rcases hal with rfl | rfl <;> exact ⟨rfl,rfl,rfl,by simp [setBlock],fun i _ hi=>hset.2 i (fun e1=>hi (by rw [e1]))⟩
  ·rcases hal with rfl | rfl <;> simp [setBlock]
  ·have:=run_entry_at (P:=P) _ r b since seen es clock e hset.1 hb' hem h4
   rw [this,hkey,hval]
   rfl
section
variable {P:Program} {w:World} {ops:Array Oper} {rest:List Oper} {o:Oper} {a:Act} {Q:Exit->Act->World->Prop}
theorem zKs (hg:o.guard=none) {T:TypeId} {m:Operand} (hop:o.op=.range T m) {K E:TypeId} (hT:P.underlying T=some (.map K E)) {b:Nat} {ks:List Int} (hm:a.eval m=.map (some b)) (h:qJ0 w b ks)
 (hK:∀ w',qKh w' b w.heap.size ks []->w.grownBy w' none->w'.heap.size=w.heap.size+1->wpList P ops Q rest (a.put o.dst (.pointer (some ⟨w.heap.size,0,none⟩))) w'):wpList P ops Q (o::rest) a w:=by
 refine wpList_plain hg fun K' hK'=>?_
 obtain ⟨w',hrun,r1,r2,r3⟩:=h.range (P:=P) hT
 unfold Oper.wp
 simp [execOp,hop,hm,hrun,Result.andThen]
 exact hK' _ _ (hK w' r1 r2 r3)
theorem zYi (hg:o.guard=none) {it:Operand} (hop:o.op=.next it false) {b r:Nat} {ks done:List Int} (hit:a.eval it=.pointer (some ⟨r,0,none⟩)) (h:qKh w b r ks done)
 (hDone:done.Perm ks->wpList P ops Q rest (a.put o.dst (.tuple #[.bool false])) w)
 (hMore:∀ (k:Int) (w':World),k∈ks->k∉done->qKh w' b r ks (done++[k])->w.grownBy w' (some r)->w'.heap.size=w.heap.size ->
  (Instr.entry (.pointer (some ⟨r,0,none⟩))).run P w'=.ok (.tuple #[.int .i64 k,.bool true]) w'->wpList P ops Q rest (a.put o.dst (.tuple #[.bool true,.int .i64 k,.bool true])) w'):wpList P ops Q (o::rest) a w:=by
 refine wpList_plain hg fun K' hK'=>?_
 unfold Oper.wp
 rcases h.next (P:=P) o.type with ⟨hp,hrun⟩ | ⟨k,w',hk,hkd,hrun,hI,hgr,hsz,hen⟩
 ·simp [execOp,hop,hit,hrun,Result.andThen]
  exact hK' _ _ (hDone hp)
 ·simp [execOp,hop,hit,hrun,Result.andThen]
  exact hK' _ _ (hMore k w' hk hkd hI hgr hsz hen)
end
end Go.Proofs.YtklbmkaomojciaaGreat
namespace Go.Proofs.YtklbmkaomojciaaGreat
open Go.RowKit
structure Nmd (h u:Nat) (w w':World):Prop where
 os:w'.os=w.os
 tape:w'.tape=w.tape
 output:w'.output=w.output
 size:w.heap.size<=w'.heap.size
 block:∀ b,b<w.heap.size->b≠h->b≠u->w'.heap[b]?=w.heap[b]?
section
variable {h u:Nat} {a b c:World}
theorem Nmd.refl (w:World):Nmd h u w w:=⟨rfl,rfl,rfl,Zb _,fun _ _ _ _=>rfl⟩
theorem Nmd.trans (x:Nmd h u a b) (y:Nmd h u b c):Nmd h u a c:=
 ⟨y.os.trans x.os,y.tape.trans x.tape,y.output.trans x.output,Za x.size y.size,fun k hk h1 h2=>(y.block k (Zc hk x.size) h1 h2).trans (x.block k hk h1 h2)⟩
theorem Nmd.bel (x:Bel a b):Nmd h u a b:=⟨x.os,x.tape,x.output,x.size,fun k hk _ _=>x.block k hk⟩
theorem Nmd.had (x:a.grownBy b (some h)):Nmd h u a b:=⟨x.os,x.tape,x.output,x.size,fun k hk h1 _=>x.block k hk (fun e=>h1 (Option.some.inj e))⟩
theorem Nmd.use (x:a.grownBy b (some u)):Nmd h u a b:=⟨x.os,x.tape,x.output,x.size,fun k hk _ h2=>x.block k hk (fun e=>h2 (Option.some.inj e))⟩
theorem Nmd.below (x:Nmd h u a b) {n:Nat} (h1:n<=h) (h2:n<=u) (hn:n<=a.heap.size):Below n a b:=⟨x.os,x.tape,x.output,x.size,fun k hk=>x.block k (by omega) (by omega) (by omega)⟩
theorem Nmd.new (x:Nmd h u a b) (h1:a.heap.size<=h) (h2:a.heap.size<=u):Bel a b:=x.below h1 h2 (Zb _)
theorem Nmd.own (x:Nmd h u a b) {α:Type} {sz:Nat} {rd:World->List Value->α->Prop} {e:TypeId} {base:Nat} {v:Value} {l:List α} (o:qQb sz rd base e a v l) (st:qBk rd) (h1:h<base) (h2:u<base):qQb sz rd base e b v l:=
 o.agree (fun k hk=>x.block k (o.lt k hk).2 (by have:=(o.lt k hk).1;omega) (by have:=(o.lt k hk).1;omega)) (fun _ _ _ hr=>st _ _ _ _ hr)
end
def qHu (d:Dc) (s:St):Prop:=∀ x,s.asked x=true->isM d x false=true/\(0<=upR d x->s.asked (upR d x)=true)
theorem zJe {d:Dc} (g:Good d) {x y:Int}:y∈ups d x↔On (upR d) x y:=by
 obtain ⟨μ,h1,h2⟩:=qWk g
 have hl:=g.len
 exact zJ2 ⟨fun n _ hn=>h2 n hn⟩ 100 x y (by have:=h1 x;omega)
theorem on_is {d:Dc} (g:Good d) {n y:Int} (h:On (upR d) n y) (hn:isM d n false=true):isM d y false=true:=by
 induction h with
 | here _=>exact hn
 | @step a b _ h2 ih=>
   refine ih ?_
   obtain ⟨r,gr⟩:=g.tree
   have h3:=h2.ge
   have:0<=upR d a:=by cases h2 <;> assumption
   rw [qGa gr] at this ⊢
   rcases zQn gr a with h | h
   ·omega
   ·exact (qWu gr ((qJq gr).2 ⟨h,rfl⟩)).1
theorem On.up {up:Int->Int} {n y:Int} (h:On up n y) (hy:0<=up y):On up n (up y):=by
 induction h with
 | here h0=>exact .step h0 (.here hy)
 | step h0 _ ih=>exact .step h0 (ih hy)
theorem qHu.mark {d:Dc} (g:Good d) {s:St} (k:qHu d s) {n:Int} (hn:isM d n false=true):qHu d (markM d n s):=by
 intro x hx
 simp only [markM,Bool.or_eq_true,List.contains_iff_mem] at hx ⊢
 rcases hx with hx | hx
 ·exact ⟨(k x hx).1,fun h0=>.inl ((k x hx).2 h0)⟩
 ·have ho:=(zJe g).1 hx
  exact ⟨on_is g ho hn,fun h0=>.inr ((zJe g).2 (ho.up h0))⟩
theorem qHu.hit {d:Dc} {s:St} (k:qHu d s) (n:Int):qHu d (hitM n s):=k
structure NmM (m g h u:Nat) (dv cv:Value) (X:List Value) (e:TypeId) (d:Dc) (C:List Clm) (w:World) (s:St):Prop where
 doc:qZb m w dv d
 clm:qQa 2 qVh (·<m) w cv C
 blk:Blk w g (dv::cv::.map (some h)::.map (some u)::X) e
 had:∃ ks,qJ0 w h ks/\∀ x,s.had x=ks.contains x
 use:∃ ks,qJ0 w u ks/\∀ x,s.asked x=ks.contains x
 ne:h≠u
 lo:m<=g/\m<=h/\m<=u
section
variable {m g h u:Nat} {dv cv:Value} {X:List Value} {e:TypeId} {d:Dc} {C:List Clm} {w w':World} {s s':St}
theorem NmM.lts (k:NmM m g h u dv cv X e d C w s):g<w.heap.size/\h<w.heap.size/\u<w.heap.size/\m<=w.heap.size:=by
 obtain ⟨_,h1,_⟩:=k.had
 obtain ⟨_,h2,_⟩:=k.use
 have:=k.blk.lt
 have:=k.lo
 exact ⟨k.blk.lt,h1.lt,h2.lt,by omega⟩
theorem NmM.nes (k:NmM m g h u dv cv X e d C w s):g≠h/\g≠u:=by
 obtain ⟨_,h1,_⟩:=k.had
 obtain ⟨_,h2,_⟩:=k.use
 exact ⟨h1.ne k.blk,h2.ne k.blk⟩
theorem NmM.c0 (k:NmM m g h u dv cv X e d C w s):w.cell? ⟨g,0,none⟩=some dv:=k.blk.cell 0
theorem NmM.c1 (k:NmM m g h u dv cv X e d C w s):w.cell? ⟨g,1,none⟩=some cv:=k.blk.cell 1
theorem NmM.c2 (k:NmM m g h u dv cv X e d C w s):w.cell? ⟨g,2,none⟩=some (.map (some h)):=k.blk.cell 2
theorem NmM.c3 (k:NmM m g h u dv cv X e d C w s):w.cell? ⟨g,3,none⟩=some (.map (some u)):=k.blk.cell 3
theorem NmM.bel (k:NmM m g h u dv cv X e d C w s) (b:Bel w w'):NmM m g h u dv cv X e d C w' s:=by
 obtain ⟨l1,l2,l3,l4⟩:=k.lts
 refine ⟨k.doc.later b l4,k.clm.later qZh b l4,k.blk.bel b,?_,?_,k.ne,k.lo⟩
 ·obtain ⟨ks,h1,h2⟩:=k.had
  exact ⟨ks,h1.agree (b.block h l2),h2⟩
 ·obtain ⟨ks,h1,h2⟩:=k.use
  exact ⟨ks,h1.agree (b.block u l3),h2⟩
theorem NmM.congr (k:NmM m g h u dv cv X e d C w s) (h1:∀ x,s'.had x=s.had x) (h2:∀ x,s'.asked x=s.asked x):NmM m g h u dv cv X e d C w s':=
 ⟨k.doc,k.clm,k.blk,by obtain ⟨ks,a,b⟩:=k.had;exact ⟨ks,a,fun x=>(h1 x).trans (b x)⟩,by obtain ⟨ks,a,b⟩:=k.use;exact ⟨ks,a,fun x=>(h2 x).trans (b x)⟩,k.ne,k.lo⟩
theorem qBp {ks:List Int} {n x:Int}:(addK ks n).contains x=(ks.contains x||x==n):=by
 rw [Bool.eq_iff_iff]
 simp only [List.contains_iff_mem,mem_addK,Bool.or_eq_true,beq_iff_eq]
theorem NmM.hit (k:NmM m g h u dv cv X e d C w s) {ks:List Int} (hks:∀ x,s.had x=ks.contains x) {n:Int} (hs:qJ0 w' h (addK ks n)) (hg:w.grownBy w' (some h)):NmM m g h u dv cv X e d C w' (hitM n s):=by
 obtain ⟨l1,l2,l3,l4⟩:=k.lts
 obtain ⟨n1,n2⟩:=k.nes
 have hb:=(Nmd.had hg:Nmd h u w w').below k.lo.2.1 k.lo.2.2 l4
 refine ⟨k.doc.later hb (Zb _),k.clm.later qZh hb (Zb _),k.blk.of (hg.block g l1 (fun e=>n1 (Option.some.inj e))),⟨_,hs,fun x=>?_⟩,?_,k.ne,k.lo⟩
 ·rw [qBp,<- hks];rfl
 ·obtain ⟨ks,h1,h2⟩:=k.use
  exact ⟨ks,h1.agree (hg.block u l3 (fun e=>k.ne (Option.some.inj e).symm)),h2⟩
theorem NmM.ask (k:NmM m g h u dv cv X e d C w s) {ks:List Int} (hks:∀ x,s.asked x=ks.contains x) {n:Int} (hs:qJ0 w' u (addK ks n)) (hg:w.grownBy w' (some u)):NmM m g h u dv cv X e d C w' { s with asked:=fun x=>s.asked x||x==n }:=by
 obtain ⟨l1,l2,l3,l4⟩:=k.lts
 obtain ⟨n1,n2⟩:=k.nes
 have hb:=(Nmd.use hg:Nmd h u w w').below k.lo.2.1 k.lo.2.2 l4
 refine ⟨k.doc.later hb (Zb _),k.clm.later qZh hb (Zb _),k.blk.of (hg.block g l1 (fun e=>n2 (Option.some.inj e))),?_,⟨_,hs,fun x=>?_⟩,k.ne,k.lo⟩
 ·obtain ⟨ks,h1,h2⟩:=k.had
  exact ⟨ks,h1.agree (hg.block h l2 (fun e=>k.ne (Option.some.inj e))),h2⟩
 ·rw [qBp,<- hks]
end
theorem Nmd.grown {h u:Nat} {a b c:World} (x:Nmd h u a b) {row:Option Nat} (g:b.grownBy c row) (hr:∀ k,row=some k->a.heap.size<=k):Nmd h u a c:=
 ⟨g.os.trans x.os,g.tape.trans x.tape,g.output.trans x.output,Za x.size g.size,fun k hk h1 h2=>(g.block k (Zc hk x.size) (fun e=>by have:=hr k e.symm;omega)).trans (x.block k hk h1 h2)⟩
theorem Nmd.alloc {h u:Nat} {a b:World} (x:Nmd h u a b) (o:Obj):Nmd h u a (b.alloc o):=x.trans (Nmd.bel ((Br b).alloc o))
theorem Nmd.row {h u:Nat} {a b:World} (x:Nmd h u a b) {α:Type} {sz:Nat} {rd:World->List Value->α->Prop} {B:Nat->Prop} {v:Value} {l:List α} (r:qQa sz rd B a v l) (st:qBk rd) (hB:∀ k,B k->k<a.heap.size/\k≠h/\k≠u):qQa sz rd B b v l:=
 r.agree (fun k hk=>x.block k (hB k hk).1 (hB k hk).2.1 (hB k hk).2.2) (fun _ _ _ hr=>st _ _ _ _ hr)
section
variable {m g h u:Nat} {dv cv:Value} {X:List Value} {e:TypeId} {d:Dc} {C:List Clm} {w w':World} {s:St}
theorem NmM.grown (k:NmM m g h u dv cv X e d C w s) {B:Nat} {row:Option Nat} (gr:w.grownBy w' row) (hr:∀ b,row=some b->B<=b) (hB:g<B/\h<B/\u<B):NmM m g h u dv cv X e d C w' s:=by
 obtain ⟨l1,l2,l3,l4⟩:=k.lts
 obtain ⟨lo1,lo2,lo3⟩:=k.lo
 have hne:∀ b,b<B->some b≠row:=fun b hb e=>by have:=hr b e.symm;omega
 have hbm:Below m w w':=⟨gr.os,gr.tape,gr.output,gr.size,fun b hb=>gr.block b (by omega) (hne b (by omega))⟩
 refine ⟨k.doc.later hbm (Zb _),k.clm.later qZh hbm (Zb _),k.blk.of (gr.block g l1 (hne g hB.1)),?_,?_,k.ne,k.lo⟩
 ·obtain ⟨ks,h1,h2⟩:=k.had
  exact ⟨ks,h1.agree (gr.block h l2 (hne h hB.2.1)),h2⟩
 ·obtain ⟨ks,h1,h2⟩:=k.use
  exact ⟨ks,h1.agree (gr.block u l3 (hne u hB.2.2)),h2⟩
end
structure NmAt (m g h u:Nat) (dv cv:Value) (X:List Value) (e:TypeId) (d:Dc) (C:List Clm) (w:World) (s:St):Prop where
 mem:NmM m g h u dv cv X e d C w s
 ok:qHu d s
def Rm (W:World) (h u:Nat) (v:Value) (R:World->Prop):Ending->World->Prop:=fun e w'=>e=.returned v/\Nmd h u W w'/\R w'
structure Mark (d:Dc) (n:Int) (s:St) (x:Int) (s':St):Prop where
 had:∀ y,s'.had y=s.had y
 asked:∀ y,(s'.asked y=true∨On (upR d) x y)↔(s.asked y=true∨On (upR d) n y)
 ok:∀ y,s'.asked y=true->isM d y false=true/\(0<=upR d y->s'.asked (upR d y)=true∨upR d y=x)
 at_:0<=x->isM d x false=true
section
variable {d:Dc} {n x:Int} {s s':St}
theorem Mark.start (k:qHu d s) (hn:isM d n false=true):Mark d n s n s:=⟨fun _=>rfl,fun _=>Iff.rfl,fun y hy=>⟨(k y hy).1,fun h0=>.inl ((k y hy).2 h0)⟩,fun _=>hn⟩
theorem Mark.step (g:Good d) (k:Mark d n s x s') (hx:0<=x):Mark d n s (upR d x) { s' with asked:=fun y=>s'.asked y||y==x }:=by
 refine ⟨k.had,fun y=>?_,fun y hy=>?_,fun h0=>?_⟩
 ·rw [<- k.asked y]
  simp only [Bool.or_eq_true,beq_iff_eq]
  constructor
  ·rintro ((h | rfl) | h)
   ·exact .inl h
   ·exact .inr (.here hx)
   ·exact .inr (.step hx h)
  ·rintro (h | h)
   ·exact .inl (.inl h)
   ·cases h with
    | here _=>exact .inl (.inr rfl)
    | step _ h=>exact .inr h
 ·simp only [Bool.or_eq_true,beq_iff_eq] at hy ⊢
  rcases hy with hy | rfl
  ·refine ⟨(k.ok y hy).1,fun h0=>.inl ?_⟩
   rcases (k.ok y hy).2 h0 with h | h
   ·exact .inl h
   ·exact .inr h
  ·exact ⟨k.at_ hx,fun _=>.inr rfl⟩
 ·exact on_is g (.step hx (.here h0)) (k.at_ hx)
theorem Mark.done (g:Good d) (k:Mark d n s x s') (h:x<0∨s'.asked x=true):∀ y,(markM d n s).asked y=s'.asked y:=by
 have hon:∀ y,On (upR d) x y->s'.asked y=true:=by
  rcases h with h | h
  ·intro y hy;have:=hy.ge;cases hy <;> omega
  ·intro y hy
   have hcl:∀ z,s'.asked z=true->0<=upR d z->s'.asked (upR d z)=true:=fun z hz h0=>by
    rcases (k.ok z hz).2 h0 with h1 | h1
    ·exact h1
    ·rw [h1];exact h
   clear k
   induction hy with
   | here _=>exact h
   | @step a b _ h2 ih=>exact ih (hcl a h (by cases h2 <;> assumption))
 intro y
 rw [Bool.eq_iff_iff]
 simp only [markM,Bool.or_eq_true,List.contains_iff_mem,zJe g]
 rw [<- k.asked y]
 constructor
 ·rintro (h1 | h1)
  ·exact h1
  ·exact hon y h1
 ·intro h1;exact .inl h1
end
theorem qW4 {one:Int->St->Txt×St} {K:List Int} {s:St} {j:Nat} (hj:j<K.length):eachF one (K.take (j+1)) s =
 if 0<=K[j]/\(eachF one (K.take j) s).2.had K[j]=false then ((eachF one (K.take j) s).1++[(one K[j] (eachF one (K.take j) s).2).1],(one K[j] (eachF one (K.take j) s).2).2) else eachF one (K.take j) s:=by
 have key:∀ (L:List Int) (k:Int) (s:St),eachF one (L++[k]) s=if 0<=k/\(eachF one L s).2.had k=false then ((eachF one L s).1++[(one k (eachF one L s).2).1],(one k (eachF one L s).2).2) else eachF one L s:=by
  intro L
  induction L with
  | nil=>
    intro k s
    by_cases h:0<=k/\s.had k=false
    ·simp only [List.nil_append,eachF,if_pos h]
     exact (if_pos h).symm
    ·simp only [List.nil_append,eachF,if_neg h]
     exact (if_neg h).symm
  | cons x L ih=>
    intro k s
    rw [List.cons_append]
    unfold eachF
    split
    ·rw [ih]
     split <;> rfl
    ·exact ih k s
 rw [Zk hj]
 exact key _ _ _
theorem qQy:Tryz.prog.underlying 59=some (.map 3 4):=by kernel_rfl
theorem qYs:Tryz.prog.underlying 3=some (.int .i64):=by kernel_rfl
theorem zWk:(Tryz.prog.info? 4).map (fun i=>(i.zero,i.size,i.bytes))=some (some (.bool false),1,1):=by kernel_rfl
theorem qBw:∃ i,Tryz.prog.info? 4=some i/\i.zero=some (.bool false):=by
 obtain ⟨i,h1,h2,_,_⟩:=info_parts zWk
 exact ⟨i,h1,h2⟩
def zKu (μ:Int->Nat) (x:Int):Nat:=if x<0 then 0 else μ x+1
theorem qFr {μ:Int->Nat} {x y:Int} (hx:0<=x) (h:0<=y->μ y<μ x):zKu μ y<zKu μ x:=by
 unfold zKu
 rw [if_neg (by omega:¬ x<0)]
 by_cases h0:y<0
 ·rw [if_pos h0];omega
 ·rw [if_neg h0];have:=h (by omega);omega
theorem qV5 {m g h u:Nat} {dv cv:Value} {X:List Value} {e:TypeId} {d:Dc} {C:List Clm} {W:World} {s:St} (gd:Good d) (k:NmM m g h u dv cv X e d C W s) (ok:qHu d s) {n:Int} (hn:isM d n false=true) :
 Calls Tryz.prog 57 #[.pointer (some ⟨g,0,none⟩),.int .i64 n] W (Rm W h u (.tuple #[]) (fun w'=>NmM m g h u dv cv X e d C w' (markM d n s))):=by
 obtain ⟨ib,hib,hzb⟩:=qBw
 obtain ⟨μ,hμ1,hμ2⟩:=qWk gd
 have HM:=lH hμ2
 have HG:=lH gd
 have HK:=lH k
 have HS:=lH (Mark.start ok hn)
 have cU:Hi (∀ w' s',NmM m g h u dv cv X e d C w' s'->∀ x,Calls Tryz.prog 97 #[dv,.int .i64 x] w' (Rb (.int .i64 (upR d x)) w')):=lH (fun w' s' hk x=>qYf m dv d x w' hk.doc hk.lts.2.2.2 gd)
 have kI0:=zQ0 qYs
 clear hμ1 hμ2 k ok hn
 go_enter Tryz.func57,Tryz.ntmps57
 go_wp2
 go_loopw [1] (fun z wr=>∃ (x:Int) (s':St),z=.int .i64 x/\Mark d n s x s'/\NmM m g h u dv cv X e d C wr s'/\Nmd h u W wr) (fun z _=>zKu μ (intOf z))
 case atStart=>exact ⟨n,s,rfl,HS.o,HK.o,Nmd.refl _⟩
 case round=>
  obtain ⟨x,s',rfl,hM,hK,hD⟩:=hrel
  have HMk:=lH hM
  have HKr:=lH hK
  have HD:=lH hD
  have c0:=hK.c0
  have c3:=hK.c3
  obtain ⟨ks,hS,hks⟩:=hK.use
  have HSu:=lH hS
  have HKS:=lH hks
  clear hM hK hD hS hks
  by_cases hx:0<=x
  ·cases hc:ks.contains x with
   | true=>
     go_wp2_with (with_reducible refine qY5 rfl rfl qQy kI0 hib hzb HSu.o x rfl rfl ?_;rw [hc])
     go_end0
     exact ⟨rfl,HD.o,HKr.o.congr (fun y=>(HMk.o.had y).symm) (HMk.o.done HG.o (.inr ((HKS.o x).trans hc)))⟩
   | false=>
     have HST:=lH (HMk.o.step HG.o hx)
     go_wp2_with (first
 | (with_reducible refine qY5 rfl rfl qQy kI0 hib hzb HSu.o x rfl rfl ?_;rw [hc])
 | (with_reducible refine qJw rfl (.inr rfl) qQy kI0 HSu.o x rfl rfl rfl ?_;intro w1 q1 g1 s1;have HK1:=lH (HKr.o.ask HKS.o q1 g1);have HD1:=lH (HD.o.trans (Nmd.use g1));have c0:=HK1.o.c0;have c3:=HK1.o.c3;clear q1 g1 s1)
 | (go_at_call 97;(with_reducible refine (cU.o _ _ HK1.o x).mono ?_);rintro e w2 ⟨rfl,b2⟩;have HK2:=lH (HK1.o.bel b2);have HD2:=lH (HD1.o.trans (Nmd.bel b2));have c0:=HK2.o.c0;have c3:=HK2.o.c3;clear b2))
     go_roundw
     case rel=>exact ⟨upR d x,_,rfl,HST.o,HK2.o,HD2.o⟩
     case measure=>
      exact qFr hx (HM.o x)
  ·have hx':x<0:=by omega
   go_wp2
   go_end0
   exact ⟨rfl,HD.o,HKr.o.congr (fun y=>(HMk.o.had y).symm) (HMk.o.done HG.o (.inl hx'))⟩
theorem qJe {m g h u:Nat} {dv cv:Value} {X:List Value} {e:TypeId} {d:Dc} {C:List Clm} {W:World} {s:St} (gd:Good d) (k:NmM m g h u dv cv X e d C W s) (n:Int) (name:Txt) :
 Calls Tryz.prog 62 #[.pointer (some ⟨g,0,none⟩),.int .i64 n,.string ⟨name.toArray⟩] W (Rb (.string ⟨(sq d n name).toArray⟩) W):=by
 have cA:=lH (qJh k.doc k.lts.2.2.2 n name)
 have cS:=lH (qKc (said d n name) (qJn gd _ _))
 have c0:=k.c0
 have HR:Hi (sq d n name=qQm (said d n name)):=lH rfl
 rw [HR.o]
 have HBW:=lH (Br W)
 clear k HR
 generalize qQm (said d n name)=SA at *
 generalize said d n name=A at *
 generalize hasA d n name=hh at *
 go_enter Tryz.func62,Tryz.ntmps62
 go_wp2_with (first
 | (go_at_call 76;refine qQe (cA.o _ HBW.o) HBW fun w2 HBW=>?_)
 | (go_at_call 81;refine qQe (cS.o _) HBW fun w3 HBW=>?_))
 go_ret
 exact ⟨rfl,HBW.o⟩
def OneAt (one:FuncId) (m g h u:Nat) (dv cv:Value) (X:List Value) (e:TypeId) (d:Dc) (C:List Clm) (F:Nat):Prop:=
 ∀ (k:Int) (li:Bool) (s':St) (W':World),NmAt m g h u dv cv X e d C W' s'->isM d k false=true->s'.had k=false->qZu d s'.had<=F ->
  Calls Tryz.prog one #[.pointer (some ⟨g,0,none⟩),.int .i64 k,.bool true,.bool li] W' (Rm W' h u (.string ⟨(qQt d C F k true li s').1.toArray⟩) (fun w'=>NmAt m g h u dv cv X e d C w' (qQt d C F k true li s').2))
theorem zK8 {d:Dc} (gd:Good d) {C:List Clm} (hC:∀ c∈C,isM d c.kid false=true) {F:Nat} {li:Bool} {K:List Int} (hK:∀ k∈K,k<0∨isM d k false=true) {s:St} (hF:qZu d s.had<=F) (j:Nat):DoesL d s (eachF (fun k s=>qQt d C F k true li s) (K.take j) s):=
 qDv _ _ (fun k hk=>hK k (List.mem_of_mem_take hk)) (fun k s' h1 h2 h3=>(zJx gd hC F k true li s' h1 h2 (by omega)).1)
theorem qG0 {d:Dc} {s:St} {r:List Txt×St} (h:DoesL d s r) (gd:Good d):wsum r.1<=3660/\r.1.length<=3660:=by
 have h1:=h.len
 have h2:=zZt d s.had
 have h3:=gd.len
 have h4:r.1.length<=(r.1.map (fun t=>t.length+1)).sum:=by
  clear h h1
  induction r.1 with
  | nil=>simp
  | cons x l ih=>simp only [List.map_cons,List.sum_cons,Zm];omega
 have e:wsum r.1=(r.1.map (fun t=>t.length+1)).sum:=rfl
 rw [e]
 omega
theorem jn_len (l:List Txt):(join l).length<=wsum l:=zYq l
theorem find_isM {d:Dc} (g:Good d) {n:Int} {id:Txt} (h:0<=findD d n id):isM d (findD d n id) false=true:=by
 rcases zZn g n id with h1 | h1
 ·omega
 ·exact h1
theorem qYg {m g h u:Nat} {dv cv:Value} {X:List Value} {e:TypeId} {d:Dc} {C:List Clm} {W:World} {s:St} (gd:Good d) (hC:∀ c∈C,isM d c.kid false=true) {F:Nat} (H1:OneAt 60 m g h u dv cv X e d C F)
 (k:NmAt m g h u dv cv X e d C W s) (hF:qZu d s.had<=F) (n:Int) (name:Txt) :
 Calls Tryz.prog 61 #[.pointer (some ⟨g,0,none⟩),.int .i64 n,.string ⟨name.toArray⟩] W
  (Rm W h u (.string ⟨(qYm d (fun k s=>qQt d C F k true true s) n name s).1.toArray⟩) (fun w'=>NmAt m g h u dv cv X e d C w' (qYm d (fun k s=>qQt d C F k true true s) n name s).2)):=by
 obtain ⟨ib,hib,hzb⟩:=qBw
 have kI0:=zQ0 qYs
 have HG:=lH gd
 have HK0:=lH k
 have H1:=lH H1
 have HF:=lH hF
 have hlts:=k.mem.lts
 have HLT:=lH hlts
 have hsl:=qJn gd n name
 have cA:=lH (qJh k.mem.doc hlts.2.2.2 n name)
 have cT:Hi (∀ W',Calls Tryz.prog 103 #[.string ⟨(said d n name).toArray⟩] W' (Rn W' fun w' v=>qQb 1 qB3 W'.heap.size 9 w' v (toks (said d n name)))):=lH (fun W'=>qYj _ W' (by omega))
 have htl:=qY9 (said d n name)
 have HL:Hi (qYm d (fun k s=>qQt d C F k true true s) n name s=(qQm (join (eachF (fun k s=>qQt d C F k true true s) ((toks (said d n name)).map (findD d n)) s).1),(eachF (fun k s=>qQt d C F k true true s) ((toks (said d n name)).map (findD d n)) s).2)):=lH rfl
 rw [HL.o]
 have cFi:Hi (∀ w' s',NmM m g h u dv cv X e d C w' s'->∀ id,Calls Tryz.prog 104 #[dv,.int .i64 n,.string ⟨id.toArray⟩] w' (Rb (.int .i64 (findD d n id)) w')):=lH (fun w' s' hk id=>qVe m dv d n id w' hk.doc hk.lts.2.2.2 gd)
 have HFO:Hi (∀ id,0<=findD d n id->isM d (findD d n id) false=true):=lH (fun id hk=>find_isM gd hk)
 have HDO:Hi (∀ j,DoesL d s (eachF (fun k s=>qQt d C F k true true s) (((toks (said d n name)).map (findD d n)).take j) s)):=lH (zK8 gd hC (fun k hk=>by obtain ⟨id,_,rfl⟩:=List.mem_map.1 hk;exact zZn gd n id) hF)
 have c0:=k.mem.c0
 have HBW:=lH (Br W)
 clear HL k hlts hF
 generalize toks (said d n name)=T at *
 generalize said d n name=sd at *
 generalize hasA d n name=hh at *
 go_enter Tryz.func61,Tryz.ntmps61
 go_wp2_with (first
 | (go_at_call 76;refine qQe (cA.o _ HBW.o) HBW fun w2 HBW2=>?_)
 | (go_at_call 103;refine (cT.o _).mono ?_;rintro e1 w3 ⟨b3,y3,rfl,o3⟩;have HT:=lH o3;have S3:=b3.size;have S2:=HBW2.o.size;have HBW3:=lH (Bt HBW2.o b3);obtain ⟨ta,tc,rfl,t1,t2⟩:=Rf o3.read;clear b3 o3))
 go_loopw [26,9] (fun z o wr=>∃ (j:Nat) (r:List Txt×St),j<=T.length/\z=.int .i64 j/\r=eachF (fun k s=>qQt d C F k true true s) ((T.map (findD d n)).take j) s/\qQb 1 qB3 w3.heap.size 9 wr o r.1/\NmAt m g h u dv cv X e d C wr r.2/\Nmd h u w3 wr) (fun z _ _=>T.length - (intOf z).toNat)
 case atStart=>exact ⟨0,([],s),by omega,rfl,rfl,qQb.nil _ _ _,⟨HK0.o.mem.bel HBW3.o,HK0.o.ok⟩,Nmd.refl _⟩
 case round=>
  obtain ⟨j,r,hj,rfl,hr,hO,hK,hD⟩:=hrel
  have HR:=lH hr
  have HO:=lH hO
  have HK:=lH hK
  have HD:=lH hD
  have hDo:=HDO.o j
  rw [<- hr] at hDo
  have hsm:=qG0 hDo HG.o
  have HFj:Hi (qZu d r.2.had<=F):=lH (Za hDo.free HF.o)
  have hTr:qQa 1 qB3 (fun b=>w2.heap.size<=b/\b<w3.heap.size) wr (.slice ta T.length tc) T:=hD.row (HT.o.row.mono (fun _ h=>⟨h.1,h.2.1⟩) (fun _ _ _ h=>h)) qXa (fun b hb=>by have:=HLT.o;omega)
  have c0:=hK.mem.c0
  have c2:=hK.mem.c2
  have SD:=hD.size
  obtain ⟨oa,oc,rfl,o1,o2⟩:=Rf hO.read
  obtain ⟨ks,hS,hks⟩:=hK.mem.had
  have HSh:=lH hS
  have HKS:=lH hks
  clear hr hO hK hD hDo hS hks
  by_cases hlt:j<T.length
  ·obtain ⟨_,_,_,_,e1,_,_,_,_⟩:=qQa.elem hTr j hlt
   simp at e1
   obtain ⟨rfl,rfl⟩:=e1
   have cw:=qQa.str_cell hTr j hlt
   have hst:=qW4 (one:=fun k s=>qQt d C F k true true s) (K:=T.map (findD d n)) (s:=s) (j:=j) (by simpa using hlt)
   rw [<- HR.o] at hst
   simp only [List.getElem_map] at hst
   have HST:=lH hst
   clear hst hTr
   generalize T[j]=id at *
   have cF1:=lH (cFi.o _ _ HK.o.mem id)
   have HIS:=lH (HFO.o id)
   generalize findD d n id=kk at *
   by_cases hk0:0<=kk
   ·cases hc:ks.contains kk with
    | true=>
      have HE:Hi (eachF (fun k s=>qQt d C F k true true s) ((T.map (findD d n)).take (j+1)) s=r):=lH (by rw [HST.o,if_neg];rw [HKS.o kk,hc];simp)
      go_wp2_with (first
 | (go_at_call 104;(with_reducible refine cF1.o.mono ?_);rintro e1 w4 ⟨rfl,b4⟩;have HK4:=lH (NmAt.mk (HK.o.mem.bel b4) HK.o.ok);have HD4:=lH (HD.o.trans (Nmd.bel b4));have HO4:=lH (HO.o.below b4 (Zb _) (fun _ _ _ h=>h));have c2:=HK4.o.mem.c2;have HSh4:=lH (HSh.o.agree (b4.block h HSh.o.lt));clear b4)
 | (with_reducible refine qY5 rfl rfl qQy kI0 hib hzb HSh4.o kk rfl rfl ?_;rw [hc]))
      go_roundw
      case rel=>exact ⟨j+1,r,by omega,by go_num,HE.o.symm,HO4.o,HK4.o,HD4.o⟩
      case measure=>simp [intOf];omega
    | false=>
      have hhad:r.2.had kk=false:=(HKS.o kk).trans hc
      have HE:Hi (eachF (fun k s=>qQt d C F k true true s) ((T.map (findD d n)).take (j+1)) s=(r.1++[(qQt d C F kk true true r.2).1],(qQt d C F kk true true r.2).2)):=lH (by rw [HST.o,if_pos ⟨hk0,hhad⟩])
      have cO:Hi (∀ W',NmAt m g h u dv cv X e d C W' r.2->Calls Tryz.prog 60 #[.pointer (some ⟨g,0,none⟩),.int .i64 kk,.bool true,.bool true] W' (Rm W' h u (.string ⟨(qQt d C F kk true true r.2).1.toArray⟩) (fun w'=>NmAt m g h u dv cv X e d C w' (qQt d C F kk true true r.2).2))):=lH (fun W' hW=>H1.o kk true r.2 W' hW (HIS.o hk0) hhad HFj.o)
      have hsm2:=qG0 (HDO.o (j+1)) HG.o
      rw [HE.o] at hsm2
      clear hhad
      generalize qQt d C F kk true true r.2=q at *
      obtain ⟨q1,q2⟩:=q
      simp only at cO HE hsm2
      go_wp2_with (first
 | (go_at_call 104;(with_reducible refine cF1.o.mono ?_);rintro e1 w4 ⟨rfl,b4⟩;have HK4:=lH (NmAt.mk (HK.o.mem.bel b4) HK.o.ok);have HD4:=lH (HD.o.trans (Nmd.bel b4));have HO4:=lH (HO.o.below b4 (Zb _) (fun _ _ _ h=>h));have c2:=HK4.o.mem.c2;have HSh4:=lH (HSh.o.agree (b4.block h HSh.o.lt));clear b4)
 | (with_reducible refine qY5 rfl rfl qQy kI0 hib hzb HSh4.o kk rfl rfl ?_;rw [hc])
 | (go_at_call 60;(with_reducible refine (cO.o _ HK4.o).mono ?_);rintro e1 w5 ⟨rfl,d5,k5⟩;have HK5:=lH k5;have HD5:=lH (HD4.o.trans d5);have HO5:=lH (d5.own HO4.o qXa (by have:=HLT.o;omega) (by have:=HLT.o;omega));have S5:=d5.size;have c0:=HK5.o.mem.c0;have c2:=HK5.o.mem.c2;clear d5 k5)
 | (at_builtin;go_must (refine qKx rfl _ _ _ rfl qG2 (by decide) qXa zZy rfl HO5.o rfl ?hg q1 ⟨rfl,rfl⟩ ?hb1 ?hb2 ?hb3 ?_);(case hg=>simp);(case hb1=>omega);(case hb2=>omega);(case hb3=>have:=HD5.o.size;omega);intro v6 w6 o6 g6;have HO6:=lH o6;have HK6:=lH (NmAt.mk (HK5.o.mem.grown g6 (fun b hb=>(HO5.o.lt b hb).1) (by have:=HLT.o;omega)) HK5.o.ok);have HD6:=lH (HD5.o.grown g6 (fun b hb=>(HO5.o.lt b hb).1));clear o6 g6))
      go_roundw
      case rel=>exact ⟨j+1,_,by omega,by go_num,HE.o.symm,HO6.o,HK6.o,HD6.o⟩
      case measure=>simp [intOf];omega
   ·have HE:Hi (eachF (fun k s=>qQt d C F k true true s) ((T.map (findD d n)).take (j+1)) s=r):=lH (by rw [HST.o,if_neg (by omega)])
    go_wp2_with (go_at_call 104;(with_reducible refine cF1.o.mono ?_);rintro e1 w4 ⟨rfl,b4⟩;have HK4:=lH (NmAt.mk (HK.o.mem.bel b4) HK.o.ok);have HD4:=lH (HD.o.trans (Nmd.bel b4));have HO4:=lH (HO.o.below b4 (Zb _) (fun _ _ _ h=>h));clear b4)
    go_roundw
    case rel=>exact ⟨j+1,r,by omega,by go_num,HE.o.symm,HO4.o,HK4.o,HD4.o⟩
    case measure=>simp [intOf];omega
  ·have hT:(T.map (findD d n)).take j=T.map (findD d n):=Zn (by simp;omega)
   rw [hT] at HR
   have hjl:=jn_len r.1
   have cJ:Hi (∀ W' v,qQb 1 qB3 w3.heap.size 9 W' v r.1->Calls Tryz.prog 105 #[v,.string ⟨#[32]⟩] W' (Rb (.string ⟨(join r.1).toArray⟩) W')):=lH (fun W' v ho=>qHm _ v r.1 W' ho.row (by omega))
   have cS:Hi (∀ W',Calls Tryz.prog 81 #[.string ⟨(join r.1).toArray⟩] W' (Rb (.string ⟨(qQm (join r.1)).toArray⟩) W')):=lH (fun W'=>qJa _ W' (by omega))
   have HWD:Hi (Nmd h u W wr):=lH ((Nmd.bel HBW3.o).trans HD.o)
   clear hT hTr hjl hsm
   obtain ⟨SQ,hSQ⟩:∃ x,x=qQm (join r.1):=⟨_,rfl⟩
   have HSQ:=lH hSQ
   rw [<- hSQ] at cS
   clear hSQ
   obtain ⟨JN,hJN⟩:∃ x,x=join r.1:=⟨_,rfl⟩
   rw [<- hJN] at cJ cS
   clear hJN
   go_wp2_with (first
 | (go_at_call 105;(with_reducible refine qKb (cJ.o _ _ HO.o) fun w4 HB4=>?_))
 | (go_at_call 81;(with_reducible refine qQe (cS.o _) HB4 fun w5 HB5=>?_)))
   go_ret
   rw [<- HR.o]
   exact ⟨zGj HSQ.o,HWD.o.trans (Nmd.bel HB5.o),⟨HK.o.mem.bel HB5.o,HK.o.ok⟩⟩
theorem qBi {m g h u:Nat} {dv cv:Value} {X:List Value} {e:TypeId} {d:Dc} {C:List Clm} {W:World} {s:St} (gd:Good d) (hC:∀ c∈C,isM d c.kid false=true) (hCl:C.length<=1000) {F:Nat} (H1:OneAt 60 m g h u dv cv X e d C F)
 (k:NmAt m g h u dv cv X e d C W s) (hF:qZu d s.had<=F) (n:Int) (li:Bool) :
 Calls Tryz.prog 102 #[.pointer (some ⟨g,0,none⟩),.int .i64 n,.bool li] W
  (Rm W h u (.string ⟨(qX8 d C (fun k s=>qQt d C F k true li s) n s).1.toArray⟩) (fun w'=>NmAt m g h u dv cv X e d C w' (qX8 d C (fun k s=>qQt d C F k true li s) n s).2)):=by
 obtain ⟨ib,hib,hzb⟩:=qBw
 have kI0:=zQ0 qYs
 have HG:=lH gd
 have HK0:=lH k
 have H1:=lH H1
 have HF:=lH hF
 have hlts:=k.mem.lts
 have HLT:=lH hlts
 have kd:=k.mem.bel (Br W).drew
 have cK:=lH (qW0 m dv cv d C n W.drew kd.doc kd.clm kd.lts.2.2.2 gd hCl)
 have eK:∀ args w,(callFunc 152 args).run Tryz.prog w=.ok (.enter 152 args) w:=fun args w=>by rfl
 clear kd
 have hkl:=zYo gd C n hCl
 have HL:Hi (qX8 d C (fun k s=>qQt d C F k true li s) n s=(qQm (join (eachF (fun k s=>qQt d C F k true li s) (qQs d C n) s).1),(eachF (fun k s=>qQt d C F k true li s) (qQs d C n) s).2)):=lH rfl
 rw [HL.o]
 have HIS:Hi (∀ x∈qQs d C n,isM d x false=true):=lH (fun x hx=>qF3 gd hC hx)
 have HDO:Hi (∀ j,DoesL d s (eachF (fun k s=>qQt d C F k true li s) ((qQs d C n).take j) s)):=lH (zK8 gd hC (fun k hk=>.inr (qF3 gd hC hk)) hF)
 have c0:=k.mem.c0
 have c1:=k.mem.c1
 have HBW:=lH (Br W)
 clear HL k hlts hF
 generalize qQs d C n=T at *
 go_enter Tryz.func102,Tryz.ntmps102
 go_upto_region 2 with fail
 go_cut [19,20,21] from 10 to 21 (fun y l z w3=>∃ a c,y=.slice a T.length c/\l=.int .i64 T.length/\z=.int .i64 0/\Bel W w3/\qQb 1 qQf W.heap.size 3 w3 y T)
 case first=>
  go_region_law (refine qKi rfl 152 eK #[.tmp 13,.tmp 17,.tmp 18] _ rfl (vs:=#[dv,cv,.int .i64 n]) ?hv cK.o ?_;(case hv=>simp [Act.eval]);rintro e1 w3 ⟨b3,y3,rfl,o3⟩;refine ⟨_,rfl,?_⟩;have HT:=lH o3;have HBW3:=lH (Bt (Br W).drew b3);obtain ⟨ta,tc,rfl,t1,t2⟩:=Rf o3.read;clear b3 o3)
  all_goals (go_wp2_with fail;go_meet;exact ⟨ta,tc,rfl,rfl,rfl,HBW3.o,HT.o⟩)
 case rest=>
 obtain ⟨ta,tc,rfl,rfl,rfl,hB3,hT⟩:=hcut
 have HT:=lH hT
 have HBW3:=lH hB3
 have S3:=hB3.size
 obtain ⟨_,_,e3,t1,t2⟩:=Rf hT.read
 clear hT hB3 e3
 generalize wc=w3 at *
 go_wp2
 go_loopw [21,7] (fun z o wr=>∃ (j:Nat) (r:List Txt×St),j<=T.length/\z=.int .i64 j/\r=eachF (fun k s=>qQt d C F k true li s) (T.take j) s/\qQb 1 qB3 w3.heap.size 9 wr o r.1/\NmAt m g h u dv cv X e d C wr r.2/\Nmd h u w3 wr) (fun z _ _=>T.length - (intOf z).toNat)
 case atStart=>exact ⟨0,([],s),by omega,rfl,rfl,qQb.nil _ _ _,⟨HK0.o.mem.bel HBW3.o,HK0.o.ok⟩,Nmd.refl _⟩
 case round=>
  obtain ⟨j,r,hj,rfl,hr,hO,hK,hD⟩:=hrel
  have HR:=lH hr
  have HO:=lH hO
  have HK:=lH hK
  have HD:=lH hD
  have hDo:=HDO.o j
  rw [<- hr] at hDo
  have hsm:=qG0 hDo HG.o
  have HFj:Hi (qZu d r.2.had<=F):=lH (Za hDo.free HF.o)
  have hTr:qQa 1 qQf (fun b=>W.heap.size<=b/\b<w3.heap.size) wr (.slice ta T.length tc) T:=hD.row (HT.o.row.mono (fun _ h=>⟨h.1,h.2.1⟩) (fun _ _ _ h=>h)) qQc (fun b hb=>by have:=HLT.o;omega)
  have c0:=hK.mem.c0
  have c2:=hK.mem.c2
  have SD:=hD.size
  obtain ⟨oa,oc,rfl,o1,o2⟩:=Rf hO.read
  obtain ⟨ks,hS,hks⟩:=hK.mem.had
  have HSh:=lH hS
  have HKS:=lH hks
  clear hr hO hK hD hDo hS hks
  by_cases hlt:j<T.length
  ·obtain ⟨_,_,_,_,e1,_,_,_,_⟩:=qQa.elem hTr j hlt
   simp at e1
   obtain ⟨rfl,rfl⟩:=e1
   have cw:=qQa.int_cell hTr j hlt
   have hst:=qW4 (one:=fun k s=>qQt d C F k true li s) (K:=T) (s:=s) (j:=j) hlt
   rw [<- HR.o] at hst
   have HST:=lH hst
   have HISk:=lH (HIS.o T[j] (Zl hlt))
   clear hst hTr
   generalize T[j]=kk at *
   have hk0:=(qQh.1 HISk.o).1
   cases hc:ks.contains kk with
   | true=>
     have HE:Hi (eachF (fun k s=>qQt d C F k true li s) (T.take (j+1)) s=r):=lH (by rw [HST.o,if_neg];rw [HKS.o kk,hc];simp)
     go_wp2_with (with_reducible refine zQr rfl rfl qQy kI0 hib hzb HSh.o kk rfl rfl ?_;rw [hc])
     go_roundw
     case rel=>exact ⟨j+1,r,by omega,by go_num,HE.o.symm,HO.o,HK.o,HD.o⟩
     case measure=>simp [intOf];omega
   | false=>
     have hhad:r.2.had kk=false:=(HKS.o kk).trans hc
     have HE:Hi (eachF (fun k s=>qQt d C F k true li s) (T.take (j+1)) s=(r.1++[(qQt d C F kk true li r.2).1],(qQt d C F kk true li r.2).2)):=lH (by rw [HST.o,if_pos ⟨hk0,hhad⟩])
     have cO:Hi (∀ W',NmAt m g h u dv cv X e d C W' r.2->Calls Tryz.prog 60 #[.pointer (some ⟨g,0,none⟩),.int .i64 kk,.bool true,.bool li] W' (Rm W' h u (.string ⟨(qQt d C F kk true li r.2).1.toArray⟩) (fun w'=>NmAt m g h u dv cv X e d C w' (qQt d C F kk true li r.2).2))):=lH (fun W' hW=>H1.o kk li r.2 W' hW HISk.o hhad HFj.o)
     have hsm2:=qG0 (HDO.o (j+1)) HG.o
     rw [HE.o] at hsm2
     clear hhad
     generalize qQt d C F kk true li r.2=q at *
     obtain ⟨q1,q2⟩:=q
     simp only at cO HE hsm2
     go_wp2_with (first
 | (with_reducible refine zQr rfl rfl qQy kI0 hib hzb HSh.o kk rfl rfl ?_;rw [hc])
 | (go_at_call 60;(with_reducible refine (cO.o _ HK.o).mono ?_);rintro e1 w5 ⟨rfl,d5,k5⟩;have HK5:=lH k5;have HD5:=lH (HD.o.trans d5);have HO5:=lH (d5.own HO.o qXa (by have:=HLT.o;omega) (by have:=HLT.o;omega));have S5:=d5.size;have c0:=HK5.o.mem.c0;have c2:=HK5.o.mem.c2;clear d5 k5)
 | (at_builtin;go_must (refine qKx rfl _ _ _ rfl qG2 (by decide) qXa zZy rfl HO5.o rfl ?hg q1 ⟨rfl,rfl⟩ ?hb1 ?hb2 ?hb3 ?_);(case hg=>simp);(case hb1=>omega);(case hb2=>omega);(case hb3=>have:=HD5.o.size;omega);intro v6 w6 o6 g6;have HO6:=lH o6;have HK6:=lH (NmAt.mk (HK5.o.mem.grown g6 (fun b hb=>(HO5.o.lt b hb).1) (by have:=HLT.o;omega)) HK5.o.ok);have HD6:=lH (HD5.o.grown g6 (fun b hb=>(HO5.o.lt b hb).1));clear o6 g6))
     go_roundw
     case rel=>exact ⟨j+1,_,by omega,by go_num,HE.o.symm,HO6.o,HK6.o,HD6.o⟩
     case measure=>simp [intOf];omega
  ·have hT:T.take j=T:=Zn (by omega)
   rw [hT] at HR
   have hjl:=jn_len r.1
   have cJ:Hi (∀ W' v,qQb 1 qB3 w3.heap.size 9 W' v r.1->Calls Tryz.prog 105 #[v,.string ⟨#[32]⟩] W' (Rb (.string ⟨(join r.1).toArray⟩) W')):=lH (fun W' v ho=>qHm _ v r.1 W' ho.row (by omega))
   have cS:Hi (∀ W',Calls Tryz.prog 81 #[.string ⟨(join r.1).toArray⟩] W' (Rb (.string ⟨(qQm (join r.1)).toArray⟩) W')):=lH (fun W'=>qJa _ W' (by omega))
   have HWD:Hi (Nmd h u W wr):=lH ((Nmd.bel HBW3.o).trans HD.o)
   clear hT hTr hjl hsm
   obtain ⟨SQ,hSQ⟩:∃ x,x=qQm (join r.1):=⟨_,rfl⟩
   have HSQ:=lH hSQ
   rw [<- hSQ] at cS
   clear hSQ
   obtain ⟨JN,hJN⟩:∃ x,x=join r.1:=⟨_,rfl⟩
   rw [<- hJN] at cJ cS
   clear hJN
   go_wp2_with (first
 | (go_at_call 105;(with_reducible refine qKb (cJ.o _ _ HO.o) fun w4 HB4=>?_))
 | (go_at_call 81;(with_reducible refine qQe (cS.o _) HB4 fun w5 HB5=>?_)))
   go_ret
   rw [<- HR.o]
   exact ⟨zGj HSQ.o,HWD.o.trans (Nmd.bel HB5.o),⟨HK.o.mem.bel HB5.o,HK.o.ok⟩⟩
theorem zYw {m:Nat} {w:World} {b off len cap:Nat} {d:Dc} (h:qZb m w (.slice (some ⟨b,off,none⟩) len cap) d) {i:Nat} (hi:i<d.length):w.cell? ⟨b,off+i*9+1,none⟩=some (.string ⟨d[i].tag.toArray⟩):=by
 obtain ⟨b',off',cap',av,kv,sv,e,_,_,_,hN⟩:=h.node i hi
 simp at e
 obtain ⟨⟨rfl,rfl⟩,_⟩:=e
 exact hN.tag
theorem zBo {m:Nat} {w:World} {b off len cap:Nat} {d:Dc} (h:qZb m w (.slice (some ⟨b,off,none⟩) len cap) d) {i:Nat} (hi:i<d.length):w.cell? ⟨b,off+i*9+2,none⟩=some (.string ⟨d[i].text.toArray⟩):=by
 obtain ⟨b',off',cap',av,kv,sv,e,_,_,_,hN⟩:=h.node i hi
 simp at e
 obtain ⟨⟨rfl,rfl⟩,_⟩:=e
 exact hN.text
theorem qJ0.look {P:Program} {T K E:TypeId} (hT:P.underlying T=some (.map K E)) (L:KeyLaw P K kI) {i:TypeInfo} (hi:P.info? E=some i) (hz:i.zero=some (.bool false)) {w:World} {r:Nat} {ks:List Int} (h:qJ0 w r ks) (key:Int) :
 (Instr.lookup T (.map (some r)) (.int .i64 key) false).run P w=.ok (.bool (ks.contains key)) w:=by
 have h1:=qVa hT L hi hz h.map key false
 have e:((if key∈ks then some (Value.bool true) else none).getD (.bool false))=.bool (ks.contains key):=by
  by_cases h:key∈ks <;> simp [h]
 simp only [Bool.false_eq_true,if_false,e] at h1
 exact h1
theorem qGl {m g h u:Nat} {dv cv:Value} {X:List Value} {e:TypeId} {d:Dc} {C:List Clm} {W:World} {s:St} (gd:Good d) {F:Nat} (H1:OneAt 60 m g h u dv cv X e d C F)
 (k:NmAt m g h u dv cv X e d C W s) (hF:qZu d s.had<=F) (n:Int) (hn:isM d n false=true) :
 Calls Tryz.prog 101 #[.pointer (some ⟨g,0,none⟩),.int .i64 n] W
  (Rm W h u (.string ⟨(qXe d (fun k s=>qQt d C F k true false s) n s).1.toArray⟩) (fun w'=>NmAt m g h u dv cv X e d C w' (qXe d (fun k s=>qQt d C F k true false s) n s).2)):=by
 obtain ⟨ib,hib,hzb⟩:=qBw
 have kI0:=zQ0 qYs
 have HG:=lH gd
 have HK0:=lH k
 have H1:=lH H1
 have HF:=lH hF
 obtain ⟨p,hp,rfl,-⟩:=qQz.1 hn
 obtain ⟨b,off,cap,av,kv,sv,rfl,v1,v2,hbb,hN⟩:=k.mem.doc.node p hp
 have hlts:=k.mem.lts
 have HLT:=lH hlts
 have c1:=hN.tag
 have HTG:Hi (∀ w' s',NmM m g h u (.slice (some ⟨b,off,none⟩) d.length cap) cv X e d C w' s'->∀ (i:Nat) (hi:i<d.length),w'.cell? ⟨b,off+i*9+1,none⟩=some (.string ⟨d[i].tag.toArray⟩)):=lH (fun w' s' hk i hi=>zYw hk.doc hi)
 have HAT:Hi (qJe gd k.mem (p:Int) altT=qJe gd k.mem (p:Int) altT):=lH rfl
 have cAlt:=lH (qJe gd k.mem (p:Int) altT)
 have cId:=lH (qJh k.mem.doc hlts.2.2.2 (p:Int) idT)
 have cFor:=lH (fun x=>qJh k.mem.doc hlts.2.2.2 x forT)
 have cFind:Hi (∀ W',Bel W W'->Calls Tryz.prog 104 #[.slice (some ⟨b,off,none⟩) d.length cap,.int .i64 (p:Int),.string ⟨(said d (p:Int) idT).toArray⟩] W' (Rb (.int .i64 (findD d (p:Int) (said d (p:Int) idT))) W')):=lH (fun W' hW=>qVe m _ d (p:Int) _ W' (k.mem.doc.later hW hlts.2.2.2) (Za hlts.2.2.2 hW.size) gd)
 have cAll:Hi (∀ W',Bel W W'->Calls Tryz.prog 137 #[.slice (some ⟨b,off,none⟩) d.length cap,.int .i64 0] W' (Rn W' fun w' x=>qQb 1 qQf W'.heap.size 3 w' x (allM d 0))):=lH (fun W' hW=>qW8 m _ d 0 W' (k.mem.doc.later hW hlts.2.2.2) (Za hlts.2.2.2 hW.size) gd (qG1 gd))
 have cSc:Hi (∀ W' x,Bel W W'->Calls Tryz.prog 151 #[.slice (some ⟨b,off,none⟩) d.length cap,.int .i64 x] W' (Rv (.int .i64 (qQ1 d x)) W')):=lH (fun W' x hW=>qK2 m _ d x W' (k.mem.doc.later hW hlts.2.2.2) (qWo gd))
 have hLl:=qV9 gd (qG1 gd)
 have HIS:Hi (∀ x∈allM d 0,isM d x false=true):=lH (fun x hx=>by obtain ⟨r,g0⟩:=gd.tree;exact qBa g0 g0.is0 hx)
 have hst:qXe d (fun k s=>qQt d C F k true false s) (p:Int) s=if d[p].tag=imgT then (sq d (p:Int) altT,s) else if d[p].tag=qH8/\said d (p:Int) idT≠[]/\findD d (p:Int) (said d (p:Int) idT)=(p:Int) then (match (allM d 0).find? (qK0 d (p:Int) s) with | some k=>qQt d C F k true false s | none=>([],s)) else ([],s):=by
  unfold qXe
  rw [qQ2 hp]
  rfl
 obtain ⟨R,hR⟩:∃ R,R=qXe d (fun k s=>qQt d C F k true false s) (p:Int) s:=⟨_,rfl⟩
 rw [<- hR] at hst
 rw [<- hR]
 clear hR
 have HST:=lH hst
 have HLF:Hi (∀ x,qK0 d (p:Int) s x=(decide ((nd d x).tag=lblT)&&decide (said d x forT=said d (p:Int) idT)&&decide (qQ1 d x=qQ1 d (p:Int))&&!s.had x)):=lH (fun _=>rfl)
 have c0:=k.mem.c0
 have HBW:=lH (Br W)
 clear hst HAT k hlts hF hn hN
 generalize hSQ:sq d (p:Int) altT=sqa at *
 clear hSQ
 generalize hP:qK0 d (p:Int) s=P at *
 clear hP
 obtain ⟨fi,hfi⟩:∃ x,x=findD d (p:Int) (said d (p:Int) idT):=⟨_,rfl⟩
 rw [<- hfi] at cFind HST
 clear hfi
 generalize said d (p:Int) idT=id at *
 generalize hasA d (p:Int) idT=hid at *
 generalize hTg:d[p].tag=tg at *
 clear hTg
 by_cases ht0:tg=imgT
 ·have hb0:(tg==[105,109,103])=true:=by rw [ht0];rfl
  have HR:Hi (R=(sqa,s)):=lH (by rw [HST.o,if_pos ht0])
  clear ht0
  obtain rfl:=HR.o
  clear HST HR
  go_enter Tryz.func101,Tryz.ntmps101
  go_wp2_with (go_at_call 62;refine qQe cAlt.o HBW fun w2 HBW=>?_)
  go_ret
  exact ⟨rfl,Nmd.bel HBW.o,⟨HK0.o.mem.bel HBW.o,HK0.o.ok⟩⟩
 have hb0:(tg==[105,109,103])=false:=by
  have:(tg==imgT)=false:=by simpa using ht0
  exact this
 by_cases ht1:tg=qH8
 ·have hb1:(tg==[105,110,112,117,116])=true:=by rw [ht1];rfl
  by_cases hid0:id=[]
  ·subst hid0
   have HR:Hi (R=([],s)):=lH (by rw [HST.o,if_neg ht0,if_neg (by simp)])
   clear ht0 ht1
   obtain rfl:=HR.o
   clear HST HR
   go_enter Tryz.func101,Tryz.ntmps101
   go_wp2_with (go_at_call 76;refine qQe (cId.o _ HBW.o) HBW fun w2 HBW=>?_)
   go_ret
   exact ⟨rfl,Nmd.bel HBW.o,⟨HK0.o.mem.bel HBW.o,HK0.o.ok⟩⟩
  have hbi:(id==[])=false:=by simpa using hid0
  have hbi':=zQm hid0
  by_cases hfi:fi=(p:Int)
  ·have hbf:(fi==(p:Int))=true:=by simpa using hfi
   have HR:Hi (R=(match (allM d 0).find? P with | some k=>qQt d C F k true false s | none=>([],s))):=lH (by rw [HST.o,if_neg ht0,if_pos ⟨ht1,hid0,hfi⟩])
   clear HST ht0 ht1 hid0
   subst hfi
   have HRM:=HR
   clear HR
   generalize allM d 0=L at *
   go_enter Tryz.func101,Tryz.ntmps101
   go_wp2_with (first
 | (go_at_call 76;refine qQe (cId.o _ HBW.o) HBW fun w2 HBW=>?_;have c0:=(HK0.o.mem.bel HBW.o).c0)
 | (go_at_call 104;(with_reducible refine qQe (cFind.o _ HBW.o) HBW fun w3 HBW=>?_);have c0:=(HK0.o.mem.bel HBW.o).c0)
 | (go_at_call 137;(with_reducible refine (cAll.o _ HBW.o).mono ?_);rintro e1 w4 ⟨b2,y4,rfl,o4⟩;have HBW4:=lH (Bt HBW.o b2);have HL:=lH o4;obtain ⟨la,lc,rfl,l1,l2⟩:=Rf o4.read;clear b2 o4))
   go_loopw [54] (fun z wr=>∃ j:Nat,j<=L.length/\z=.int .i64 j/\(L.take j).find? P=none/\Bel w4 wr) (fun z _=>L.length - (intOf z).toNat)
   case atStart=>exact ⟨0,by omega,rfl,rfl,Br _⟩
   case round=>
    obtain ⟨j,hj,rfl,hFi,hB⟩:=hrel
    have HFi:=lH hFi
    have HBr:=lH hB
    have HBWr:=lH (Bt HBW4.o hB)
    have HR:=lH (qQa.later HL.o.read qQc hB (Zb _))
    have c0:=(HK0.o.mem.bel HBWr.o).c0
    clear hFi hB
    by_cases hlt:j<L.length
    ·obtain ⟨_,_,_,_,e1,_,_,_,_⟩:=qQa.elem HR.o j hlt
     simp at e1
     obtain ⟨rfl,rfl⟩:=e1
     have cx:=HR.o.int_cell j hlt
     have HNx:=lH (fun hh=>qDj HFi.o hlt hh)
     have HHx:=lH (fun hh=>zZ4 HFi.o hlt hh)
     have hisk:=HIS.o L[j] (Zl hlt)
     have hPk:=HLF.o L[j]
     clear HR
     generalize L[j]=kk at *
     obtain ⟨q,hq,rfl,-⟩:=qQz.1 hisk
     rw [qQ2 hq] at hPk
     have HISk:=lH hisk
     have HPk:=lH hPk
     have cFk:=lH (fun W' hW=>cFor.o (q:Int) W' hW)
     clear hisk hPk
     have HT8:Hi (∀ W',Bel W W'->W'.cell? ⟨b,off+q*9+1,none⟩=some (.string ⟨d[q].tag.toArray⟩)):=lH (fun W' hW=>HTG.o _ _ (HK0.o.mem.bel hW) q hq)
     generalize hTq:d[q].tag=tq at *
     clear hTq
     generalize said d (q:Int) forT=fk at *
     generalize hasA d (q:Int) forT=hfk at *
     obtain ⟨ks,hS,hks⟩:=HK0.o.mem.had
     have HKS:=lH hks
     have HSW:Hi (∀ W',Bel W W'->qJ0 W' h ks):=lH (fun W' hW=>hS.agree (hW.block h HLT.o.2.1))
     clear hS hks
     go_upto_region 12 with (go_at_call 76;refine (cFk.o _ HBWr.o).mono ?_;rintro e1 w5 ⟨rfl,b2⟩;have HB5:=lH (Bt HBr.o b2);have HBW5:=lH (Bt HBWr.o b2);clear b2;have c0:=(HK0.o.mem.bel HBW5.o).c0;have c2:=(HK0.o.mem.bel HBW5.o).c2;have t8:=HT8.o _ HBW5.o)
     go_cut [104] from 67 to 104 (fun z wx=>z=.bool (P (q:Int))/\Bel w4 wx)
     case first=>
      by_cases g1:tq=lblT
      ·have hg1:(tq==[108,97,98,101,108])=true:=by rw [g1];rfl
       by_cases g2:fk=id
       ·have hg2:(fk==id)=true:=by simpa using g2
        by_cases g3:qQ1 d (q:Int)=qQ1 d (p:Int)
        ·have hg3:(qQ1 d (q:Int)==qQ1 d (p:Int))=true:=by simpa using g3
         have hlk:∀ a,(Instr.lookup 59 (.map (some h)) (.int .i64 (q:Int)) false).run Tryz.prog (w5.drewN a)=.ok (.bool (ks.contains (q:Int))) (w5.drewN a):=fun a=>qJ0.look qQy kI0 hib hzb (HSW.o _ (HBW5.o.drewN a)) _
         have HV:Hi (P (q:Int)=!ks.contains (q:Int)):=lH (by rw [HPk.o,HKS.o];simp [g1,g2,g3])
         clear g1 g2 g3
         go_quiet ((go_at_call 151;exact Calls.quiet_of_same ((cSc.o _ _ (HBW5.o.drewN _)).mono (fun _ _ h=>⟨h.1,h.2.symm⟩))))
         go_wp2
         go_meet
         exact ⟨by rw [HV.o];simp,HB5.o.drewN _⟩
        ·have hg3:(qQ1 d (q:Int)==qQ1 d (p:Int))=false:=by simpa using g3
         have HV:Hi (P (q:Int)=false):=lH (by rw [HPk.o];simp [g3])
         clear g1 g2 g3
         go_quiet ((go_at_call 151;exact Calls.quiet_of_same ((cSc.o _ _ (HBW5.o.drewN _)).mono (fun _ _ h=>⟨h.1,h.2.symm⟩))))
         go_wp2
         go_meet
         exact ⟨congrArg Value.bool HV.o.symm,HB5.o.drewN _⟩
       ·have hg2:(fk==id)=false:=by simpa using g2
        have HV:Hi (P (q:Int)=false):=lH (by rw [HPk.o];simp [g2])
        clear g1 g2
        go_quiet (fail)
        go_wp2
        go_meet
        exact ⟨congrArg Value.bool HV.o.symm,HB5.o.drewN _⟩
      ·have hg1:(tq==[108,97,98,101,108])=false:=by
        have:(tq==lblT)=false:=by simpa using g1
        exact this
       have HV:Hi (P (q:Int)=false):=lH (by rw [HPk.o];simp [g1])
       clear g1
       go_quiet (fail)
       go_wp2
       go_meet
       exact ⟨congrArg Value.bool HV.o.symm,HB5.o.drewN _⟩
     case rest=>
     obtain ⟨rfl,hB6⟩:=hcut
     have HB6:=lH hB6
     have HBW6:=lH (Bt HBW4.o hB6)
     have HR6:=lH (qQa.later HL.o.read qQc hB6 (Zb _))
     clear hB6
     generalize wc=w6 at *
     cases hPq:P (q:Int) with
     | true=>
       have HF2:Hi (L.find? P=some (q:Int)):=lH (HHx.o hPq)
       have hhad:s.had (q:Int)=false:=by
        have:=HPk.o
        rw [hPq] at this
        simp at this
        exact this.2
       have cO:=lH (H1.o (q:Int) false s w6 ⟨HK0.o.mem.bel HBW6.o,HK0.o.ok⟩ HISk.o hhad HF.o)
       clear hPq hhad
       go_wp2_with (go_at_call 60;(with_reducible refine cO.o.mono ?_);rintro e1 w7 ⟨rfl,d7,k7⟩;have HD7:=lH d7;have HK7:=lH k7;clear d7 k7)
       go_ret
       have hRe:=HRM.o
       rw [HF2.o] at hRe
       subst hRe
       exact ⟨rfl,(Nmd.bel HBW6.o).trans HD7.o,HK7.o⟩
     | false=>
       have HF2:Hi ((L.take (j+1)).find? P=none):=lH (HNx.o hPq)
       clear hPq
       go_wp2
       go_roundw
       case rel=>exact ⟨j+1,by omega,by go_num,HF2.o,HB6.o⟩
       case measure=>simp [intOf];omega
    ·have hT:L.take j=L:=Zn (by omega)
     have HE:Hi (L.find? P=none):=lH (by have:=HFi.o;rwa [hT] at this)
     clear hT HR
     go_wp2
     go_ret
     have hRe:=HRM.o
     rw [HE.o] at hRe
     subst hRe
     exact ⟨rfl,Nmd.bel HBWr.o,⟨HK0.o.mem.bel HBWr.o,HK0.o.ok⟩⟩
  ·have hbf:(fi==(p:Int))=false:=by simpa using hfi
   have HR:Hi (R=([],s)):=lH (by rw [HST.o,if_neg ht0,if_neg (by simp [hfi])])
   clear ht0 ht1 hid0 hfi
   obtain rfl:=HR.o
   clear HST HR
   go_enter Tryz.func101,Tryz.ntmps101
   go_wp2_with (first
 | (go_at_call 76;refine qQe (cId.o _ HBW.o) HBW fun w2 HBW=>?_;have c0:=(HK0.o.mem.bel HBW.o).c0)
 | (go_at_call 104;(with_reducible refine qQe (cFind.o _ HBW.o) HBW fun w3 HBW=>?_)))
   go_ret
   exact ⟨rfl,Nmd.bel HBW.o,⟨HK0.o.mem.bel HBW.o,HK0.o.ok⟩⟩
 ·have hb1:(tg==[105,110,112,117,116])=false:=by
   have:(tg==qH8)=false:=by simpa using ht1
   exact this
  have HR:Hi (R=([],s)):=lH (by rw [HST.o,if_neg ht0,if_neg (fun hh=>ht1 hh.1)])
  clear ht0 ht1
  obtain rfl:=HR.o
  clear HST HR
  go_enter Tryz.func101,Tryz.ntmps101
  go_wp2
  go_ret
  exact ⟨rfl,Nmd.bel HBW.o,⟨HK0.o.mem.bel HBW.o,HK0.o.ok⟩⟩
theorem zYa (a0 a1 a2 a3 a4 a5 a6:Value) (w:World):(Instr.field 45 (.agg #[a0,a1,a2,a3,a4,a5,a6]) 1).run Tryz.prog w=.ok a1 w:=by kernel_rfl
theorem zX8 {d:Dc} (gd:Good d) {C:List Clm} (hC:∀ c∈C,isM d c.kid false=true) {F:Nat} {s:St} (hF:qZu d s.had<=F) (n:Int) (name:Txt):qZu d (qYm d (fun k s=>qQt d C F k true true s) n name s).2.had<=qZu d s.had:=by
 have h:=zK8 gd hC (li:=true) (K:=(toks (said d n name)).map (findD d n)) (fun k hk=>by obtain ⟨id,_,rfl⟩:=List.mem_map.1 hk;exact zZn gd n id) hF ((toks (said d n name)).map (findD d n)).length
 rw [List.take_length] at h
 exact h.free
theorem zGm {d:Dc} (gd:Good d) {C:List Clm} (hC:∀ c∈C,isM d c.kid false=true) {F:Nat} {s:St} (hF:qZu d s.had<=F) (n:Int):qZu d (qXe d (fun k s=>qQt d C F k true false s) n s).2.had<=qZu d s.had:=by
 unfold qXe
 split
 ·exact Zb _
 ·split
  ·split
   ·rename_i k hk
    obtain ⟨r,g0⟩:=gd.tree
    have hm:=List.mem_of_find?_eq_some hk
    have hp:=List.find?_some hk
    have hnk:s.had k=false:=by unfold qK0 at hp;simp at hp;exact hp.2
    exact Nat.le_of_succ_le (zJx gd hC F k true false s (qBa g0 g0.is0 hm) hnk hF).1.free
   ·exact Zb _
  ·exact Zb _
theorem zBq {t:Txt}:t≠[]↔(!t.isEmpty)=true:=by cases t <;> simp
theorem zH8 (d:Dc) (C:List Clm) (F:Nat) (n:Int) (within listed:Bool) (s:St) (s1:St) (r1 r2 r3:Txt×St) (h1:s1=hitM n (markM d n s))
 (hr1:r1=if within then ([],s1) else qYm d (fun k s=>qQt d C F k true true s) n qJu s1) (hr2:r2=qXe d (fun k s=>qQt d C F k true false s) n r1.2)
 (hr3:r3=if within||(kOf (qQd d n)).content then qX8 d C (fun k s=>qQt d C F k true listed s) n r2.2 else ([],r2.2)) :
 qQt d C (F+1) n within listed s=if (!listed&&qZd d n)=true then ([],s1) else if (nd d n).tag.isEmpty=true then (qQm (nd d n).text,s1) else if (!r1.1.isEmpty)=true then r1
  else if (!(sq d n labelT).isEmpty)=true then (sq d n labelT,r1.2) else if (within&&(qQd d n==12))=true then (sq d n valueT,r1.2) else if (!r2.1.isEmpty)=true then r2 else if (!r3.1.isEmpty)=true then r3 else (sq d n titleT,r3.2):=by
 subst h1 hr1 hr2 hr3
 rw [qDh]
 unfold qY3 step2 step1 qHt
 simp only [zBq]
 have e1:((nd d n).tag=[])=((nd d n).tag.isEmpty=true):=by cases (nd d n).tag <;> simp
 have e2:(within=true/\qQd d n=12)=((within&&(qQd d n==12))=true):=by simp
 simp only [e1,e2]
theorem qV1 {m g h u:Nat} {dv cv:Value} {X:List Value} {e:TypeId} {d:Dc} {C:List Clm} (gd:Good d) (hC:∀ c∈C,isM d c.kid false=true) (hCl:C.length<=1000):∀ (F:Nat) (n:Int) (within listed:Bool) (s:St) (W:World),
 NmAt m g h u dv cv X e d C W s->isM d n false=true->s.had n=false->qZu d s.had<=F ->
 Calls Tryz.prog 60 #[.pointer (some ⟨g,0,none⟩),.int .i64 n,.bool within,.bool listed] W (Rm W h u (.string ⟨(qQt d C F n within listed s).1.toArray⟩) (fun w'=>NmAt m g h u dv cv X e d C w' (qQt d C F n within listed s).2)):=by
 intro F
 induction F with
 | zero=>
   intro n within listed s W k hn hh hf
   have:=qB8 hn hh
   omega
 | succ F ih=>
 intro n within listed s W k hn hh hf
 have H1:OneAt 60 m g h u dv cv X e d C F:=fun x li s' W' k' hx hs' hf'=>ih x true li s' W' k' hx hs' hf'
 have hfh:=qB8 hn hh
 obtain ⟨p,hp,rfl,-⟩:=qQz.1 hn
 obtain ⟨b,off,cap,av,kv,sv,rfl,v1,v2,hbb,hN⟩:=k.mem.doc.node p hp
 have kI0:=zQ0 qYs
 have c1t:=hN.tag
 have c2t:=hN.text
 have HTG:Hi (∀ w' s',NmM m g h u (.slice (some ⟨b,off,none⟩) d.length cap) cv X e d C w' s'->w'.cell? ⟨b,off+p*9+1,none⟩=some (.string ⟨d[p].tag.toArray⟩)):=lH (fun w' s' hk=>zYw hk.doc hp)
 have HTX:Hi (∀ w' s',NmM m g h u (.slice (some ⟨b,off,none⟩) d.length cap) cv X e d C w' s'->w'.cell? ⟨b,off+p*9+2,none⟩=some (.string ⟨d[p].text.toArray⟩)):=lH (fun w' s' hk=>zBo hk.doc hp)
 obtain ⟨s1,hs1⟩:∃ x,x=hitM (p:Int) (markM d (p:Int) s):=⟨_,rfl⟩
 have HF1:qZu d s1.had<=F:=by rw [hs1];show qZu d (hitM (p:Int) s).had<=F;omega
 obtain ⟨r1,hr1⟩:∃ r1,r1=if within then ([],s1) else qYm d (fun k s=>qQt d C F k true true s) (p:Int) qJu s1:=⟨_,rfl⟩
 have HF2:qZu d r1.2.had<=F:=by
  rw [hr1]
  split
  ·exact HF1
  ·exact Za (zX8 gd hC HF1 _ _) HF1
 obtain ⟨r2,hr2⟩:∃ r2,r2=qXe d (fun k s=>qQt d C F k true false s) (p:Int) r1.2:=⟨_,rfl⟩
 have HF3:qZu d r2.2.had<=F:=by
  rw [hr2]
  exact Za (zGm gd hC HF2 _) HF2
 obtain ⟨q3,hq3⟩:∃ q3,q3=qX8 d C (fun k s=>qQt d C F k true listed s) (p:Int) r2.2:=⟨_,rfl⟩
 have hr3:(if within||(kOf (qQd d (p:Int))).content then q3 else ([],r2.2))=if within||(kOf (qQd d (p:Int))).content then qX8 d C (fun k s=>qQt d C F k true listed s) (p:Int) r2.2 else ([],r2.2):=by rw [hq3]
 have hR0:=zH8 d C F (p:Int) within listed s s1 r1 r2 _ hs1 hr1 hr2 hr3
 clear hr3
 obtain ⟨R,hR⟩:∃ R,R=qQt d C (F+1) (p:Int) within listed s:=⟨_,rfl⟩
 rw [<- hR] at hR0 ⊢
 rw [qQ2 hp] at hR0
 have HK0:=lH k
 have cUse:=lH (qV5 gd k.mem k.ok hn)
 have HOK1:qHu d s1:=by rw [hs1];exact (k.ok.mark gd hn).hit _
 have HOK1:=lH HOK1
 have HHIT:Hi (∀ w1 w2 ks,NmM m g h u (.slice (some ⟨b,off,none⟩) d.length cap) cv X e d C w1 (markM d (p:Int) s)->(∀ x,(markM d (p:Int) s).had x=ks.contains x)->qJ0 w2 h (addK ks (p:Int))->w1.grownBy w2 (some h)->NmAt m g h u (.slice (some ⟨b,off,none⟩) d.length cap) cv X e d C w2 s1):=lH (fun w1 w2 ks h1 h2 h3 h4=>⟨by rw [hs1];exact h1.hit h2 h3 h4,HOK1.o⟩)
 have cHid:Hi (∀ w' s',NmM m g h u (.slice (some ⟨b,off,none⟩) d.length cap) cv X e d C w' s'->Calls Tryz.prog 100 #[.slice (some ⟨b,off,none⟩) d.length cap,.int .i64 (p:Int)] w' (Rb (.bool (qZd d (p:Int))) w')):=lH (fun w' s' hk=>qVi m _ d _ w' hk.doc hk.lts.2.2.2 gd)
 have cRo:Hi (∀ w' s',NmM m g h u (.slice (some ⟨b,off,none⟩) d.length cap) cv X e d C w' s'->Calls Tryz.prog 59 #[.slice (some ⟨b,off,none⟩) d.length cap,.int .i64 (p:Int)] w' (Rb (.int .i64 (qQd d (p:Int))) w')):=lH (fun w' s' hk=>qKq m _ d _ w' hk.doc hk.lts.2.2.2 gd)
 have cAt:Hi (∀ w' s',NmM m g h u (.slice (some ⟨b,off,none⟩) d.length cap) cv X e d C w' s'->∀ name,Calls Tryz.prog 62 #[.pointer (some ⟨g,0,none⟩),.int .i64 (p:Int),.string ⟨name.toArray⟩] w' (Rb (.string ⟨(sq d (p:Int) name).toArray⟩) w')):=lH (fun w' s' hk name=>qJe gd hk _ name)
 have cAt1:Hi (∀ w' s',NmM m g h u (.slice (some ⟨b,off,none⟩) d.length cap) cv X e d C w' s'->Calls Tryz.prog 62 #[.pointer (some ⟨g,0,none⟩),.int .i64 (p:Int),.string ⟨#[97,114,105,97,45,108,97,98,101,108]⟩] w' (Rb (.string ⟨(sq d (p:Int) labelT).toArray⟩) w')):=lH (fun w' s' hk=>cAt.o w' s' hk labelT)
 have cAt2:Hi (∀ w' s',NmM m g h u (.slice (some ⟨b,off,none⟩) d.length cap) cv X e d C w' s'->Calls Tryz.prog 62 #[.pointer (some ⟨g,0,none⟩),.int .i64 (p:Int),.string ⟨#[118,97,108,117,101]⟩] w' (Rb (.string ⟨(sq d (p:Int) valueT).toArray⟩) w')):=lH (fun w' s' hk=>cAt.o w' s' hk valueT)
 have cAt3:Hi (∀ w' s',NmM m g h u (.slice (some ⟨b,off,none⟩) d.length cap) cv X e d C w' s'->Calls Tryz.prog 62 #[.pointer (some ⟨g,0,none⟩),.int .i64 (p:Int),.string ⟨#[116,105,116,108,101]⟩] w' (Rb (.string ⟨(sq d (p:Int) titleT).toArray⟩) w')):=lH (fun w' s' hk=>cAt.o w' s' hk titleT)
 have htx:d[p].text.length<=60:=by
  obtain ⟨r,g0⟩:=gd.tree
  have:=(g0.ok (p:Int)).short.1
  rwa [qQ2 hp] at this
 have cSq:Hi (∀ w',Calls Tryz.prog 81 #[.string ⟨d[p].text.toArray⟩] w' (Rb (.string ⟨(qQm d[p].text).toArray⟩) w')):=lH (fun w'=>qKc _ htx w')
 have cHo:Hi (∀ w',NmAt m g h u (.slice (some ⟨b,off,none⟩) d.length cap) cv X e d C w' r1.2->Calls Tryz.prog 101 #[.pointer (some ⟨g,0,none⟩),.int .i64 (p:Int)] w' (Rm w' h u (.string ⟨r2.1.toArray⟩) (fun w''=>NmAt m g h u (.slice (some ⟨b,off,none⟩) d.length cap) cv X e d C w'' r2.2))):=lH (fun w' hk=>by rw [hr2];exact qGl gd H1 hk HF2 _ hn)
 have cCo:Hi (∀ w',NmAt m g h u (.slice (some ⟨b,off,none⟩) d.length cap) cv X e d C w' r2.2->Calls Tryz.prog 102 #[.pointer (some ⟨g,0,none⟩),.int .i64 (p:Int),.bool listed] w' (Rm w' h u (.string ⟨q3.1.toArray⟩) (fun w''=>NmAt m g h u (.slice (some ⟨b,off,none⟩) d.length cap) cv X e d C w'' q3.2))):=lH (fun w' hk=>by rw [hq3];exact qBi gd hC hCl H1 hk HF3 _ listed)
 have cLi:Hi (within=false->∀ w',NmAt m g h u (.slice (some ⟨b,off,none⟩) d.length cap) cv X e d C w' s1->Calls Tryz.prog 61 #[.pointer (some ⟨g,0,none⟩),.int .i64 (p:Int),.string ⟨#[97,114,105,97,45,108,97,98,101,108,108,101,100,98,121]⟩] w' (Rm w' h u (.string ⟨r1.1.toArray⟩) (fun w''=>NmAt m g h u (.slice (some ⟨b,off,none⟩) d.length cap) cv X e d C w'' r1.2))):=lH (fun hw w' hk=>by rw [hr1,hw];exact qYg gd hC H1 hk HF1 _ qJu)
 have HW1:Hi (within=true->r1=([],s1)):=lH (fun hw=>by rw [hr1,hw];rfl)
 have cKo:=lH (qXc (qQd d (p:Int)))
 have hfl:=zYa
 have c0:=k.mem.c0
 have c2:=k.mem.c2
 have HBW:=lH (Br W)
 clear hR k ih H1 HF1 HF2 HF3 hr1 hr2 hq3 hf hfh hh hn hN htx HOK1 HK0 cAt
 generalize qZd d (p:Int)=hd at *
 generalize sq d (p:Int) labelT=lb at *
 generalize sq d (p:Int) valueT=vl at *
 generalize sq d (p:Int) titleT=tt at *
 generalize qQd d (p:Int)=rl at *
 generalize qQm d[p].text=sqt at *
 generalize hTx:d[p].text=tx at *
 clear hTx
 generalize hTg:d[p].tag=tg at *
 clear hTg
 generalize hkk:kOf rl=kk at *
 clear hkk
 obtain ⟨kname,kcont,kleaf,klev,kchk,knam,kneed⟩:=kk
 obtain ⟨r1a,r1b⟩:=r1
 obtain ⟨r2a,r2b⟩:=r2
 obtain ⟨q3a,q3b⟩:=q3
 simp only at hR0 cHo cCo cLi HW1 cKo
 clear hs1
 have HR0:=lH hR0
 clear hR0
 cases within with
 | true=>
   have hw1:=HW1.o rfl
   simp only [Prod.mk.injEq] at hw1
   obtain ⟨rfl,rfl⟩:=hw1
   clear cLi HW1
   cases listed with
   | true=>
     cases htg:tg.isEmpty
     all_goals
      go_enter Tryz.func60,Tryz.ntmps60
      go_wp2_with (first
 | (go_at_call 57;(with_reducible refine cUse.o.mono ?_);rintro e1 w1 ⟨rfl,d1,k1⟩;have HD:=lH d1;have HK1:=lH k1;have c2:=k1.c2;obtain ⟨ks,hS,hks⟩:=k1.had;have HS1:=lH hS;have HKS1:=lH hks;clear d1 k1 hS hks)
 | (with_reducible refine qJw rfl (.inr rfl) qQy kI0 HS1.o (p:Int) rfl rfl rfl ?_;intro w2 q2 g2 z2;have HK:=lH (HHIT.o _ _ _ HK1.o HKS1.o q2 g2);have HD:=lH (HD.o.trans (Nmd.had g2));have c0:=HK.o.mem.c0;have t1:=HTG.o _ _ HK.o.mem;have t2:=HTX.o _ _ HK.o.mem;clear q2 g2 z2)
 | (go_at_call 81;(with_reducible refine (cSq.o _).mono ?_);rintro e1 w4 ⟨rfl,b3⟩;have HD:=lH (HD.o.trans (Nmd.bel b3));have HK:=lH (NmAt.mk (HK.o.mem.bel b3) HK.o.ok);clear b3)
 | (go_at_call 62;(with_reducible refine (cAt1.o _ _ HK.o.mem).mono ?_);rintro e1 w6 ⟨rfl,b3⟩;have HD:=lH (HD.o.trans (Nmd.bel b3));have HK:=lH (NmAt.mk (HK.o.mem.bel b3) HK.o.ok);have c0:=HK.o.mem.c0;have t1:=HTG.o _ _ HK.o.mem;have t2:=HTX.o _ _ HK.o.mem;clear b3;cases helb:lb.isEmpty)
 | (go_at_call 62;(with_reducible refine (cAt2.o _ _ HK.o.mem).mono ?_);rintro e1 w7 ⟨rfl,b3⟩;have HD:=lH (HD.o.trans (Nmd.bel b3));have HK:=lH (NmAt.mk (HK.o.mem.bel b3) HK.o.ok);clear b3)
 | (go_at_call 62;(with_reducible refine (cAt3.o _ _ HK.o.mem).mono ?_);rintro e1 w8 ⟨rfl,b3⟩;have HD:=lH (HD.o.trans (Nmd.bel b3));have HK:=lH (NmAt.mk (HK.o.mem.bel b3) HK.o.ok);clear b3)
 | (go_at_call 59;(with_reducible refine (cRo.o _ _ HK.o.mem).mono ?_);rintro e1 w9 ⟨rfl,b3⟩;have HD:=lH (HD.o.trans (Nmd.bel b3));have HK:=lH (NmAt.mk (HK.o.mem.bel b3) HK.o.ok);have c0:=HK.o.mem.c0;have t1:=HTG.o _ _ HK.o.mem;have t2:=HTX.o _ _ HK.o.mem;clear b3;cases hb12:(rl==12))
 | (go_at_call 101;(with_reducible refine (cHo.o _ HK.o).mono ?_);rintro e1 w10 ⟨rfl,d3,k3⟩;have HD:=lH (HD.o.trans d3);have HK:=lH k3;have c0:=HK.o.mem.c0;have t1:=HTG.o _ _ HK.o.mem;have t2:=HTX.o _ _ HK.o.mem;clear d3 k3;cases he2:r2a.isEmpty)
 | (go_at_call 102;(with_reducible refine (cCo.o _ HK.o).mono ?_);rintro e1 w12 ⟨rfl,d3,k3⟩;have HD:=lH (HD.o.trans d3);have HK:=lH k3;have c0:=HK.o.mem.c0;have t1:=HTG.o _ _ HK.o.mem;have t2:=HTX.o _ _ HK.o.mem;clear d3 k3;cases he3:q3a.isEmpty))
      all_goals
       go_ret
       have hRv:=HR0.o
       first
        | (simp [htg,he1,helb,hb12,he2,he3] at hRv;subst hRv;exact ⟨rfl,HD.o,HK.o⟩)
        | (simp [htg,helb,hb12,he2,he3] at hRv;subst hRv;exact ⟨rfl,HD.o,HK.o⟩)
        | (simp [htg,he1,helb,he2,he3] at hRv;subst hRv;exact ⟨rfl,HD.o,HK.o⟩)
        | (simp [htg,he1,helb,he2] at hRv;subst hRv;exact ⟨rfl,HD.o,HK.o⟩)
        | (simp [htg,helb,he2] at hRv;subst hRv;exact ⟨rfl,HD.o,HK.o⟩)
        | (simp [htg,helb,hb12,he2] at hRv;subst hRv;exact ⟨rfl,HD.o,HK.o⟩)
        | (simp [htg,helb,hb12] at hRv;subst hRv;exact ⟨rfl,HD.o,HK.o⟩)
        | (simp [htg,he1,helb] at hRv;subst hRv;exact ⟨rfl,HD.o,HK.o⟩)
        | (simp [htg,helb] at hRv;subst hRv;exact ⟨rfl,HD.o,HK.o⟩)
        | (simp [htg,he1] at hRv;subst hRv;exact ⟨rfl,HD.o,HK.o⟩)
        | (simp [htg] at hRv;subst hRv;exact ⟨rfl,HD.o,HK.o⟩)
   | false=>
     cases htg:tg.isEmpty
     all_goals
      go_enter Tryz.func60,Tryz.ntmps60
      go_wp2_with (first
 | (go_at_call 57;(with_reducible refine cUse.o.mono ?_);rintro e1 w1 ⟨rfl,d1,k1⟩;have HD:=lH d1;have HK1:=lH k1;have c2:=k1.c2;obtain ⟨ks,hS,hks⟩:=k1.had;have HS1:=lH hS;have HKS1:=lH hks;clear d1 k1 hS hks)
 | (with_reducible refine qJw rfl (.inr rfl) qQy kI0 HS1.o (p:Int) rfl rfl rfl ?_;intro w2 q2 g2 z2;have HK:=lH (HHIT.o _ _ _ HK1.o HKS1.o q2 g2);have HD:=lH (HD.o.trans (Nmd.had g2));have c0:=HK.o.mem.c0;have t1:=HTG.o _ _ HK.o.mem;have t2:=HTX.o _ _ HK.o.mem;clear q2 g2 z2)
 | (go_at_call 100;(with_reducible refine (cHid.o _ _ HK.o.mem).mono ?_);rintro e1 w3 ⟨rfl,b3⟩;have HD:=lH (HD.o.trans (Nmd.bel b3));have HK:=lH (NmAt.mk (HK.o.mem.bel b3) HK.o.ok);have c0:=HK.o.mem.c0;have t1:=HTG.o _ _ HK.o.mem;have t2:=HTX.o _ _ HK.o.mem;clear b3;cases hd)
 | (go_at_call 81;(with_reducible refine (cSq.o _).mono ?_);rintro e1 w4 ⟨rfl,b3⟩;have HD:=lH (HD.o.trans (Nmd.bel b3));have HK:=lH (NmAt.mk (HK.o.mem.bel b3) HK.o.ok);clear b3)
 | (go_at_call 62;(with_reducible refine (cAt1.o _ _ HK.o.mem).mono ?_);rintro e1 w6 ⟨rfl,b3⟩;have HD:=lH (HD.o.trans (Nmd.bel b3));have HK:=lH (NmAt.mk (HK.o.mem.bel b3) HK.o.ok);have c0:=HK.o.mem.c0;have t1:=HTG.o _ _ HK.o.mem;have t2:=HTX.o _ _ HK.o.mem;clear b3;cases helb:lb.isEmpty)
 | (go_at_call 62;(with_reducible refine (cAt2.o _ _ HK.o.mem).mono ?_);rintro e1 w7 ⟨rfl,b3⟩;have HD:=lH (HD.o.trans (Nmd.bel b3));have HK:=lH (NmAt.mk (HK.o.mem.bel b3) HK.o.ok);clear b3)
 | (go_at_call 62;(with_reducible refine (cAt3.o _ _ HK.o.mem).mono ?_);rintro e1 w8 ⟨rfl,b3⟩;have HD:=lH (HD.o.trans (Nmd.bel b3));have HK:=lH (NmAt.mk (HK.o.mem.bel b3) HK.o.ok);clear b3)
 | (go_at_call 59;(with_reducible refine (cRo.o _ _ HK.o.mem).mono ?_);rintro e1 w9 ⟨rfl,b3⟩;have HD:=lH (HD.o.trans (Nmd.bel b3));have HK:=lH (NmAt.mk (HK.o.mem.bel b3) HK.o.ok);have c0:=HK.o.mem.c0;have t1:=HTG.o _ _ HK.o.mem;have t2:=HTX.o _ _ HK.o.mem;clear b3;cases hb12:(rl==12))
 | (go_at_call 101;(with_reducible refine (cHo.o _ HK.o).mono ?_);rintro e1 w10 ⟨rfl,d3,k3⟩;have HD:=lH (HD.o.trans d3);have HK:=lH k3;have c0:=HK.o.mem.c0;have t1:=HTG.o _ _ HK.o.mem;have t2:=HTX.o _ _ HK.o.mem;clear d3 k3;cases he2:r2a.isEmpty)
 | (go_at_call 102;(with_reducible refine (cCo.o _ HK.o).mono ?_);rintro e1 w12 ⟨rfl,d3,k3⟩;have HD:=lH (HD.o.trans d3);have HK:=lH k3;have c0:=HK.o.mem.c0;have t1:=HTG.o _ _ HK.o.mem;have t2:=HTX.o _ _ HK.o.mem;clear d3 k3;cases he3:q3a.isEmpty))
      all_goals
       go_ret
       have hRv:=HR0.o
       first
        | (simp [htg,he1,helb,hb12,he2,he3] at hRv;subst hRv;exact ⟨rfl,HD.o,HK.o⟩)
        | (simp [htg,helb,hb12,he2,he3] at hRv;subst hRv;exact ⟨rfl,HD.o,HK.o⟩)
        | (simp [htg,he1,helb,he2,he3] at hRv;subst hRv;exact ⟨rfl,HD.o,HK.o⟩)
        | (simp [htg,he1,helb,he2] at hRv;subst hRv;exact ⟨rfl,HD.o,HK.o⟩)
        | (simp [htg,helb,he2] at hRv;subst hRv;exact ⟨rfl,HD.o,HK.o⟩)
        | (simp [htg,helb,hb12,he2] at hRv;subst hRv;exact ⟨rfl,HD.o,HK.o⟩)
        | (simp [htg,helb,hb12] at hRv;subst hRv;exact ⟨rfl,HD.o,HK.o⟩)
        | (simp [htg,he1,helb] at hRv;subst hRv;exact ⟨rfl,HD.o,HK.o⟩)
        | (simp [htg,helb] at hRv;subst hRv;exact ⟨rfl,HD.o,HK.o⟩)
        | (simp [htg,he1] at hRv;subst hRv;exact ⟨rfl,HD.o,HK.o⟩)
        | (simp [htg] at hRv;subst hRv;exact ⟨rfl,HD.o,HK.o⟩)
 | false=>
   have hli0:=cLi.o rfl
   have cLi2:=lH hli0
   clear hli0 cLi
   clear HW1
   cases listed with
   | true=>
     cases htg:tg.isEmpty
     all_goals
      go_enter Tryz.func60,Tryz.ntmps60
      go_wp2_with (first
 | (go_at_call 57;(with_reducible refine cUse.o.mono ?_);rintro e1 w1 ⟨rfl,d1,k1⟩;have HD:=lH d1;have HK1:=lH k1;have c2:=k1.c2;obtain ⟨ks,hS,hks⟩:=k1.had;have HS1:=lH hS;have HKS1:=lH hks;clear d1 k1 hS hks)
 | (with_reducible refine qJw rfl (.inr rfl) qQy kI0 HS1.o (p:Int) rfl rfl rfl ?_;intro w2 q2 g2 z2;have HK:=lH (HHIT.o _ _ _ HK1.o HKS1.o q2 g2);have HD:=lH (HD.o.trans (Nmd.had g2));have c0:=HK.o.mem.c0;have t1:=HTG.o _ _ HK.o.mem;have t2:=HTX.o _ _ HK.o.mem;clear q2 g2 z2)
 | (go_at_call 81;(with_reducible refine (cSq.o _).mono ?_);rintro e1 w4 ⟨rfl,b3⟩;have HD:=lH (HD.o.trans (Nmd.bel b3));have HK:=lH (NmAt.mk (HK.o.mem.bel b3) HK.o.ok);clear b3)
 | (go_at_call 61;(with_reducible refine (cLi2.o _ HK.o).mono ?_);rintro e1 w5 ⟨rfl,d3,k3⟩;have HD:=lH (HD.o.trans d3);have HK:=lH k3;have c0:=HK.o.mem.c0;have t1:=HTG.o _ _ HK.o.mem;have t2:=HTX.o _ _ HK.o.mem;clear d3 k3;cases he1:r1a.isEmpty)
 | (go_at_call 62;(with_reducible refine (cAt1.o _ _ HK.o.mem).mono ?_);rintro e1 w6 ⟨rfl,b3⟩;have HD:=lH (HD.o.trans (Nmd.bel b3));have HK:=lH (NmAt.mk (HK.o.mem.bel b3) HK.o.ok);have c0:=HK.o.mem.c0;have t1:=HTG.o _ _ HK.o.mem;have t2:=HTX.o _ _ HK.o.mem;clear b3;cases helb:lb.isEmpty)
 | (go_at_call 62;(with_reducible refine (cAt3.o _ _ HK.o.mem).mono ?_);rintro e1 w8 ⟨rfl,b3⟩;have HD:=lH (HD.o.trans (Nmd.bel b3));have HK:=lH (NmAt.mk (HK.o.mem.bel b3) HK.o.ok);clear b3)
 | (go_at_call 59;(with_reducible refine (cRo.o _ _ HK.o.mem).mono ?_);rintro e1 w9 ⟨rfl,b3⟩;have HD:=lH (HD.o.trans (Nmd.bel b3));have HK:=lH (NmAt.mk (HK.o.mem.bel b3) HK.o.ok);have c0:=HK.o.mem.c0;have t1:=HTG.o _ _ HK.o.mem;have t2:=HTX.o _ _ HK.o.mem;clear b3;skip)
 | (go_at_call 101;(with_reducible refine (cHo.o _ HK.o).mono ?_);rintro e1 w10 ⟨rfl,d3,k3⟩;have HD:=lH (HD.o.trans d3);have HK:=lH k3;have c0:=HK.o.mem.c0;have t1:=HTG.o _ _ HK.o.mem;have t2:=HTX.o _ _ HK.o.mem;clear d3 k3;cases he2:r2a.isEmpty)
 | (go_at_call 58;(with_reducible refine (cKo.o _).mono ?_);rintro e1 w11 ⟨rfl,b3⟩;have HD:=lH (HD.o.trans (Nmd.bel b3));have HK:=lH (NmAt.mk (HK.o.mem.bel b3) HK.o.ok);have c0:=HK.o.mem.c0;have t1:=HTG.o _ _ HK.o.mem;have t2:=HTX.o _ _ HK.o.mem;clear b3;cases kcont)
 | (go_at_call 102;(with_reducible refine (cCo.o _ HK.o).mono ?_);rintro e1 w12 ⟨rfl,d3,k3⟩;have HD:=lH (HD.o.trans d3);have HK:=lH k3;have c0:=HK.o.mem.c0;have t1:=HTG.o _ _ HK.o.mem;have t2:=HTX.o _ _ HK.o.mem;clear d3 k3;cases he3:q3a.isEmpty))
      all_goals
       go_ret
       have hRv:=HR0.o
       first
        | (simp [htg,he1,helb,hb12,he2,he3] at hRv;subst hRv;exact ⟨rfl,HD.o,HK.o⟩)
        | (simp [htg,helb,hb12,he2,he3] at hRv;subst hRv;exact ⟨rfl,HD.o,HK.o⟩)
        | (simp [htg,he1,helb,he2,he3] at hRv;subst hRv;exact ⟨rfl,HD.o,HK.o⟩)
        | (simp [htg,he1,helb,he2] at hRv;subst hRv;exact ⟨rfl,HD.o,HK.o⟩)
        | (simp [htg,helb,he2] at hRv;subst hRv;exact ⟨rfl,HD.o,HK.o⟩)
        | (simp [htg,helb,hb12,he2] at hRv;subst hRv;exact ⟨rfl,HD.o,HK.o⟩)
        | (simp [htg,helb,hb12] at hRv;subst hRv;exact ⟨rfl,HD.o,HK.o⟩)
        | (simp [htg,he1,helb] at hRv;subst hRv;exact ⟨rfl,HD.o,HK.o⟩)
        | (simp [htg,helb] at hRv;subst hRv;exact ⟨rfl,HD.o,HK.o⟩)
        | (simp [htg,he1] at hRv;subst hRv;exact ⟨rfl,HD.o,HK.o⟩)
        | (simp [htg] at hRv;subst hRv;exact ⟨rfl,HD.o,HK.o⟩)
   | false=>
     cases htg:tg.isEmpty
     all_goals
      go_enter Tryz.func60,Tryz.ntmps60
      go_wp2_with (first
 | (go_at_call 57;(with_reducible refine cUse.o.mono ?_);rintro e1 w1 ⟨rfl,d1,k1⟩;have HD:=lH d1;have HK1:=lH k1;have c2:=k1.c2;obtain ⟨ks,hS,hks⟩:=k1.had;have HS1:=lH hS;have HKS1:=lH hks;clear d1 k1 hS hks)
 | (with_reducible refine qJw rfl (.inr rfl) qQy kI0 HS1.o (p:Int) rfl rfl rfl ?_;intro w2 q2 g2 z2;have HK:=lH (HHIT.o _ _ _ HK1.o HKS1.o q2 g2);have HD:=lH (HD.o.trans (Nmd.had g2));have c0:=HK.o.mem.c0;have t1:=HTG.o _ _ HK.o.mem;have t2:=HTX.o _ _ HK.o.mem;clear q2 g2 z2)
 | (go_at_call 100;(with_reducible refine (cHid.o _ _ HK.o.mem).mono ?_);rintro e1 w3 ⟨rfl,b3⟩;have HD:=lH (HD.o.trans (Nmd.bel b3));have HK:=lH (NmAt.mk (HK.o.mem.bel b3) HK.o.ok);have c0:=HK.o.mem.c0;have t1:=HTG.o _ _ HK.o.mem;have t2:=HTX.o _ _ HK.o.mem;clear b3;cases hd)
 | (go_at_call 81;(with_reducible refine (cSq.o _).mono ?_);rintro e1 w4 ⟨rfl,b3⟩;have HD:=lH (HD.o.trans (Nmd.bel b3));have HK:=lH (NmAt.mk (HK.o.mem.bel b3) HK.o.ok);clear b3)
 | (go_at_call 61;(with_reducible refine (cLi2.o _ HK.o).mono ?_);rintro e1 w5 ⟨rfl,d3,k3⟩;have HD:=lH (HD.o.trans d3);have HK:=lH k3;have c0:=HK.o.mem.c0;have t1:=HTG.o _ _ HK.o.mem;have t2:=HTX.o _ _ HK.o.mem;clear d3 k3;cases he1:r1a.isEmpty)
 | (go_at_call 62;(with_reducible refine (cAt1.o _ _ HK.o.mem).mono ?_);rintro e1 w6 ⟨rfl,b3⟩;have HD:=lH (HD.o.trans (Nmd.bel b3));have HK:=lH (NmAt.mk (HK.o.mem.bel b3) HK.o.ok);have c0:=HK.o.mem.c0;have t1:=HTG.o _ _ HK.o.mem;have t2:=HTX.o _ _ HK.o.mem;clear b3;cases helb:lb.isEmpty)
 | (go_at_call 62;(with_reducible refine (cAt3.o _ _ HK.o.mem).mono ?_);rintro e1 w8 ⟨rfl,b3⟩;have HD:=lH (HD.o.trans (Nmd.bel b3));have HK:=lH (NmAt.mk (HK.o.mem.bel b3) HK.o.ok);clear b3)
 | (go_at_call 59;(with_reducible refine (cRo.o _ _ HK.o.mem).mono ?_);rintro e1 w9 ⟨rfl,b3⟩;have HD:=lH (HD.o.trans (Nmd.bel b3));have HK:=lH (NmAt.mk (HK.o.mem.bel b3) HK.o.ok);have c0:=HK.o.mem.c0;have t1:=HTG.o _ _ HK.o.mem;have t2:=HTX.o _ _ HK.o.mem;clear b3;skip)
 | (go_at_call 101;(with_reducible refine (cHo.o _ HK.o).mono ?_);rintro e1 w10 ⟨rfl,d3,k3⟩;have HD:=lH (HD.o.trans d3);have HK:=lH k3;have c0:=HK.o.mem.c0;have t1:=HTG.o _ _ HK.o.mem;have t2:=HTX.o _ _ HK.o.mem;clear d3 k3;cases he2:r2a.isEmpty)
 | (go_at_call 58;(with_reducible refine (cKo.o _).mono ?_);rintro e1 w11 ⟨rfl,b3⟩;have HD:=lH (HD.o.trans (Nmd.bel b3));have HK:=lH (NmAt.mk (HK.o.mem.bel b3) HK.o.ok);have c0:=HK.o.mem.c0;have t1:=HTG.o _ _ HK.o.mem;have t2:=HTX.o _ _ HK.o.mem;clear b3;cases kcont)
 | (go_at_call 102;(with_reducible refine (cCo.o _ HK.o).mono ?_);rintro e1 w12 ⟨rfl,d3,k3⟩;have HD:=lH (HD.o.trans d3);have HK:=lH k3;have c0:=HK.o.mem.c0;have t1:=HTG.o _ _ HK.o.mem;have t2:=HTX.o _ _ HK.o.mem;clear d3 k3;cases he3:q3a.isEmpty))
      all_goals
       go_ret
       have hRv:=HR0.o
       first
        | (simp [htg,he1,helb,hb12,he2,he3] at hRv;subst hRv;exact ⟨rfl,HD.o,HK.o⟩)
        | (simp [htg,helb,hb12,he2,he3] at hRv;subst hRv;exact ⟨rfl,HD.o,HK.o⟩)
        | (simp [htg,he1,helb,he2,he3] at hRv;subst hRv;exact ⟨rfl,HD.o,HK.o⟩)
        | (simp [htg,he1,helb,he2] at hRv;subst hRv;exact ⟨rfl,HD.o,HK.o⟩)
        | (simp [htg,helb,he2] at hRv;subst hRv;exact ⟨rfl,HD.o,HK.o⟩)
        | (simp [htg,helb,hb12,he2] at hRv;subst hRv;exact ⟨rfl,HD.o,HK.o⟩)
        | (simp [htg,helb,hb12] at hRv;subst hRv;exact ⟨rfl,HD.o,HK.o⟩)
        | (simp [htg,he1,helb] at hRv;subst hRv;exact ⟨rfl,HD.o,HK.o⟩)
        | (simp [htg,helb] at hRv;subst hRv;exact ⟨rfl,HD.o,HK.o⟩)
        | (simp [htg,he1] at hRv;subst hRv;exact ⟨rfl,HD.o,HK.o⟩)
        | (simp [htg] at hRv;subst hRv;exact ⟨rfl,HD.o,HK.o⟩)
end Go.Proofs.YtklbmkaomojciaaGreat

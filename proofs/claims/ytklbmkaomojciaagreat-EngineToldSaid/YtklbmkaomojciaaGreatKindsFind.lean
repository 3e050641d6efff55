/- The walks of the rest of chapter 4: Find, Tag, Has, and the document's answer. -/
import Derived.Test.YtklbmkaomojciaaGreatMem
import Derived.Test.YtklbmkaomojciaaGreatPlains
import Derived.Test.YtklbmkaomojciaaGreatProg
import Derived.WalkLawsBesides
import Derived.WalkSpells
namespace Go.Proofs.YtklbmkaomojciaaGreat
open Go.RowKit
structure KeyLaw (P:Program) (T:TypeId) {κ:Type} [DecidableEq κ] (enc:κ->Value):Prop where
 desc:∃ d,P.underlying T=some d/\(∀ a b,Instr.sameNow d (enc a) (enc b)=some (decide (a=b)))
 check:∀ k empty w,(Instr.checkKey empty 10000 T (enc k)).run P w=.ok () w
 same:∀ k,Instr.sameBits 10000 (enc k) (enc k)=true
def kI (n:Int):Value:=.int .i64 n
def kS (s:List UInt8):Value:=.string ⟨s.toArray⟩
theorem qDi (a b:List UInt8):((⟨a.toArray⟩:ByteArray)==⟨b.toArray⟩)=decide (a=b):=by
 show (a.toArray==b.toArray)=decide (a=b)
 by_cases h:a=b
 ·simp [h]
 ·simp [h]
theorem qVy {P:Program} {t:TypeId} {d:TypeDesc} (h:P.underlying t=some d) (w:World):(underlying t).run P w=.ok d w:=by
 simpa using run_underlying h w
theorem zHm {P:Program} {T:TypeId} (h:P.underlying T=some (.int .i64)) (k:Int) (empty:Bool) (w:World) (n:Nat):(Instr.checkKey empty (n+1) T (kI k)).run P w=.ok () w:=by
 simp only [Instr.checkKey,kI,Sem.run_bind,qVy h,Result.andThen_ok]
 rfl
theorem zGa {P:Program} {T:TypeId} (h:P.underlying T=some .string) (k:List UInt8) (empty:Bool) (w:World) (n:Nat):(Instr.checkKey empty (n+1) T (kS k)).run P w=.ok () w:=by
 simp only [Instr.checkKey,kS,Sem.run_bind,qVy h,Result.andThen_ok]
 rfl
theorem zQ0 {P:Program} {T:TypeId} (h:P.underlying T=some (.int .i64)):KeyLaw P T kI where
 desc:=⟨_,h,fun a b=>by simp [Instr.sameNow,kI];exact (Bool.beq_eq_decide_eq a b)⟩
 check:=fun k empty w=>zHm h k empty w 9999
 same:=fun k=>by rw [show (10000:Nat)=9999+1 from rfl];simp [Instr.sameBits,kI]
theorem keyStr {P:Program} {T:TypeId} (h:P.underlying T=some .string):KeyLaw P T kS where
 desc:=⟨_,h,fun a b=>by simp only [Instr.sameNow,kS,qDi]⟩
 check:=fun k empty w=>zGa h k empty w 9999
 same:=fun k=>by rw [show (10000:Nat)=9999+1 from rfl];simp only [Instr.sameBits,kS,qDi,decide_true]
section
variable {κ:Type} [DecidableEq κ]
def fnd (k:κ):List (κ×Value)->Nat->Option (Nat×Value)
 | [],_=>none
 | p::r,i=>if k=p.1 then some (i,p.2) else fnd k r (i+1)
theorem zB9 {k:κ} {l:List (κ×Value)} {i j:Nat} {v:Value} (h:fnd k l i=some (j,v)):i<=j/\∃ (hj:j - i<l.length),l[j - i]=(k,v):=by
 induction l generalizing i with
 | nil=>simp [fnd] at h
 | cons p r ih=>
   simp only [fnd] at h
   split at h
   ·rename_i e
    simp at h
    obtain ⟨rfl,rfl⟩:=h
    subst e
    exact ⟨by omega,by simp,by simp⟩
   ·obtain ⟨h1,h2,h3⟩:=ih h
    refine ⟨by omega,by simp;omega,?_⟩
    have:j - i=(j - (i+1))+1:=by omega
    simp only [this,List.getElem_cons_succ]
    exact h3
def qV7 (enc:κ->Value) (w:World) (r:Nat) (m:κ->Option Value):Prop:=
 ∃ (es:Array MapEntry) (clock:Nat) (kvs:List (κ×Value)),w.heap[r]?=some (.map es clock)/\es.toList.map (fun e=>(e.key,e.val))=kvs.map (fun p=>(enc p.1,p.2))/\∀ k,m k=(fnd k kvs 0).map (·.2)
theorem qV7.lt {enc:κ->Value} {w:World} {r:Nat} {m:κ->Option Value} (h:qV7 enc w r m):r<w.heap.size:=by
 obtain ⟨es,clock,kvs,h1,_⟩:=h
 exact (Array.getElem?_eq_some_iff.1 h1).1
theorem qV7.agree {enc:κ->Value} {w w':World} {r:Nat} {m:κ->Option Value} (h:qV7 enc w r m) (ha:w'.heap[r]?=w.heap[r]?):qV7 enc w' r m:=by
 obtain ⟨es,clock,kvs,h1,h2⟩:=h
 exact ⟨es,clock,kvs,ha.trans h1,h2⟩
theorem qV7.made (enc:κ->Value) (w:World):qV7 enc (w.alloc (.map #[] 0)) w.heap.size (fun _=>none):=
 ⟨#[],0,[],heap_alloc_new w _,rfl,fun _=>rfl⟩
theorem zV3 {enc:κ->Value} {d:TypeDesc} (hd:∀ a b,Instr.sameNow d (enc a) (enc b)=some (decide (a=b))) (k:κ) :
 ∀ (es:List MapEntry) (kvs:List (κ×Value)) (i:Nat),es.map (fun e=>(e.key,e.val))=kvs.map (fun p=>(enc p.1,p.2))->Instr.findNow d (enc k) es i=some (fnd k kvs i):=by
 intro es
 induction es with
 | nil=>intro kvs i h;cases kvs <;> simp_all [Instr.findNow,fnd]
 | cons e es ih=>
   intro kvs i h
   cases kvs with
   | nil=>simp at h
   | cons p kvs=>
     simp only [List.map_cons,List.cons.injEq,Prod.mk.injEq] at h
     obtain ⟨⟨h1,h2⟩,h3⟩:=h
     simp only [Instr.findNow,h1,hd,fnd]
     by_cases e:k=p.1
     ·simp [e,h2]
     ·simp [e,ih kvs (i+1) h3]
theorem qXo {P:Program} {T:TypeId} {enc:κ->Value} (L:KeyLaw P T enc) (k:κ) (es:List MapEntry) (kvs:List (κ×Value)) (h:es.map (fun e=>(e.key,e.val))=kvs.map (fun p=>(enc p.1,p.2))) (w:World) :
 (Instr.findKey T (enc k) es).run P w=.ok (fnd k kvs 0) w:=by
 obtain ⟨d,h1,h2⟩:=L.desc
 unfold Instr.findKey
 simp only [Sem.run_bind,qVy h1,Result.andThen_ok,zV3 h2 k es kvs 0 h]
 rfl
def upd (m:κ->Option Value) (k:κ) (v:Value):κ->Option Value:=fun x=>if x=k then some v else m x
theorem fnd_snoc (k x:κ) (v:Value) (l:List (κ×Value)) (i:Nat):fnd x (l++[(k,v)]) i=match fnd x l i with | some r=>some r | none=>if x=k then some (i+l.length,v) else none:=by
 induction l generalizing i with
 | nil=>simp [fnd]
 | cons p r ih=>
   simp only [List.cons_append,fnd]
   split
   ·rfl
   ·rw [ih (i+1)]
    split
    ·rfl
    ·simp only [Zm];congr 3;omega
theorem fnd_set (k x:κ) (v:Value) (l:List (κ×Value)) (i j:Nat) (hj:j<l.length) (he:l[j].1=k) (hfirst:fnd k l i=some (i+j,l[j].2)) :
 (fnd x (l.set j (k,v)) i).map (·.2)=if x=k then some v else (fnd x l i).map (·.2):=by
 induction l generalizing i j with
 | nil=>simp at hj
 | cons p r ih=>
   cases j with
   | zero=>
     simp only [List.getElem_cons_zero] at he
     simp only [Zf,fnd,he]
     split
     ·simp
     ·rfl
   | succ j=>
     simp only [List.getElem_cons_succ] at he hfirst
     simp only [Zg,fnd] at hfirst ⊢
     by_cases e1:k=p.1
     ·simp [e1] at hfirst
     ·simp only [e1,if_false] at hfirst
      by_cases e2:x=p.1
      ·have e3:¬ x=k:=fun e=>e1 (e▸e2)
       simp [e2,e2▸e3]
      ·simp only [e2,if_false]
       exact ih (i+1) j (by simpa using hj) he (by rw [hfirst];simp;omega)
theorem qGj {P:Program} {T K E:TypeId} {enc:κ->Value} (hT:P.underlying T=some (.map K E)) (L:KeyLaw P K enc) {w:World} {r:Nat} {m:κ->Option Value} (h:qV7 enc w r m) (k:κ) (v:Value) :
 ∃ w',(Instr.mapUpdate T (.map (some r)) (enc k) v).run P w=.ok () w'/\qV7 enc w' r (upd m k v)/\w.grownBy w' (some r)/\w'.heap.size=w.heap.size:=by
 obtain ⟨es,clock,kvs,h1,h2,h3⟩:=h
 have hlt:=(Array.getElem?_eq_some_iff.1 h1).1
 have hg:∀ o,w.grownBy { w with heap:=w.heap.setIfInBounds r o } (some r):=fun o=>
  ⟨rfl,rfl,rfl,by simp,fun b _ hne=>by
   show (w.heap.setIfInBounds r o)[b]?=_
   rw [Array.getElem?_setIfInBounds_ne]
   intro e;exact hne (by rw [e])⟩
 have hset:∀ o,(w.heap.setIfInBounds r o)[r]?=some o:=fun o=>by rw [Array.getElem?_setIfInBounds_self,if_pos hlt]
 have hlen:es.size=kvs.length:=by have:=congrArg List.length h2;simpa using this
 cases hf:fnd k kvs 0 with
 | none=>
   refine ⟨{ w with heap:=w.heap.setIfInBounds r (.map (es.push { key:=enc k,val:=v,born:=clock }) (clock+1)) },?_,?_,hg _,by simp⟩
   ·unfold Instr.mapUpdate
    simp only [Sem.run_bind,qVy hT,Result.andThen_ok,getObj,Sem.run,h1,L.check,qXo L k es.toList kvs h2,hf,setObj]
   ·refine ⟨_,_,kvs++[(k,v)],hset _,by simp [h2],fun x=>?_⟩
    rw [fnd_snoc]
    unfold upd
    by_cases e:x=k
    ·subst e;simp [hf]
    ·simp only [e,if_false,h3 x]
     cases fnd x kvs 0 <;> simp
 | some p=>
   obtain ⟨j,v0⟩:=p
   obtain ⟨_,hj,hjv⟩:=zB9 hf
   simp only [Nat.sub_zero] at hj hjv
   have hjes:j<es.size:=by omega
   have hkey:es[j].key=enc k:=by
    have hh:=congrArg (fun l:List (Value×Value)=>l[j]?) h2
    simp only [List.getElem?_map,Array.getElem?_toList,Array.getElem?_eq_getElem hjes,Zi hj,hjv] at hh
    simp at hh
    exact hh.1
   refine ⟨{ w with heap:=w.heap.setIfInBounds r (.map (es.modify j fun e=>{ e with key:=enc k,val:=v }) clock) },?_,?_,hg _,by simp⟩
   ·unfold Instr.mapUpdate
    simp only [Sem.run_bind,qVy hT,Result.andThen_ok,getObj,Sem.run,h1,L.check,qXo L k es.toList kvs h2,hf,setObj,Array.getElem?_eq_getElem hjes,Option.map_some,Option.getD_some,hkey,Instr.keyThatStays,L.same,if_true,Sem.run_pure,Result.andThen_ok]
   ·refine ⟨_,_,kvs.set j (k,v),hset _,?_,fun x=>?_⟩
    ·apply List.ext_getElem?
     intro n
     have hh:=congrArg (fun l:List (Value×Value)=>l[n]?) h2
     simp only [List.getElem?_map] at hh ⊢
     rw [Array.getElem?_toList,Array.getElem?_modify,List.getElem?_set]
     by_cases e:j=n
     ·subst e
      simp [Array.getElem?_eq_getElem hjes,hj]
     ·rw [if_neg e,if_neg e]
      simpa using hh
    ·rw [fnd_set k x v kvs 0 j hj (by rw [hjv]) (by rw [hf,hjv];simp)]
     unfold upd
     split
     ·rfl
     ·exact h3 x
theorem qVa {P:Program} {T K E:TypeId} {enc:κ->Value} (hT:P.underlying T=some (.map K E)) (L:KeyLaw P K enc) {i:TypeInfo} {z:Value} (hi:P.info? E=some i) (hz:i.zero=some z)
 {w:World} {r:Nat} {m:κ->Option Value} (h:qV7 enc w r m) (k:κ) (ok:Bool) :
 (Instr.lookup T (.map (some r)) (enc k) ok).run P w=.ok (if ok then .tuple #[(m k).getD z,.bool (m k).isSome] else (m k).getD z) w:=by
 obtain ⟨es,clock,kvs,h1,h2,h3⟩:=h
 unfold Instr.lookup
 simp only [Sem.run_bind,qVy hT,Result.andThen_ok,getObj,Sem.run,h1,L.check,h3 k]
 cases hf:fnd k kvs 0 with
 | none=>cases ok <;> simp [zeroValue,typeInfo,hi,hz,qXo L k es.toList kvs h2,hf]
 | some p=>cases ok <;> simp [qXo L k es.toList kvs h2,hf]
theorem zZ1 {P:Program} {w:World} {ops:Array Oper} {rest:List Oper} {o:Oper} {a:Act} {Q:Exit->Act->World->Prop} (hg:o.guard=none)
 {T:TypeId} {x k v:Operand} (ho:o.op=.insert T x k v∨o.op=.mapUpdate T x k v) {K E:TypeId} {enc:κ->Value} (hT:P.underlying T=some (.map K E)) (L:KeyLaw P K enc)
 {r:Nat} {m:κ->Option Value} (h:qV7 enc w r m) (key:κ) (hx:a.eval x=.map (some r)) (hk:a.eval k=enc key)
 (hc:∀ w',qV7 enc w' r (upd m key (a.eval v))->w.grownBy w' (some r)->w'.heap.size=w.heap.size->wpList P ops Q rest (a.put o.dst undef) w'):wpList P ops Q (o::rest) a w:=by
 refine wpList_plain hg fun K hK=>?_
 obtain ⟨w',h1,h2,h3,h4⟩:=qGj hT L h key (a.eval v)
 unfold Oper.wp execOp
 rcases ho with ho | ho <;>
 ·simp only [ho,Sem.run_bind,hx,hk,h1,Result.andThen_ok]
  exact hK _ _ (hc w' h2 h3 h4)
theorem zQj {P:Program} {w:World} {ops:Array Oper} {rest:List Oper} {o:Oper} {a:Act} {Q:Exit->Act->World->Prop} (hg:o.guard=none)
 {T:TypeId} {x k:Operand} {ok:Bool} (ho:o.op=.lookup T x k ok) {K E:TypeId} {enc:κ->Value} (hT:P.underlying T=some (.map K E)) (L:KeyLaw P K enc) {i:TypeInfo} {z:Value} (hi:P.info? E=some i) (hz:i.zero=some z)
 {r:Nat} {m:κ->Option Value} (h:qV7 enc w r m) (key:κ) (hx:a.eval x=.map (some r)) (hk:a.eval k=enc key)
 (hc:wpList P ops Q rest (a.put o.dst (if ok then .tuple #[(m key).getD z,.bool (m key).isSome] else (m key).getD z)) w):wpList P ops Q (o::rest) a w:=by
 refine wpList_plain hg fun K hK=>?_
 have h1:=qVa hT L hi hz h key ok
 unfold Oper.wp execOp
 simp only [ho,Sem.run_bind,hx,hk,h1,Result.andThen_ok]
 exact hK _ _ hc
end
end Go.Proofs.YtklbmkaomojciaaGreat
set_option maxRecDepth 100000
set_option maxHeartbeats 1000000
namespace Go.Proofs.YtklbmkaomojciaaGreat
open Go.RowKit
theorem und_str:Tryz.prog.underlying 9=some .string:=by kernel_rfl
theorem strKey:KeyLaw Tryz.prog 9 kS:=keyStr und_str
theorem info_int:(Tryz.prog.info? 3).map (fun i=>(i.zero,i.size,i.bytes))=some (some (.int .i64 0),1,8):=by kernel_rfl
theorem qHa:Tryz.prog.underlying 113=some (.map 9 3):=by kernel_rfl
theorem zXs (a0 a1 a2 a3 a4 a5 a6:Value) (w:World):(Instr.field 45 (.agg #[a0,a1,a2,a3,a4,a5,a6]) 0).run Tryz.prog w=.ok a0 w:=by kernel_rfl
theorem upd_eq {κ:Type} [DecidableEq κ] {enc:κ->Value} {m m':κ->Option Value} (h:m=m') {w:World} {r:Nat} (hm:qV7 enc w r m):qV7 enc w r m':=h▸hm
theorem tagE:(upd (upd (upd (upd (upd (upd (upd (upd (upd (upd (upd (upd (fun _=>none) [109,97,105,110] (.int .i64 2)) [110,97,118] (.int .i64 3)) [104,49] (.int .i64 4)) [104,50] (.int .i64 4)) [104,51] (.int .i64 4)) [117,108] (.int .i64 5)) [108,105] (.int .i64 6)) [98,117,116,116,111,110] (.int .i64 8)) [116,97,98,108,101] (.int .i64 13)) [116,114] (.int .i64 14)) [116,100] (.int .i64 15)) [100,105,97,108,111,103] (.int .i64 17))=fun x:Str=>(tagM tags x).map (.int .i64):=by
 funext x
 by_cases h0:x=[109,97,105,110]
 ·subst h0;rfl
 by_cases h1:x=[110,97,118]
 ·subst h1;rfl
 by_cases h2:x=[104,49]
 ·subst h2;rfl
 by_cases h3:x=[104,50]
 ·subst h3;rfl
 by_cases h4:x=[104,51]
 ·subst h4;rfl
 by_cases h5:x=[117,108]
 ·subst h5;rfl
 by_cases h6:x=[108,105]
 ·subst h6;rfl
 by_cases h7:x=[98,117,116,116,111,110]
 ·subst h7;rfl
 by_cases h8:x=[116,97,98,108,101]
 ·subst h8;rfl
 by_cases h9:x=[116,114]
 ·subst h9;rfl
 by_cases h10:x=[116,100]
 ·subst h10;rfl
 by_cases h11:x=[100,105,97,108,111,103]
 ·subst h11;rfl
 simp only [upd,tagM,tags,h0,h1,h2,h3,h4,h5,h6,h7,h8,h9,h10,h11,if_false,Option.map_none]
theorem zHu (s:Str) (w:World) :
 Calls Tryz.prog 149 #[.string ⟨s.toArray⟩] w (Rb (.int .i64 (qWw s)) w):=by
 obtain ⟨i0,hi,hz,_,_⟩:=info_parts info_int
 have hmm:=@run_makeMap Tryz.prog
 cases ht:tagM tags s
 all_goals
  first | have R:=lH (zWx ht) | have R:=lH (zVp ht)
  go_enter Tryz.func149,Tryz.ntmps149
  have M0:=lH (qV7.made kS w)
  have B0:=lH ((Below.refl w.heap.size w).alloc (Zb _) (.map #[] 0))
  have S0:w.heap.size<=(w.alloc (.map #[] 0)).heap.size:=by simp
  go_wp2_with (first
 | ((with_reducible refine zQj rfl rfl qHa strKey hi hz (m:=fun x=>(tagM tags x).map (.int .i64)) (r:=w.heap.size) ?_ s rfl rfl ?_);exact upd_eq tagE M0.o)
 | (with_reducible refine zZ1 rfl (.inl rfl) qHa strKey (Hi.o (by assumption)) _ rfl rfl ?_;intro w1 m1 g1 s1;have M1:=lH m1;have B1:=lH ((Hi.o B0).grown g1 S0 (by simp));clear M0 B0 m1;rw [<- s1] at S0;clear g1 s1;revert M1 B1;intro M0 B0))
  go_ret
  exact ⟨qQr R.o,B0.o⟩
end Go.Proofs.YtklbmkaomojciaaGreat
set_option maxRecDepth 100000
set_option maxHeartbeats 4000000
namespace Go.Proofs.YtklbmkaomojciaaGreat
open Go.RowKit
theorem qXc (r:Int) (w:World) :
 Calls Tryz.prog 58 #[.int .i64 r] w (Rb (.agg #[.string ⟨(kOf r).name.toArray⟩,.bool (kOf r).content,.bool (kOf r).leaf,.bool (kOf r).level,.bool (kOf r).checked,.bool (kOf r).named,.int .i64 (kOf r).need]) w):=by
 have hr:(r=1∨r=2∨r=3∨r=4∨r=5∨r=6∨r=7∨r=8∨r=9∨r=10∨r=11∨r=12∨r=13∨r=14∨r=15∨r=16∨r=17∨r=18)∨r<1∨18<r:=by omega
 rcases hr with (rfl | rfl | rfl | rfl | rfl | rfl | rfl | rfl | rfl | rfl | rfl | rfl | rfl | rfl | rfl | rfl | rfl | rfl) | h | h
 all_goals
  try rw [kOf_out (by omega)]
  go_enter Tryz.func58,Tryz.ntmps58
  go_wp2
  refine bodyPost_ret (v:=_) (by simp [results,Tryz.results58,go_sem];decide) rfl ⟨rfl,?_⟩
  exact (((Below.refl _ _).alloc (Zb _) _))
end Go.Proofs.YtklbmkaomojciaaGreat
set_option maxRecDepth 100000
namespace Go.Proofs.YtklbmkaomojciaaGreat
open Go.RowKit
theorem find_sp (s:Str) (h:s=sNone∨s=zJf∨s=[]∨s=zK3∨s=qY4) (w:World) :
 Calls Tryz.prog 147 #[.string ⟨s.toArray⟩] w (Rb (.int .i64 (qVx s)) w):=by
 have e1:qVx sNone=0:=rfl
 have e2:qVx zJf=0:=rfl
 have e3:qVx [] = -1:=rfl
 have e4:qVx zK3 = -1:=rfl
 have e5:qVx qY4 = -1:=rfl
 rcases h with rfl | rfl | rfl | rfl | rfl
 all_goals
  first | rw [e1] | rw [e2] | rw [e3] | rw [e4] | rw [e5]
  clear e1 e2 e3 e4 e5
  try unfold sNone
  try unfold zJf
  try unfold zK3
  try unfold qY4
  go_enter Tryz.func147,Tryz.ntmps147
  go_wp2
  go_ret
  exact ⟨rfl,Below.refl _ _⟩
theorem zVv (s:Str) (w:World) :
 Calls Tryz.prog 147 #[.string ⟨s.toArray⟩] w (Rb (.int .i64 (qVx s)) w):=by
 by_cases h:s=sNone∨s=zJf∨s=[]∨s=zK3∨s=qY4
 ·exact find_sp s h w
 ·have n1:s≠sNone:=fun e=>h (.inl e)
  have n2:s≠zJf:=fun e=>h (.inr (.inl e))
  have n3:s≠[]:=fun e=>h (.inr (.inr (.inl e)))
  have n4:s≠zK3:=fun e=>h (.inr (.inr (.inr (.inl e))))
  have n5:s≠qY4:=fun e=>h (.inr (.inr (.inr (.inr e))))
  have b1:(s==[110,111,110,101])=false:=by simpa [sNone] using n1
  have b2:(s==[112,114,101,115,101,110,116,97,116,105,111,110])=false:=by simpa [zJf] using n2
  have b3:s.isEmpty=false:=by simpa using n3
  have b4:(s==[116,101,120,116])=false:=by simpa [zK3] using n4
  have b5:(s==[103,101,110,101,114,105,99])=false:=by simpa [qY4] using n5
  have N1:=lH n1;have N2:=lH n2;have N3:=lH n3;have N4:=lH n4;have N5:=lH n5
  clear n1 n2 n3 n4 n5 h
  go_enter Tryz.func147,Tryz.ntmps147
  go_wp2
  go_loopw [12] (fun i wr=>∃ k:Nat,k<=19/\i=.int .i64 k/\(∀ j:Nat,j<k->(kOf j).name≠s)/\Below w.heap.size w wr) (fun i _=>19 - (intOf i).toNat)
  case atStart=>exact ⟨0,by omega,rfl,by omega,Below.refl _ _⟩
  case round=>
   obtain ⟨k,hk,rfl,hn,hB⟩:=hrel
   have HN:=lH hn
   have HB:=lH hB
   clear hn hB
   by_cases hlt:k<19
   ·have kc:=lH (qXc k)
    have hfl:=zXs
    by_cases hx:(kOf k).name=s
    ·have R:=lH (zBz (by omega) (by omega) hx N3.o N4.o N5.o)
     have hb:((kOf k).name==s)=true:=by simpa using hx
     clear hx
     go_wp2_with (go_at_call 58;((with_reducible refine (kc.o _).mono ?_);rintro e w1 ⟨rfl,hb1⟩;have HB1:=lH (HB.o.trans (hb1.mono HB.o.size));clear hb1))
     go_ret
     exact ⟨qQr R.o.symm,HB1.o⟩
    ·have hb:((kOf k).name==s)=false:=by simpa using hx
     have HX:=lH hx
     clear hx
     go_wp2_with (go_at_call 58;((with_reducible refine (kc.o _).mono ?_);rintro e w1 ⟨rfl,hb1⟩;have HB1:=lH (HB.o.trans (hb1.mono HB.o.size));clear hb1))
     go_roundw
     case rel=>
      refine ⟨k+1,by omega,by go_num,fun j hj=>?_,HB1.o⟩
      by_cases e:j<k
      ·exact HN.o j e
      ·obtain rfl:j=k:=by omega
       exact HX.o
     case measure=>simp [intOf];omega
   ·go_wp2
    go_ret
    exact ⟨qQr (findM_no (fun r _ hr _=>HN.o r (by omega)) N1.o N2.o).symm,HB.o⟩
end Go.Proofs.YtklbmkaomojciaaGreat

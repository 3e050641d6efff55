/- The walks of the rest of chapter 4: Find, Tag, Has, and the document's answer. -/
import Derived.Test.YtkhkbifdakikcaaGreatDoorMem
import Derived.Test.YtkhkbifdakikcaaGreatDoorPlains
import Derived.Test.YtkhkbifdakikcaaGreatDoorProg
import Derived.WalkLawsBesides
import Derived.WalkSpells
namespace Go.Proofs.YtkhkbifdakikcaaGreatDoor
open Go.RowKit
variable {a:Act} {ops:Array Oper} {Q:Exit->Act->World->Prop} {rest:List Oper} {r:Nat} {o:Oper} {k x:Operand} {P:Program} {E K T:TypeId} {z:Value} {w:World}
structure KeyLaw (P:Program) (T:TypeId) {κ:Type} [DecidableEq κ] (enc:κ->Value):Prop where
 desc:∃ d,P.underlying T=some d/\(∀ a b,Instr.sameNow d (enc a) (enc b)=some (decide (a=b)))
 check:∀ k empty w,(Instr.checkKey empty 10000 T (enc k)).run P w=.ok () w
 same:∀ k,Instr.sameBits 10000 (enc k) (enc k)=true
def kI (n:Int):Value:=.int .i64 n
def kS (s:List UInt8):Value:=.string ⟨s.toArray⟩
theorem qFv (a b:List UInt8):((⟨a.toArray⟩:ByteArray)==⟨b.toArray⟩)=decide (a=b):=by
 show (a.toArray==b.toArray)=decide (a=b);by_cases h:a=b
 ·simp [h]
 ·simp [h]
theorem qV3 {t:TypeId} {d:TypeDesc} (h:P.underlying t=some d) (w:World):(underlying t).run P w=.ok d w:=by
 simpa using run_underlying h w
theorem zF5 (h:P.underlying T=some (.int .i64)) (k:Int) (e:Bool) (w:World) (n:Nat):(Instr.checkKey e (n+1) T (kI k)).run P w=.ok () w:=by
 simp only [Instr.checkKey,kI,Sem.run_bind,qV3 h,Result.andThen_ok];rfl
theorem zHx (h:P.underlying T=some .string) (k:List UInt8) (e:Bool) (w:World) (n:Nat):(Instr.checkKey e (n+1) T (kS k)).run P w=.ok () w:=by
 simp only [Instr.checkKey,kS,Sem.run_bind,qV3 h,Result.andThen_ok];rfl
theorem zZs (h:P.underlying T=some (.int .i64)):KeyLaw P T kI where
 desc:=⟨_,h,fun a b=>by simp [Instr.sameNow,kI];exact (Bool.beq_eq_decide_eq a b)⟩
 check:=fun k e w=>zF5 h k e w 9999
 same:=fun k=>by rw [show (10000:Nat)=9999+1 from rfl];simp [Instr.sameBits,kI]
theorem keyStr (h:P.underlying T=some .string):KeyLaw P T kS where
 desc:=⟨_,h,fun a b=>by simp only [Instr.sameNow,kS,qFv]⟩
 check:=fun k e w=>zHx h k e w 9999
 same:=fun k=>by rw [show (10000:Nat)=9999+1 from rfl];simp only [Instr.sameBits,kS,qFv,decide_true]
section
variable {κ:Type} [DecidableEq κ]
def fnd (k:κ):List (κ×Value)->Nat->Option (Nat×Value)
 | [],_=>none
 | p::r,i=>if k=p.1 then some (i,p.2) else fnd k r (i+1)
theorem zHu {k:κ} {l:List (κ×Value)} {i j:Nat} {v:Value} (h:fnd k l i=some (j,v)):i<=j/\∃ (d:j - i<l.length),l[j - i]=(k,v):=by
 induction l generalizing i with
 | nil=>simp [fnd] at h
 | cons p r I=>
   simp only [fnd] at h;split at h
   ·rename_i e;simp at h;obtain ⟨rfl,rfl⟩:=h;subst e;exact ⟨by omega,by simp,by simp⟩
   ·obtain ⟨b,c,H⟩:=I h;refine ⟨by omega,by simp;omega,?_⟩;have:j - i=(j - (i+1))+1:=(by omega);simp only [this,List.getElem_cons_succ];exact H
def qWj (enc:κ->Value) (w:World) (r:Nat) (m:κ->Option Value):Prop:=
 ∃ (es:Array MapEntry) (clock:Nat) (kvs:List (κ×Value)),w.heap[r]?=some (.map es clock)/\es.toList.map (fun e=>(e.key,e.val))=kvs.map (fun p=>(enc p.1,p.2))/\∀ k,m k=(fnd k kvs 0).map (·.2)
theorem qWj.lt {enc:κ->Value} {m:κ->Option Value} (h:qWj enc w r m):r<w.heap.size:=by
 obtain ⟨e,c,s,H,_⟩:=h;exact (Array.getElem?_eq_some_iff.1 H).1
theorem qWj.agree {enc:κ->Value} {w':World} {m:κ->Option Value} (h:qWj enc w r m) (ha:w'.heap[r]?=w.heap[r]?):qWj enc w' r m:=by
 obtain ⟨e,c,s,H,b⟩:=h;exact ⟨e,c,s,ha.trans H,b⟩
theorem qWj.made (enc:κ->Value) (w:World):qWj enc (w.alloc (.map #[] 0)) w.heap.size (fun _=>none):=
 ⟨#[],0,[],heap_alloc_new w _,rfl,fun _=>rfl⟩
theorem zBa {enc:κ->Value} {d:TypeDesc} (hd:∀ a b,Instr.sameNow d (enc a) (enc b)=some (decide (a=b))) (k:κ) :
 ∀ (c:List MapEntry) (s:List (κ×Value)) (i:Nat),c.map (fun e=>(e.key,e.val))=s.map (fun p=>(enc p.1,p.2))->Instr.findNow d (enc k) c i=some (fnd k s i):=by
 intro c;induction c with
 | nil=>intro s i h;cases s <;> simp_all [Instr.findNow,fnd]
 | cons e c I=>
   intro s i h;cases s with
   | nil=>simp at h
   | cons p s=>
     simp only [List.map_cons,List.cons.injEq,Prod.mk.injEq] at h;obtain ⟨⟨H,f⟩,g⟩:=h;simp only [Instr.findNow,H,hd,fnd];by_cases e:k=p.1
     ·simp [e,f]
     ·simp [e,I s (i+1) g]
theorem qXv {enc:κ->Value} (L:KeyLaw P T enc) (k:κ) (s:List MapEntry) (b:List (κ×Value)) (h:s.map (fun e=>(e.key,e.val))=b.map (fun p=>(enc p.1,p.2))) (w:World) :
 (Instr.findKey T (enc k) s).run P w=.ok (fnd k b 0) w:=by
 obtain ⟨d,H,c⟩:=L.desc;unfold Instr.findKey;simp only [Sem.run_bind,qV3 H,Result.andThen_ok,zBa c k s b 0 h];rfl
def upd (m:κ->Option Value) (k:κ) (v:Value):κ->Option Value:=fun x=>if x=k then some v else m x
theorem fnd_snoc (k x:κ) (v:Value) (l:List (κ×Value)) (i:Nat):fnd x (l++[(k,v)]) i=match fnd x l i with | some r=>some r | none=>if x=k then some (i+l.length,v) else none:=by
 induction l generalizing i with
 | nil=>simp [fnd]
 | cons p r I=>
   simp only [List.cons_append,fnd];split
   ·rfl
   ·rw [I (i+1)];split
    ·rfl
    ·simp only [Zm];congr 3;omega
theorem fnd_set (k x:κ) (v:Value) (l:List (κ×Value)) (i j:Nat) (d:j<l.length) (H:l[j].1=k) (h:fnd k l i=some (i+j,l[j].2)) :
 (fnd x (l.set j (k,v)) i).map (·.2)=if x=k then some v else (fnd x l i).map (·.2):=by
 induction l generalizing i j with
 | nil=>simp at d
 | cons p r I=>
   cases j with
   | zero=>
     simp only [List.getElem_cons_zero] at H;simp only [Zf,fnd,H];split
     ·simp
     ·rfl
   | succ j=>
     simp only [List.getElem_cons_succ] at H h;simp only [Zg,fnd] at h ⊢;by_cases c:k=p.1
     ·simp [c] at h
     ·simp only [c,if_false] at h;by_cases b:x=p.1
      ·have f:¬ x=k:=fun e=>c (e▸b);simp [b,b▸f]
      ·simp only [b,if_false];exact I (i+1) j (by simpa using d) H (by rw [h];simp;omega)
theorem qG6 {enc:κ->Value} (y:P.underlying T=some (.map K E)) (L:KeyLaw P K enc) {m:κ->Option Value} (h:qWj enc w r m) (k:κ) (v:Value) :
 ∃ w',(Instr.mapUpdate T (.map (some r)) (enc k) v).run P w=.ok () w'/\qWj enc w' r (upd m k v)/\w.grownBy w' (some r)/\w'.heap.size=w.heap.size:=by
 obtain ⟨c,C,s,q,H,u⟩:=h;have D:=(Array.getElem?_eq_some_iff.1 q).1;have hg:∀ o,w.grownBy { w with heap:=w.heap.setIfInBounds r o } (some r):=fun o=>
  ⟨rfl,rfl,rfl,by simp,fun b _ F=>by
   show (w.heap.setIfInBounds r o)[b]?=_;rw [Array.getElem?_setIfInBounds_ne];intro e;exact F (by rw [e])⟩
 have A:∀ o,(w.heap.setIfInBounds r o)[r]?=some o:=fun o=>by rw [Array.getElem?_setIfInBounds_self,if_pos D]
 have G:c.size=s.length:=by have:=congrArg List.length H;simpa using this
 cases f:fnd k s 0 with
 | none=>
   refine ⟨{ w with heap:=w.heap.setIfInBounds r (.map (c.push { key:=enc k,val:=v,born:=C }) (C+1)) },?_,?_,hg _,by simp⟩
   ·unfold Instr.mapUpdate;simp only [Sem.run_bind,qV3 y,Result.andThen_ok,getObj,Sem.run,q,L.check,qXv L k c.toList s H,f,setObj]
   ·refine ⟨_,_,s++[(k,v)],A _,by simp [H],fun x=>?_⟩;rw [fnd_snoc];unfold upd;by_cases e:x=k
    ·subst e;simp [f]
    ·simp only [e,if_false,u x];cases fnd x s 0 <;> simp
 | some p=>
   obtain ⟨j,V⟩:=p;obtain ⟨_,g,i⟩:=zHu f;simp only [Nat.sub_zero] at g i;have t:j<c.size:=(by omega);have B:c[j].key=enc k:=by
    have d:=congrArg (fun l:List (Value×Value)=>l[j]?) H;simp only [List.getElem?_map,Array.getElem?_toList,Array.getElem?_eq_getElem t,Zi g,i] at d;simp at d;exact d.1
   refine ⟨{ w with heap:=w.heap.setIfInBounds r (.map (c.modify j fun e=>{ e with key:=enc k,val:=v }) C) },?_,?_,hg _,by simp⟩
   ·unfold Instr.mapUpdate;simp only [Sem.run_bind,qV3 y,Result.andThen_ok,getObj,Sem.run,q,L.check,qXv L k c.toList s H,f,setObj,Array.getElem?_eq_getElem t,Option.map_some,Option.getD_some,B,Instr.keyThatStays,L.same,if_true,Sem.run_pure,Result.andThen_ok]
   ·refine ⟨_,_,s.set j (k,v),A _,?_,fun x=>?_⟩
    ·apply List.ext_getElem?;intro n;have d:=congrArg (fun l:List (Value×Value)=>l[n]?) H;simp only [List.getElem?_map] at d ⊢;rw [Array.getElem?_toList,Array.getElem?_modify,List.getElem?_set];by_cases e:j=n
     ·subst e;simp [Array.getElem?_eq_getElem t,g]
     ·rw [if_neg e,if_neg e];simpa using d
    ·rw [fnd_set k x v s 0 j g (by rw [i]) (by rw [f,i];simp)];unfold upd;split
     ·rfl
     ·exact u x
theorem qY5 {enc:κ->Value} (d:P.underlying T=some (.map K E)) (L:KeyLaw P K enc) {i:TypeInfo} (g:P.info? E=some i) (j:i.zero=some z)
 {m:κ->Option Value} (h:qWj enc w r m) (k:κ) (ok:Bool) :
 (Instr.lookup T (.map (some r)) (enc k) ok).run P w=.ok (if ok then .tuple #[(m k).getD z,.bool (m k).isSome] else (m k).getD z) w:=by
 obtain ⟨e,C,s,b,H,c⟩:=h;unfold Instr.lookup;simp only [Sem.run_bind,qV3 d,Result.andThen_ok,getObj,Sem.run,b,L.check,c k];cases f:fnd k s 0 with
 | none=>cases ok <;> simp [zeroValue,typeInfo,g,j,qXv L k e.toList s H,f]
 | some p=>cases ok <;> simp [qXv L k e.toList s H,f]
theorem zJv (hg:o.guard=none)
 {v:Operand} (H:o.op=.insert T x k v∨o.op=.mapUpdate T x k v) {enc:κ->Value} (g:P.underlying T=some (.map K E)) (L:KeyLaw P K enc)
 {m:κ->Option Value} (h:qWj enc w r m) (y:κ) (l:a.eval x=.map (some r)) (j:a.eval k=enc y)
 (i:∀ w',qWj enc w' r (upd m y (a.eval v))->w.grownBy w' (some r)->w'.heap.size=w.heap.size->wpList P ops Q rest (a.put o.dst undef) w'):wpList P ops Q (o::rest) a w:=by
 refine wpList_plain hg fun K f=>?_;obtain ⟨w',b,c,d,e⟩:=qG6 g L h y (a.eval v);unfold Oper.wp execOp;rcases H with H | H <;>
 ·simp only [H,Sem.run_bind,l,j,b,Result.andThen_ok];exact f _ _ (i w' c d e)
theorem zZm (hg:o.guard=none)
 {ok:Bool} (g:o.op=.lookup T x k ok) {enc:κ->Value} (c:P.underlying T=some (.map K E)) (L:KeyLaw P K enc) {i:TypeInfo} (e:P.info? E=some i) (l:i.zero=some z)
 {m:κ->Option Value} (h:qWj enc w r m) (y:κ) (j:a.eval x=.map (some r)) (f:a.eval k=enc y)
 (d:wpList P ops Q rest (a.put o.dst (if ok then .tuple #[(m y).getD z,.bool (m y).isSome] else (m y).getD z)) w):wpList P ops Q (o::rest) a w:=by
 refine wpList_plain hg fun K b=>?_;have H:=qY5 c L e l h y ok;unfold Oper.wp execOp;simp only [g,Sem.run_bind,j,f,H,Result.andThen_ok];exact b _ _ d
end
set_option maxRecDepth 100000
set_option maxHeartbeats 1000000
theorem und_str:Tryz.prog.underlying 9=some .string:=by kernel_rfl
theorem strKey:KeyLaw Tryz.prog 9 kS:=keyStr und_str
theorem info_int:(Tryz.prog.info? 3).map (fun i=>(i.zero,i.size,i.bytes))=some (some (.int .i64 0),1,8):=by kernel_rfl
theorem qHk:Tryz.prog.underlying 175=some (.map 9 3):=by kernel_rfl
theorem zX4 (A b c d e f g:Value) (w:World):(Instr.field 57 (.agg #[A,b,c,d,e,f,g]) 0).run Tryz.prog w=.ok A w:=by kernel_rfl
theorem upd_eq {κ:Type} [DecidableEq κ] {enc:κ->Value} {m M:κ->Option Value} (h:m=M) (hm:qWj enc w r m):qWj enc w r M:=h▸hm
theorem tagE:(upd (upd (upd (upd (upd (upd (upd (upd (upd (upd (upd (upd (fun _=>none) [109,97,105,110] (.int .i64 2)) [110,97,118] (.int .i64 3)) [104,49] (.int .i64 4)) [104,50] (.int .i64 4)) [104,51] (.int .i64 4)) [117,108] (.int .i64 5)) [108,105] (.int .i64 6)) [98,117,116,116,111,110] (.int .i64 8)) [116,97,98,108,101] (.int .i64 13)) [116,114] (.int .i64 14)) [116,100] (.int .i64 15)) [100,105,97,108,111,103] (.int .i64 17))=fun x:Str=>(tagM tags x).map (.int .i64):=by
 funext x;by_cases h:x=[109,97,105,110]
 ·subst h;rfl
 by_cases H:x=[110,97,118]
 ·subst H;rfl
 by_cases d:x=[104,49]
 ·subst d;rfl
 by_cases e:x=[104,50]
 ·subst e;rfl
 by_cases f:x=[104,51]
 ·subst f;rfl
 by_cases g:x=[117,108]
 ·subst g;rfl
 by_cases i:x=[108,105]
 ·subst i;rfl
 by_cases j:x=[98,117,116,116,111,110]
 ·subst j;rfl
 by_cases l:x=[116,97,98,108,101]
 ·subst l;rfl
 by_cases m:x=[116,114]
 ·subst m;rfl
 by_cases b:x=[116,100]
 ·subst b;rfl
 by_cases c:x=[100,105,97,108,111,103]
 ·subst c;rfl
 simp only [upd,tagM,tags,h,H,d,e,f,g,i,j,l,m,b,c,if_false,Option.map_none]
theorem zGq (s:Str) (w:World) :
 Calls Tryz.prog 69 #[.string ⟨s.toArray⟩] w (Rb (.int .i64 (qVg s)) w):=by
 obtain ⟨i,H,e,_,_⟩:=info_parts info_int;have f:=@run_makeMap Tryz.prog;cases h:tagM tags s;all_goals
  first | have R:=lH (zBx h) | have R:=lH (zBp h)
  go_enter Tryz.func69,Tryz.ntmps69
  have M:=lH (qWj.made kS w)
  have B:=lH ((Below.refl w.heap.size w).alloc (Zb _) (.map #[] 0))
  have S:w.heap.size<=(w.alloc (.map #[] 0)).heap.size:=by simp
  go_wp2_with (first
 | ((with_reducible refine zZm rfl rfl qHk strKey H e (m:=fun x=>(tagM tags x).map (.int .i64)) (r:=w.heap.size) ?_ s rfl rfl ?_);exact upd_eq tagE M.o)
 | (with_reducible refine zJv rfl (.inl rfl) qHk strKey (Hi.o (by assumption)) _ rfl rfl ?_;intro W m g b;have d:=lH m;have c:=lH ((Hi.o B).grown g S (by simp));clear M B m;rw [<- b] at S;clear g b;revert d c;intro M B))
  go_ret
  exact ⟨qQr R.o,B.o⟩
set_option maxRecDepth 100000
set_option maxHeartbeats 4000000
theorem qKt (r:Int) (w:World) :
 Calls Tryz.prog 15 #[.int .i64 r] w (Rb (.agg #[.string ⟨(kOf r).name.toArray⟩,.bool (kOf r).content,.bool (kOf r).leaf,.bool (kOf r).level,.bool (kOf r).checked,.bool (kOf r).named,.int .i64 (kOf r).need]) w):=by
 have H:(r=1∨r=2∨r=3∨r=4∨r=5∨r=6∨r=7∨r=8∨r=9∨r=10∨r=11∨r=12∨r=13∨r=14∨r=15∨r=16∨r=17∨r=18)∨r<1∨18<r:=by omega
 rcases H with (rfl | rfl | rfl | rfl | rfl | rfl | rfl | rfl | rfl | rfl | rfl | rfl | rfl | rfl | rfl | rfl | rfl | rfl) | h | h;all_goals
  try rw [kOf_out (by omega)]
  go_enter Tryz.func15,Tryz.ntmps15
  go_wp2
  refine bodyPost_ret (v:=_) (by simp [results,Tryz.results15,go_sem];decide) rfl ⟨rfl,?_⟩
  exact (((Below.refl _ _).alloc (Zb _) _))
set_option maxRecDepth 100000
theorem find_sp (s:Str) (h:s=sNone∨s=zK6∨s=[]∨s=zYt∨s=qVj) (w:World) :
 Calls Tryz.prog 66 #[.string ⟨s.toArray⟩] w (Rb (.int .i64 (qVe s)) w):=by
 have e:qVe sNone=0:=rfl;have b:qVe zK6=0:=rfl;have c:qVe [] = -1:=rfl;have d:qVe zYt = -1:=rfl;have f:qVe qVj = -1:=rfl;rcases h with rfl | rfl | rfl | rfl | rfl;all_goals
  first | rw [e] | rw [b] | rw [c] | rw [d] | rw [f]
  clear e b c d f
  try unfold sNone
  try unfold zK6
  try unfold zYt
  try unfold qVj
  go_enter Tryz.func66,Tryz.ntmps66
  go_wp2
  go_ret
  exact ⟨rfl,Below.refl _ _⟩
theorem zBo (s:Str) (w:World) :
 Calls Tryz.prog 66 #[.string ⟨s.toArray⟩] w (Rb (.int .i64 (qVe s)) w):=by
 by_cases h:s=sNone∨s=zK6∨s=[]∨s=zYt∨s=qVj
 ·exact find_sp s h w
 ·have n:s≠sNone:=fun e=>h (.inl e);have N:s≠zK6:=fun e=>h (.inr (.inl e));have c:s≠[]:=fun e=>h (.inr (.inr (.inl e)));have d:s≠zYt:=fun e=>h (.inr (.inr (.inr (.inl e))));have f:s≠qVj:=fun e=>h (.inr (.inr (.inr (.inr e))));have C:(s==[110,111,110,101])=false:=by simpa [sNone] using n
  have D:(s==[112,114,101,115,101,110,116,97,116,105,111,110])=false:=by simpa [zK6] using N
  have F:s.isEmpty=false:=by simpa using c
  have G:(s==[116,101,120,116])=false:=by simpa [zYt] using d
  have I:(s==[103,101,110,101,114,105,99])=false:=by simpa [qVj] using f
  have q:=lH n;have t:=lH N;have u:=lH c;have v:=lH d;have y:=lH f;clear n N c d f h;go_enter Tryz.func66,Tryz.ntmps66
  go_wp2;go_loopw [12] (fun i wr=>∃ k:Nat,k<=19/\i=.int .i64 k/\(∀ j:Nat,j<k->(kOf j).name≠s)/\Below w.heap.size w wr) (fun i _=>19 - (intOf i).toNat)
  case atStart=>exact ⟨0,by omega,rfl,by omega,Below.refl _ _⟩
  case round=>
   obtain ⟨k,O,rfl,m,l⟩:=hrel;have g:=lH m;have B:=lH l;clear m l;by_cases S:k<19
   ·have p:=lH (qKt k);have J:=zX4;by_cases H:(kOf k).name=s
    ·have R:=lH (zDe (by omega) (by omega) H u.o v.o y.o);have A:((kOf k).name==s)=true:=(by simpa using H);clear H;go_wp2_with (go_at_call 15;((with_reducible refine (p.o _).mono ?_);rintro e W ⟨rfl,hb1⟩;have b:=lH (B.o.trans (hb1.mono B.o.size));clear hb1))
     go_ret;exact ⟨qQr R.o.symm,b.o⟩
    ·have A:((kOf k).name==s)=false:=(by simpa using H);have X:=lH H;clear H;go_wp2_with (go_at_call 15;((with_reducible refine (p.o _).mono ?_);rintro e W ⟨rfl,hb1⟩;have b:=lH (B.o.trans (hb1.mono B.o.size));clear hb1))
     go_roundw;case rel=>
      refine ⟨k+1,by omega,by go_num,fun j M=>?_,b.o⟩;by_cases e:j<k
      ·exact g.o j e
      ·obtain rfl:j=k:=(by omega);exact X.o
     case measure=>simp [intOf];omega
   ·go_wp2;go_ret;exact ⟨qQr (findM_no (fun r _ U _=>g.o r (by omega)) q.o t.o).symm,B.o⟩

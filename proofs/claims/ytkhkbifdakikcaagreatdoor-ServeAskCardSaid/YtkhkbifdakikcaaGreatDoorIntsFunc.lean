/- All that is in a node, as the program has it. -/
import Derived.Test.YtkhkbifdakikcaaGreatDoorDomDoc
import Derived.Shelf.Abstract
import Derived.Lib.SliceRun
import Derived.Laws.IdiomCopy
set_option maxRecDepth 100000
set_option maxHeartbeats 2000000
namespace Go.Proofs.YtkhkbifdakikcaaGreatDoor
open Go.RowKit
variable {l:List Int} {base g:Nat} {w:World}
theorem qVy:∀ (f:Nat) (m:Nat) (v:Value) (d:Dc) (n:Int) (w:World),qZh m w v d->m<=w.heap.size->Ends d f n->(allF d f n).length<=1000000000 ->
 Calls Tryz.prog 46 #[v,.int .i64 n] w (Rn w fun w' x=>qQb 1 qQf w.heap.size 3 w' x (allF d f n)):=by
 intro f;induction f with
 | zero=>intro m v d n w hv A M;exact M.elim
 | succ f ih=>
 intro m v d n w hv A M J;have I:=lH (qQ5 m _ d n false w hv);cases a:isM d n false with
 | false=>
   rw [a] at I;have Q:allF d (f+1) n=[]:=(by rw [allF,if_neg (by simp [a])]);rw [Q];go_enter Tryz.func46,Tryz.ntmps46
   go_wp2_with (go_at_call 13;refine I.o.mono ?_;rintro a2 w1 ⟨rfl,rfl⟩)
   go_ret;exact ⟨Below.refl _ _,_,rfl,qQb.nil _ _ _⟩
 | true=>
   rw [a] at I;have hE:=M a;have Q:allF d (f+1) n=n::((nd d n).shadow++(nd d n).kids).flatMap (allF d f):=(by rw [allF,if_pos a]);rw [Q] at J ⊢;obtain ⟨k,hk,rfl,-⟩:=qQy.1 a;rw [qQ2 hk] at hE J ⊢;clear Q a M;obtain ⟨ad,ah,aq,av,kv,sv,rfl,-,-,ar,N⟩:=hv.node k hk;have c5:=N.kids;have c7:=N.shadow;have a5:=N.kidsAt;have a7:=N.shadowAt;clear N;generalize d[k].kids=K at *
   generalize d[k].shadow=S at *
   obtain ⟨ka,kc,rfl,k1,k2⟩:=Rf a5;obtain ⟨sa,sc,rfl,s1,s2⟩:=Rf a7;have ak:Hi (∀ x∈S,Ends d f x):=lH (fun x hx=>hE x (List.mem_append_left _ hx));have al:Hi (∀ x∈K,Ends d f x):=lH (fun x hx=>hE x (List.mem_append_right _ hx));have HL:Hi (1+(S.flatMap (allF d f)).length+(K.flatMap (allF d f)).length<=1000000000):=lH (by
    simp only [List.flatMap_append,Zj,Zm] at J;omega)
   have ag:∀ (X:List Int) t,t<X.length->((X.take t).flatMap (allF d f)).length<=(X.flatMap (allF d f)).length/\((X.take (t+1)).flatMap (allF d f)).length<=(X.flatMap (allF d f)).length:=by
    intro X t _;have h1:=congrArg List.length (congrArg (List.flatMap (allF d f)) (List.take_append_drop t X));have h2:=congrArg List.length (congrArg (List.flatMap (allF d f)) (List.take_append_drop (t+1) X));simp only [List.flatMap_append,Zj] at h1 h2;omega
   have ac:=lH ag;have b5:∀ W,Below w.heap.size w W->W.cell? ⟨ad,ah+k*9+5,none⟩=some (.slice ka K.length kc):=fun W hW=>(Bel.cells hW _ _ (by omega)).trans c5;have b7:∀ W,Below w.heap.size w W->W.cell? ⟨ad,ah+k*9+7,none⟩=some (.slice sa S.length sc):=fun W hW=>(Bel.cells hW _ _ (by omega)).trans c7;have am:=lH b5;have a9:=lH a5;have ab:=lH a7;have HV:=lH hv;have a0:=zVv w w.heap.size k (Zb _);have R:Below w.heap.size w (w.alloc (.cells #[.int .i64 k] 3)):=(Below.refl _ _).alloc (Zb _) _;have e7:=b7 _ R;have ai:=lH a0;have aj:=lH R;clear hE J ag b5 b7 a5 a7 hv a0 R c5 c7;go_enter Tryz.func46,Tryz.ntmps46
   go_wp2_with (go_at_call 13;refine I.o.mono ?_;rintro a2 w1 ⟨rfl,rfl⟩)
   go_loopw [22,5] (fun i a6 wr=>∃ (t:Nat) (o:List Int),t<=S.length/\i=.int .i64 t/\qQb 1 qQf w.heap.size 3 wr a6 o/\o=(k:Int)::(S.take t).flatMap (allF d f)/\Below w.heap.size w wr) (fun i _ _=>S.length - (intOf i).toNat)
   case atStart=>exact ⟨0,[(k:Int)],by omega,rfl,ai.o,rfl,aj.o⟩
   case round=>
    obtain ⟨t,o,ht,rfl,O,r,B⟩:=hrel;have j:=lH O;have P:=lH r;have H:=lH B;obtain ⟨oa,ap,rfl,o1,o2⟩:=Rf O.read;have S0:=B.size;clear O r B e7;by_cases y:t<S.length
    ·obtain ⟨xb,xo,_,_,E,ao,_,_,_⟩:=qQa.elem ab.o t y;simp at E;obtain ⟨rfl,rfl⟩:=E;have cx:=(Bel.cells H.o _ _ (by omega)).trans (ab.o.int_cell t y);have s:S[t]∈S:=Zl y;have e:S.take (t+1)=S.take t++[S[t]]:=Zk y;obtain ⟨a4,c⟩:=ac.o S t y;have Z:Hi ((k:Int)::(S.take (t+1)).flatMap (allF d f)=o++allF d f S[t]):=lH (by rw [e,P.o];simp only [List.flatMap_append,List.flatMap_cons,List.flatMap_nil,List.append_nil,List.cons_append]);rw [e] at c;have C:=congrArg List.length P.o;simp only [List.flatMap_append,List.flatMap_cons,List.flatMap_nil,List.append_nil,Zj,Zm] at c C;have a3:=HL.o;have U:=lH (ih m _ d S[t] _ (HV.o.later H.o A) (Za A S0) (ak.o _ s) (by omega));have an:o.length+(allF d f S[t]).length<=1000000000:=(by omega);clear e a4 c C a3 s;generalize S[t]=x at *
     go_wp2_with (first
 | (at_builtin;go_must (refine qZe rfl _ _ _ rfl qJg (by decide) rfl q.o rfl a1.o.read (fun cs a8 _ h=>qKq _ cs a8 h) (by omega) (by omega) (by omega) (fun _ _ _ _ _ h=>h) ?_);intro v3 w3 F G _ f3;have Y:=lH F;have V:=lH G;clear F G f3)
 | (go_at_call 46;(with_reducible refine U.o.mono ?_);rintro a2 w2 ⟨b,x2,rfl,D⟩;have T:=lH b;have S2:=b.size;have a1:=lH D;have q:=lH (j.o.below b (Zb _) (fun _ _ _ h=>h));clear b D))
     go_roundw
     case rel=>exact ⟨t+1,_,by omega,by go_num,Y.o,Z.o.symm,Below.own (Bt H.o T.o) (Zb _) q.o V.o⟩
     case measure=>simp [intOf];omega
    ·have ae:o=(k:Int)::S.flatMap (allF d f):=by rw [P.o,Zn (by omega)]
     have aa:=lH ae
     have f5:=am.o _ H.o
     clear ae P
     go_wp2
     go_loopw [38,5] (fun i a6 wr=>∃ (t:Nat) (p:List Int),t<=K.length/\i=.int .i64 t/\qQb 1 qQf w.heap.size 3 wr a6 p/\p=o++(K.take t).flatMap (allF d f)/\Below w.heap.size w wr) (fun i _ _=>K.length - (intOf i).toNat)
     case atStart=>exact ⟨0,o,by omega,rfl,j.o,by simp,H.o⟩
     case round=>
      clear o1 o2 j H f5;obtain ⟨u,p,hu,rfl,O,r,B⟩:=hrel;have j:=lH O;have P:=lH r;have H:=lH B;obtain ⟨oa,ap,rfl,o1,o2⟩:=Rf O.read;have S0:=B.size;clear O r B;by_cases z:u<K.length
      ·obtain ⟨xb,xo,_,_,E,ao,_,_,_⟩:=qQa.elem a9.o u z;simp at E;obtain ⟨rfl,rfl⟩:=E;have cx:=(Bel.cells H.o _ _ (by omega)).trans (a9.o.int_cell u z);have s:K[u]∈K:=Zl z;have e:K.take (u+1)=K.take u++[K[u]]:=Zk z;obtain ⟨a4,c⟩:=ac.o K u z;have Z:Hi (o++(K.take (u+1)).flatMap (allF d f)=p++allF d f K[u]):=lH (by rw [e,P.o];simp only [List.flatMap_append,List.flatMap_cons,List.flatMap_nil,List.append_nil,List.append_assoc]);rw [e] at c;have C:=congrArg List.length P.o;have af:=congrArg List.length aa.o;simp only [List.flatMap_append,List.flatMap_cons,List.flatMap_nil,List.append_nil,Zj,Zm] at c C af;have a3:=HL.o;have U:=lH (ih m _ d K[u] _ (HV.o.later H.o A) (Za A S0) (al.o _ s) (by omega));have an:p.length+(allF d f K[u]).length<=1000000000:=(by omega);clear e a4 c C af a3 s;generalize K[u]=x at *
       go_wp2_with (first
 | (at_builtin;go_must (refine qZe rfl _ _ _ rfl qJg (by decide) rfl q.o rfl a1.o.read (fun cs a8 _ h=>qKq _ cs a8 h) (by omega) (by omega) (by omega) (fun _ _ _ _ _ h=>h) ?_);intro v3 w3 F G _ f3;have Y:=lH F;have V:=lH G;clear F G f3)
 | (go_at_call 46;(with_reducible refine U.o.mono ?_);rintro a2 w2 ⟨b,x2,rfl,D⟩;have T:=lH b;have S2:=b.size;have a1:=lH D;have q:=lH (j.o.below b (Zb _) (fun _ _ _ h=>h));clear b D))
       go_roundw
       case rel=>exact ⟨u+1,_,by omega,by go_num,Y.o,Z.o.symm,Below.own (Bt H.o T.o) (Zb _) q.o V.o⟩
       case measure=>simp [intOf];omega
      ·have hF:p=(k:Int)::(S++K).flatMap (allF d f):=by rw [P.o,Zn (by omega),aa.o];simp
       have HF:=lH hF
       clear hF P
       go_wp2
       go_ret
       exact ⟨H.o,_,rfl,HF.o▸j.o⟩
set_option maxRecDepth 100000
set_option maxHeartbeats 2000000
theorem qZy (m:Nat) (v:Value) (l:List Int) (w:World) (hv:qKn m w v l) (hm:m<=w.heap.size) (r:l.length<=1000000000) :
 Calls Tryz.prog 49 #[v] w (Rn w fun w' y=>qQb 1 qQf w.heap.size 3 w' y l):=by
 have q:=fun w' a n c=>Lib.run_eql_slice_nil (P:=Tryz.prog) w' 28 3 a n c 0 0 Tryz.underlying28;rcases qQa.cases hv with ⟨rfl,rfl⟩ | ⟨b,o,c,rfl,j,k,p⟩
 ·go_enter Tryz.func49,Tryz.ntmps49
  go_wp2;go_ret;exact ⟨Below.refl _ _,_,rfl,qQb.nil _ _ _⟩
 ·have B:Bel w (w.alloc (.cells #[] 3)):=(Br w).alloc _;have H:=lH (zGd (sz:=1) (rd:=qQf) w w.heap.size w.heap.size 3 rfl (Zb _));have f:=lH (qQa.later hv qQc B hm);have i:Hi (w.heap.size<=(w.alloc (.cells #[] 3)).heap.size):=lH (by simp);go_enter Tryz.func49,Tryz.ntmps49
  go_wp2_with (at_builtin;go_must (refine qZe rfl _ _ _ rfl qJg (by decide) rfl H.o rfl f.o (fun C y _ h=>qKq _ C y h) (by simp only [List.length_nil];omega) (by simp only [List.length_nil];omega) i.o (fun _ _ _ _ _ h=>h) ?_);intro V W O G _ F;have e:=lH O;have d:=lH (Below.own B (Zb _) H.o G);clear O G F)
  go_ret;exact ⟨d.o,_,rfl,by simpa using e.o⟩
def idxM (p:Int->Bool):List Int->Nat->Int
 | [],_=>-1
 | x::l,i=>if p x then (i:Int) else idxM p l (i+1)
theorem idx_drop {p:Int->Bool} {j:Nat} (h:j<l.length):idxM p (l.drop j) j=if p l[j] then (j:Int) else idxM p (l.drop (j+1)) (j+1):=by
 rw [List.drop_eq_getElem_cons h];rfl
theorem zJc (p:Int->Bool):∀ (l:List Int) (i:Nat),(idxM p l i = -1/\∀ x∈l,p x=false)∨∃ k,∃ h:k<l.length,idxM p l i=((i+k:Nat):Int)/\p l[k]=true/\∀ x∈l.take k,p x=false:=by
 intro l;induction l with
 | nil=>intro i;left;exact ⟨rfl,by simp⟩
 | cons a l I=>
   intro i;by_cases b:p a=true
   ·right;exact ⟨0,by simp,by simp [idxM,b],by simpa using b,by simp⟩
   ·rcases I (i+1) with ⟨c,d⟩ | ⟨k,f,c,d,e⟩
    ·left;refine ⟨by rw [idxM,if_neg b,c],fun x H=>?_⟩;rcases List.mem_cons.1 H with rfl | H
     ·simpa using b
     ·exact d x H
    ·right;refine ⟨k+1,by simp;omega,by rw [idxM,if_neg b,c];congr 1;omega,by simpa using d,fun x H=>?_⟩;rw [List.take_succ_cons] at H;rcases List.mem_cons.1 H with rfl | H
     ·simpa using b
     ·exact e x H
def zH0 (g:Nat) (lb:Array Value) (p:Int->Bool) (base:Nat) (w:World):Prop:=∀ W,Below base w W->∀ x:Int,Calls Tryz.prog g (#[.int .i64 x]++lb) W (Rb (.bool (p x)) W)
theorem qKf (g:Nat) (k:Array Value) (p:Int->Bool) (E:∀ args w,(callFunc g args).run Tryz.prog w=.ok (.enter g args) w) (m:Nat) (v:Value) (l:List Int) (w:World) (hv:qKn m w v l) (hm:m<=w.heap.size) (f:zH0 g k p w.heap.size w) :
 Calls Tryz.prog 106 #[v,.func (.func g) #[] k] w (Rb (.int .i64 (idxM p l 0)) w):=by
 obtain ⟨a,c,rfl,s,u⟩:=Rf hv;have V:=lH hv;have n:=lH f;clear hv f;go_enter Tryz.func106,Tryz.ntmps106
 go_wp2;go_loopw [8] (fun i wr=>∃ j:Nat,j<=l.length/\i=.int .i64 j/\idxM p (l.drop j) j=idxM p l 0/\Bel w wr) (fun i _=>l.length - (intOf i).toNat)
 case atStart=>exact ⟨0,by omega,rfl,rfl,Br _⟩
 case round=>
  obtain ⟨j,o,rfl,d,B⟩:=hrel;have F:=lH d;have H:=lH B;clear d B;by_cases t:j<l.length
  ·obtain ⟨X,y,_,_,e,r,_,_,_⟩:=qQa.elem V.o j t;simp at e;obtain ⟨rfl,rfl⟩:=e;have C:=(Bel.cells H.o _ _ (by omega)).trans (V.o.int_cell j t);have I:=lH (idx_drop (p:=p) t);have h:=n.o wr H.o l[j];generalize l[j]=x at *
   cases q:p x with
   | true=>
     rw [q] at h;have R:Hi (idxM p l 0=(j:Int)):=lH (by rw [<- F.o,I.o,q];rfl);go_wp2_with (go_at_fn g;refine qQe h H fun W b=>?_)
     go_ret;exact ⟨qQr R.o.symm,b.o⟩
   | false=>
     rw [q] at h;have R:Hi (idxM p (l.drop (j+1)) (j+1)=idxM p l 0):=lH (by rw [<- F.o,I.o,q];rfl);go_wp2_with (go_at_fn g;refine qQe h H fun W b=>?_)
     go_roundw;case rel=>exact ⟨j+1,by omega,by go_num,R.o,b.o⟩
     case measure=>simp [intOf];omega
  ·have R:Hi (idxM p l 0 = -1):=lH (by rw [<- F.o,List.drop_eq_nil_of_le (by omega)];rfl);go_wp2;go_ret;exact ⟨qQr R.o.symm,H.o⟩
theorem qGr (g:Nat) (e:TypeId):∀ (vs:List Value) (o:Nat) (w:World) (C:List Value),Blk w g C e->∃ a,Blk (w.setCells g o vs) g a e/\a.length=C.length/\a.take o=C.take o:=by
 intro vs;induction vs with
 | nil=>intro o w C h;exact ⟨C,h,rfl,rfl⟩
 | cons v vs i=>
   intro o w C h;obtain ⟨a,H,b,c⟩:=i (o+1) _ _ (h.set o v);refine ⟨a,H,by simpa using b,?_⟩;have:=congrArg (List.take o) c;rw [List.take_take,List.take_take,Nat.min_eq_left (Nat.le_succ o)] at this;rw [this,List.take_set_of_le (Zb _)]
theorem qZ1 {B:Nat} {a:World} (hg:B<=g):∀ (vs:List Value) (o:Nat) (w:World),Below B a w->Below B a (w.setCells g o vs):=by
 intro vs;induction vs with
 | nil=>intro o w h;exact h
 | cons v vs i=>intro o w h;exact i _ _ (Below.setCell h hg v)
theorem zQc:∀ l:List Int,(l.map (fun x=>[Value.int .i64 x])).flatten=l.map (Value.int .i64):=by
 intro l;induction l with
 | nil=>rfl
 | cons a l i=>simp [i]
theorem zZa {n c:Nat} {C:List Value} (h:Blk w g C 3) (H:base<=g) (b:n=l.length) (a:C.length=c) (m:c<=9223372036854775807) (e:n<=c) (t:C.take n=l.map (Value.int .i64)) :
 qQb 1 qQf base 3 w (.slice (some ⟨g,0,none⟩) n c) l:=by
 subst b;refine ⟨l.map (fun x=>[.int .i64 x]),by simp,fun i d f=>by simp [qQf],?_,.inr ⟨g,c,C.toArray,rfl,H,h,e,m,by simpa using a,?_⟩⟩
 ·rw [zQc];simp
 ·rw [show C.toArray.toList=C from rfl,Nat.mul_one,t,zQc]
theorem zZ6 {v:Value} (h:qQb 1 qQf base 3 w v l) (f:l≠[]) :
 ∃ g c C,v=.slice (some ⟨g,0,none⟩) l.length c/\base<=g/\Blk w g C 3/\C.length=c/\c<=9223372036854775807/\l.length<=c/\C.take l.length=l.map (Value.int .i64):=by
 have n:=h.row;obtain ⟨X,q,Q,j⟩:=h;rcases j.2 with ⟨rfl,a⟩ | ⟨g,c,r,rfl,d,hg,e,m,s,H⟩
 ·exact absurd (List.eq_nil_of_length_eq_zero a) f
 ·refine ⟨g,c,r.toList,rfl,d,by simpa [Blk] using hg,by simpa using s,m,e,?_⟩;rw [Nat.mul_one] at H;rw [H];have:X=l.map (fun x=>[Value.int .i64 x]):=by
   refine List.ext_getElem (by simpa using q) (fun i b k=>?_);have:=(Q i (by omega) b).2;rw [this];simp
  rw [this,zQc]
theorem qXp (g:Nat) (M:Array Value) (p:Int->Bool) (eg:∀ args w,(callFunc g args).run Tryz.prog w=.ok (.enter g args) w) (base:Nat) (v:Value) (l:List Int) (w:World) (n:qQb 1 qQf base 3 w v l) (m:base<=w.heap.size) (hl:l.length<=1000000000)
 (u:zH0 g M p base w) :
 Calls Tryz.prog 86 #[v,.func (.func g) #[] M] w fun e w'=>Below base w w'/\∃ y,e=.returned y/\qQb 1 qQf base 3 w' y (l.filter (fun x=>!p x)):=by
 have I:=lH (qKf g M p eg w.heap.size v l w n.read (Zb _) (fun a9 hW=>u a9 (Below.mono hW m)));have a7:=lH u;rcases zJc p l 0 with ⟨E,f⟩ | ⟨k,a1,E,A,f⟩
 ·obtain ⟨af,ag,rfl,l1,l2⟩:=Rf n.read;have X:l.filter (fun x=>!p x)=l:=List.filter_eq_self.2 (fun x J=>by rw [f x J];rfl);rw [E] at I;have HO:=lH n;rw [X];clear u n E f X;go_enter Tryz.func86,Tryz.ntmps86
  go_wp2_with (go_at_call 106;refine qJ7 I.o fun w2 c=>?_)
  go_ret;exact ⟨Below.mono c.o m,_,rfl,HO.o.below c.o (Zb _) (fun _ _ _ h=>h)⟩
 ·rw [show ((0+k:Nat):Int)=(k:Int) by simp] at E;rw [E] at I;obtain ⟨b,U,P,rfl,F,K,aa,ab,aj,G⟩:=zZ6 n (by rintro rfl;simp at a1);have ak:((k:Int) == -1)=false:=beq_eq_false_iff_ne.2 (by omega);have a3:(l.take (k+1)).filter (fun x=>!p x)=l.take k:=by
   rw [Zk a1,List.filter_append,List.filter_eq_self.2 (fun x J=>by rw [f x J];rfl)];simp [A]
  have R:=lH a3;have W:∀ q (h:q<l.length),P[q]?=some (.int .i64 l[q]):=by
   intro q h;have:=congrArg (fun t=>t[q]?) G;simp only [List.getElem?_take,h,if_true,List.getElem?_map,Zi h,Option.map_some] at this;exact this
  have a5:=lH W;have HK:=lH K;have a8:=lH G;clear u n E f a3 W K G A;have hz:∀ w,(zeroValue 3).run Tryz.prog w=.ok (.int .i64 0) w:=fun w=>by simp
  go_enter Tryz.func86,Tryz.ntmps86
  go_wp2_with (go_at_call 106;refine qJ7 I.o fun w2 c=>?_)
  go_loopw [5,6] (fun s5 N wr=>∃ (i j:Nat) (C:List Value),s5=.int .i64 i/\N=.int .i64 j/\i<j/\j<=l.length/\i=((l.take j).filter (fun x=>!p x)).length/\Blk wr b C 3/\C.length=U/\C.take i=((l.take j).filter (fun x=>!p x)).map (Value.int .i64)/\(∀ q (h:q<l.length),j<=q->C[q]?=some (.int .i64 l[q]))/\Below base w wr) (fun _ N _=>l.length - (intOf N).toNat)
  case atStart=>
   refine ⟨k,k+1,P,rfl,by go_num,by omega,by omega,by rw [R.o];simp;omega,HK.o.bel c.o,aa,?_,fun q h _=>a5.o q h,Below.mono c.o m⟩;rw [R.o];have:=congrArg (List.take k) a8.o;rw [List.take_take,Nat.min_eq_left (by omega)] at this;rw [this,List.map_take]
  case round=>
   obtain ⟨i,j,C,rfl,rfl,ai,hj,a0,K,hC,Z,Y,V⟩:=hrel;have H:=lH K;have T:=lH Z;have Q:=lH Y;have B:=lH V;have r:=lH a0;have D:=K.cell j;clear K Z Y V a0;by_cases a2:j<l.length
   ·have ad:(j:Int)<(l.length:Int):=(by omega);have cj:=D.trans (Q.o j a2 (Zb _));have s:=a7.o wr B.o l[j];have z:Hi ((l.take (j+1)).filter (fun x=>!p x)=(l.take j).filter (fun x=>!p x)++if p l[j] then [] else [l[j]]):=lH (by
     rw [Zk a2,List.filter_append];cases h:p l[j] <;> simp [h])
    clear D;generalize l[j]=x at *
    cases a:p x with
    | true=>
      rw [a] at s;have S:Hi ((l.take (j+1)).filter (fun x=>!p x)=(l.take j).filter (fun x=>!p x)):=lH (by rw [z.o,a];simp);clear z;go_wp2_with (go_at_fn g;refine qJ7 s fun w3 o=>?_)
      go_roundw;case rel=>exact ⟨i,j+1,C,rfl,by go_num,by omega,by omega,by rw [S.o];exact r.o,H.o.bel o.o,hC,by rw [S.o];exact T.o,fun q h a=>Q.o q h (by omega),Below.trans B.o (Below.mono o.o (Za m B.o.size))⟩
      case measure=>simp [intOf];omega
    | false=>
      rw [a] at s;have S:Hi ((l.take (j+1)).filter (fun x=>!p x)=(l.take j).filter (fun x=>!p x)++[x]):=lH (by rw [z.o,a];simp);clear z;obtain ⟨a4,ae⟩:∃ a4,C[i]?=some a4:=⟨_,Zi (show i<C.length by omega)⟩;go_wp2_with (go_at_fn g;refine s.mono ?_;rintro e w3 ⟨rfl,d⟩;have o:=lH d;have a6:=lH (H.o.bel d);have c3:=(H.o.bel d).cell i;have f3:=(H.o.bel d).frozen i;rw [ae] at c3;clear d)
      go_roundw;case rel=>
       refine ⟨i+1,j+1,C.set i (.int .i64 x),by go_num,by go_num,by omega,by omega,by rw [S.o];simp;exact r.o,a6.o.set i _,by simpa using hC,?_,fun q h a=>?_,?_⟩
       ·rw [S.o,List.map_append,<- T.o,Zk (by simp;omega)];rw [List.take_set_of_le (Zb _)];simp
       ·rw [List.getElem?_set_ne (by omega)];exact Q.o q h (by omega)
       ·exact Below.setCell (Below.trans B.o (Below.mono o.o (Za m B.o.size))) F _
      case measure=>simp [intOf];omega
   ·obtain rfl:j=l.length:=(by omega);have ad:¬ (l.length:Int)<(l.length:Int):=(by omega);have ah:∀ O,(Builtin.clear_ #[28] O #[.slice (some ⟨b,i,none⟩) (l.length - i) (U - i)]).run Tryz.prog wr=.ok (.tuple #[]) (wr.setCells b i (List.replicate (l.length - i) (.int .i64 0))):=fun O=>
     Lib.run_clear_slice wr _ 3 O _ Tryz.underlying28 hz rfl rfl b i _ _ (by omega)
      (fun t A=>by rw [H.o.cell (i+t),Zi (show i+t<C.length by omega)];rfl) (fun t A=>H.o.frozen (i+t))
    have ac:l.take l.length=l:=Zn (Zb _);rw [ac] at r T;clear D;go_wp2;go_ret;obtain ⟨C',q1,q2,q3⟩:=qGr b 3 (List.replicate (l.length - i) (.int .i64 0)) i wr C H.o;exact ⟨qZ1 F _ _ _ B.o,_,rfl,zZa q1 F r.o (by omega) ab (by omega) (by rw [q3];exact T.o)⟩

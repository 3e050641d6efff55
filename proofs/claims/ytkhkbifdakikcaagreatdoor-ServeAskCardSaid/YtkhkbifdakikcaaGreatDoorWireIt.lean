/- wire: items and events as bytes: walked. -/
import Derived.Test.YtkhkbifdakikcaaGreatDoorWireB
set_option maxRecDepth 100000
set_option maxHeartbeats 4000000
namespace Go.Proofs.YtkhkbifdakikcaaGreatDoor
open Go.RowKit
variable {l:List Evt} {j k n:Nat} {u v:Value} {w:World}
theorem qZw {P:Program} {w:World} {a:Operand->Value} {o:Oper} {f:Nat} {O:Array Operand} {t:Array TypeId} (c:o.op=.call {callee:=.value (.func f),args:=O,argTypes:=t } ) (b:a (.func f)=.func (.func f) #[] #[]) {args:Array Value} (ha:O.map a=args) (H:∀ (args:Array Value) (w:World),(callFunc f args).run P w=.ok (.enter f args) w)
 {R:Value->World->Prop} (h:Calls P f args w (fun e w'=>∃ v,e=.returned v/\R v w')):qW0 P R ((execOp a o).run P w):=by
 have e:(execOp a o).run P w=.ok (.enter f args) w:=by
  unfold execOp;simp [c,resolve,ha,b,go_sem,H]
 rw [e];exact h
def qBy (ix:List Nat) (T0:Nat->Value->World->Prop) (v0:Value) (x:Ans) (W:World):Prop:=
 ∃ j,j<=ix.length/\(∀ i,i<ix.length->((x (ix.getD i 0)).isSome=true↔i<j))/\T0 j (if j=0 then v0 else (x (ix.getD (j - 1) 0)).getD undef) W
section
variable {ix:List Nat} {T0:Nat->Value->World->Prop} {v0:Value} {x:Ans} {W:World}
theorem qBy.start (h:T0 0 v0 W):qBy ix T0 v0 (fun _=>none) W:=⟨0,Nat.zero_le _,fun i _=>by simp,by simpa using h⟩
theorem qBy.any {C:Prop} (h:qBy ix T0 v0 x W) (c:∀ j v,T0 j v W->C):C:=by
 obtain ⟨j,_,_,H⟩:=h;exact c _ _ H
theorem qBy.here (h:qBy ix T0 v0 x W) (m:Nat) (hm:m<ix.length) (e:x (ix.getD m 0)=none) (p:m=0∨∃ u,x (ix.getD (m - 1) 0)=some u):T0 m (if m=0 then v0 else (x (ix.getD (m - 1) 0)).getD undef) W:=by
 obtain ⟨j,g,H,c⟩:=h;have a:=H m hm;rw [e] at a;simp at a;obtain rfl:j=m:=by
  rcases p with rfl | ⟨u,d⟩
  ·omega
  ·by_cases f:m=0
   ·omega
   ·have b:=H (m - 1) (by omega);rw [d] at b;simp at b;omega
 exact c
theorem qBy.next (h:qBy ix T0 v0 x W) (f:ix.Nodup) (m:Nat) (hm:m<ix.length) (o:x (ix.getD m 0)=none) (p:m=0∨∃ u,x (ix.getD (m - 1) 0)=some u) {c:World} (T:T0 (m+1) u c):qBy ix T0 v0 (setX x (ix.getD m 0) u) c:=by
 obtain ⟨j,r,H,s⟩:=h;have a:=H m hm;rw [o] at a;simp at a;obtain rfl:j=m:=by
  rcases p with rfl | ⟨u,g⟩
  ·omega
  ·by_cases q:m=0
   ·omega
   ·have b:=H (m - 1) (by omega);rw [g] at b;simp at b;omega
 refine ⟨j+1,hm,fun i d=>?_,?_⟩
 ·by_cases e:i=j
  ·subst e;rw [qQj];simp
  ·rw [qQm,H i d]
   ·omega
   ·intro h;simp only [List.getD_eq_getElem?_getD,Zi d,Zi hm,Option.getD_some] at h;exact e ((List.getElem_inj f).1 h)
 ·rw [if_neg (by omega),Nat.add_sub_cancel,qQj];exact T
theorem qBy.last (h:qBy ix T0 v0 x W) (n:Nat) (e:n+1=ix.length) (b:x (ix.getD n 0)=some u):T0 (n+1) u W:=by
 obtain ⟨j,d,c,H⟩:=h;have a:=c n (by omega);rw [b] at a;simp at a;obtain rfl:j=n+1:=by omega
 rw [if_neg (by omega),Nat.add_sub_cancel,b] at H;exact H
end
theorem qYl (args:Array Value) (w:World):(callFunc 30 args).run Tryz.prog w=.ok (.enter 30 args) w:=by kernel_rfl
theorem zWd (args:Array Value) (w:World):(callFunc 63 args).run Tryz.prog w=.ok (.enter 63 args) w:=by kernel_rfl
theorem cf_witem (args:Array Value) (w:World):(callFunc 29 args).run Tryz.prog w=.ok (.enter 29 args) w:=by kernel_rfl
theorem qFx {l:List It} (h:j<l.length):itemsB (l.take (j+1))=itemsB (l.take j)++itemB l[j]:=by
 rw [qKz,qKz,Zk h,List.flatMap_append];simp
theorem zFr (l:List It) (j:Nat):(itemsB (l.take j)).length<=(itemsB l).length:=by
 have e:itemsB l=itemsB (l.take j)++itemsB (l.drop j):=by rw [qKz,qKz,qKz,<- List.flatMap_append,List.take_append_drop]
 rw [e,Zj];omega
def qJ8 (l:Txt) (P:List Txt) (j:Nat):Txt:=l++(P.take j).flatten
theorem qQ9 {l:Txt} {P:List Txt} {p:Txt} (h:P[j]?=some p):qJ8 l P j++p=qJ8 l P (j+1):=by
 obtain ⟨H,rfl⟩:=List.getElem?_eq_some_iff.1 h;unfold qJ8;rw [Zk H,List.flatten_append,List.append_assoc];simp
theorem qH9 (l:Txt) (P:List Txt) (j:Nat):(qJ8 l P j).length<=(l++P.flatten).length:=by
 unfold qJ8;rw [Zj,Zj];have:(P.take j).flatten.length<=P.flatten.length:=by
  have e:P.flatten=(P.take j).flatten++(P.drop j).flatten:=by rw [<- List.flatten_append,List.take_append_drop]
  rw [e,Zj];omega
 omega
theorem zQz {B:Nat} {w0:World} (T:Tab B w0) (b7:n<=B):∀ (k:Nat) (b o:Nat) (x:It) (kv v:Value) (l:Txt) (w:World),ItC (·<n) k w0 b o x kv->b<n->ItOk x->Buf B w0 w v l->(l++itemB x).length+30<=140737488355328 ->
 Calls Tryz.prog 29 #[v,.pointer (some ⟨b,o,none⟩)] w fun e w'=>∃ v',e=.returned v'/\Buf B w0 w' v' (l++itemB x):=by
 intro k;induction k using Nat.strongRecOn with
 | ind k ih=>
 intro b o x kv v l w Y b4 b0 hb F;obtain ⟨⟨M,N,X,G,J,I,R⟩,K⟩:=x;obtain ⟨k0,k1,k2,k3,k4,k5,k6,k7,a1⟩:=Y;simp only [It.h,It.kids] at k0 k1 k2 k3 k4 k5 k6 k7 a1;obtain ⟨⟨i1,i2,i3,i4,i5,i6⟩,b5,an⟩:=b0;obtain ⟨ka,kc,rfl,_,_⟩:=Rf a1;have Q:Hi (∀ W,Below B w0 W->W.cell? ⟨b,o,none⟩=some (.int .i64 M)/\W.cell? ⟨b,o+1,none⟩=some (.int .i64 N)/\W.cell? ⟨b,o+2,none⟩=some (.string ⟨X.toArray⟩)/\W.cell? ⟨b,o+3,none⟩=some (.string ⟨G.toArray⟩)/\W.cell? ⟨b,o+4,none⟩=some (.int .i64 J)/\W.cell? ⟨b,o+5,none⟩=some (.int .i64 I)/\W.cell? ⟨b,o+6,none⟩=some (.bool R)/\W.cell? ⟨b,o+7,none⟩=some (.slice ka K.length kc)):=lH (fun W h=>by
  have m:∀ j,W.cell? ⟨b,j,none⟩=w0.cell? ⟨b,j,none⟩:=fun j=>by
   unfold World.cell?;rw [h.block b (by omega)]
  rw [m,m,m,m,m,m,m,m];exact ⟨k0,k1,k2,k3,k4,k5,k6,k7⟩)
 clear k0 k1 k2 k3 k4 k5 k6 k7;have i:=lH hb;obtain ⟨O,a0⟩:∃ b2,b2=offB R:=⟨_,rfl⟩;have am:itemB (.mk ⟨M,N,X,G,J,I,R⟩ K)=[numB M,numB N,numB J,numB I,numB O].flatten++[txtB X,txtB G,numB K.length].flatten++itemsB K:=by
  rw [itemB,hdB];subst a0;simp
 rw [am] at F ⊢;obtain ⟨P,A⟩:∃ a5:List Txt,a5=[numB M,numB N,numB J,numB I,numB O]:=⟨_,rfl⟩;obtain ⟨g,E⟩:∃ a5:List Txt,a5=[txtB X,txtB G,numB K.length]:=⟨_,rfl⟩;rw [<- A,<- E] at F ⊢;have ar:I64 O:=by rw [a0];exact (zGo R).1
 have ap:∀ j,(qJ8 l P j).length+30<=140737488355328:=fun j=>by
  have:=qH9 l P j;simp only [Zj] at this F;omega
 have aq:∀ j,(qJ8 (l++P.flatten) g j).length+30<=140737488355328:=fun j=>by
  have:=qH9 (l++P.flatten) g j;simp only [Zj] at this F;omega
 have a8:Hi (P[0]?=some (numB M)):=lH (by rw [A];rfl);have a9:Hi (P[1]?=some (numB N)):=lH (by rw [A];rfl);have aa:Hi (P[2]?=some (numB J)):=lH (by rw [A];rfl);have ab:Hi (P[3]?=some (numB I)):=lH (by rw [A];rfl);have ac:Hi (P[4]?=some (numB O)):=lH (by rw [A];rfl);have ad:Hi (qJ8 l P 5=l++P.flatten):=lH (by rw [A];rfl);have a2:Hi (g[0]?=some (txtB X)):=lH (by rw [E];rfl);have a3:Hi (g[1]?=some (txtB G)):=lH (by rw [E];rfl);have ae:Hi (g[2]?=some (numB K.length)):=lH (by rw [E];rfl);have S:Hi (qJ8 (l++P.flatten) g 3=l++(P.flatten++g.flatten)):=lH (by rw [E];simp [qJ8]);have HP:Hi (qJ8 l P 0=l):=lH (by simp [qJ8]);have HQ:Hi (qJ8 (l++P.flatten) g 0=l++P.flatten):=lH (by simp [qJ8]);have q:=lH ap;have V:=lH aq;have af:=lH i1;have ag:=lH i2;have ah:=lH i3;have ai:=lH i4;have ak:=lH ar;have ax:=lH F;have b6:X.length<=9223372036854775807:=i5;clear am A E ap aq hb i1 i2 i3 i4 ar F;have au:=lH ih;have av:=lH a1;have aw:=lH an;clear ih a1 an;obtain ⟨C,s,t,c3,c4,y,z,D⟩:=Q.o w i.o.bel;go_enter Tryz.func29,Tryz.ntmps29
 go_upto_region 2 with fail
 cases R;case' true=>obtain rfl:O=1:=a0
 case' false=>obtain rfl:O=0:=a0
 all_goals
  go_upto_region 4 with fail
  clear C s t c3 c4 y z D
  refine qQ6 [0,1,2,3,4,6,7,8,9,11,12,13,14,16,17,18,19,21] [(5,some 16,[]),(10,some 21,[5]),(15,some 26,[10]),(20,some 31,[15]),(22,some 33,[20])] [23] (qBy [5,10,15,20,22] (fun j u W=>Buf B w0 W u (qJ8 l P j)) v) (by kernel_rfl) (by kernel_rfl) (.start ?_) ?_
  ·have h:=i.o
   simp only [HP.o]
   exact ⟨h.own,⟨h.bel.os,h.bel.tape,h.bel.output,h.bel.size,h.bel.block⟩,h.le⟩
  simp only [pickL,List.map_cons,List.map_nil,List.filterMap_cons,List.filterMap_nil,Zd,Ze]
  iterate 18 (refine qZp.cons (v:=?_) (fun _=>Says.plain ?_ ?_) ?_;rotate_left;rfl;(intro w' H;obtain ⟨C,s,t,c3,c4,y,z,D⟩:=Q.o w' (H.any (fun _ _ h=>h.bel));clear H;go_simp;with_reducible rfl);simp only [Act.put,Zh,Zf,Zg])
  refine qZp.nil ⟨by simp,⟨?_,?_,?_,?_,?_,trivial⟩,?_⟩
  ·intro x p W d f r H
   have a:=H.here 0 (by simp) d (.inl rfl)
   simp only [if_true] at a
   refine qZw rfl (r.1 _ (fun _ _ _ _ h=>by cases h)) (args:=#[v,.int .i64 M]) ?_ qYl ((qZk a af.o (by have:=q.o 0;omega) T).mono ?_)
   ·simp only [List.map_toArray,List.map_cons,List.map_nil]
    rw [r.1 (.tmp 11) (by simp),r.1 (.tmp 15) (by simp)]
    rfl
   ·rintro e w' ⟨U,rfl,h⟩
    exact ⟨U,rfl,H.next (by decide) 0 (by simp) d (.inl rfl) (by rw [qQ9 a8.o] at h;exact h)⟩
  ·intro x p W d f r H
   obtain ⟨u,c⟩:=f 5 (by simp)
   have a:=H.here 1 (by simp) d (.inr ⟨u,c⟩)
   simp only [List.getD_cons_zero,Nat.reduceSub,c,Option.getD_some] at a
   rw [if_neg (by decide)] at a
   refine qZw rfl (r.1 _ (fun _ _ _ _ h=>by cases h)) (args:=#[u,.int .i64 N]) ?_ qYl ((qZk a ag.o (by have:=q.o 1;omega) T).mono ?_)
   ·simp only [List.map_toArray,List.map_cons,List.map_nil]
    rw [r.2 (5,some 16,[]) (by simp) 16 _ rfl c,r.1 (.tmp 20) (by simp)]
    rfl
   ·rintro e w' ⟨U,rfl,h⟩
    exact ⟨U,rfl,H.next (by decide) 1 (by simp) d (.inr ⟨u,c⟩) (by rw [qQ9 a9.o] at h;exact h)⟩
  ·intro x p W d f r H
   obtain ⟨u,c⟩:=f 10 (by simp)
   have a:=H.here 2 (by simp) d (.inr ⟨u,c⟩)
   simp only [List.getD_cons_zero,Nat.reduceSub,c,Option.getD_some,List.getD_cons_succ] at a
   rw [if_neg (by decide)] at a
   refine qZw rfl (r.1 _ (fun _ _ _ _ h=>by cases h)) (args:=#[u,.int .i64 J]) ?_ qYl ((qZk a ah.o (by have:=q.o 2;omega) T).mono ?_)
   ·simp only [List.map_toArray,List.map_cons,List.map_nil]
    rw [r.2 (10,some 21,[5]) (by simp) 21 _ rfl c,r.1 (.tmp 25) (by simp)]
    rfl
   ·rintro e w' ⟨U,rfl,h⟩
    exact ⟨U,rfl,H.next (by decide) 2 (by simp) d (.inr ⟨u,c⟩) (by rw [qQ9 aa.o] at h;exact h)⟩
  ·intro x p W d f r H
   obtain ⟨u,c⟩:=f 15 (by simp)
   have a:=H.here 3 (by simp) d (.inr ⟨u,c⟩)
   simp only [List.getD_cons_zero,Nat.reduceSub,c,Option.getD_some,List.getD_cons_succ] at a
   rw [if_neg (by decide)] at a
   refine qZw rfl (r.1 _ (fun _ _ _ _ h=>by cases h)) (args:=#[u,.int .i64 I]) ?_ qYl ((qZk a ai.o (by have:=q.o 3;omega) T).mono ?_)
   ·simp only [List.map_toArray,List.map_cons,List.map_nil]
    rw [r.2 (15,some 26,[10]) (by simp) 26 _ rfl c,r.1 (.tmp 30) (by simp)]
    rfl
   ·rintro e w' ⟨U,rfl,h⟩
    exact ⟨U,rfl,H.next (by decide) 3 (by simp) d (.inr ⟨u,c⟩) (by rw [qQ9 ab.o] at h;exact h)⟩
  ·intro x p W d f r H
   obtain ⟨u,c⟩:=f 20 (by simp)
   have a:=H.here 4 (by simp) d (.inr ⟨u,c⟩)
   simp only [List.getD_cons_zero,Nat.reduceSub,c,Option.getD_some,List.getD_cons_succ] at a
   rw [if_neg (by decide)] at a
   refine qZw rfl (r.1 _ (fun _ _ _ _ h=>by cases h)) (args:=#[u,.int .i64 _]) ?_ qYl ((qZk a ak.o (by have:=q.o 4;omega) T).mono ?_)
   ·simp only [List.map_toArray,List.map_cons,List.map_nil]
    rw [r.2 (20,some 31,[15]) (by simp) 31 _ rfl c,r.1 (.tmp 32) (by simp)]
    rfl
   ·rintro e w' ⟨U,rfl,h⟩
    exact ⟨U,rfl,H.next (by decide) 4 (by simp) d (.inr ⟨u,c⟩) (by rw [qQ9 ac.o] at h;exact h)⟩
  intro al w1 H
  have hb1:=H.last 4 rfl (u:=al 22) rfl
  simp only [ad.o] at hb1
  simp only [List.foldl_cons,List.foldl_nil,Zh,Zf,Zg]
  clear H a8 a9 aa ab ac ad af ag ah ai ak q HP i
  generalize al 22=v1 at *
  have i:=lH hb1
  clear hb1
  go_upto_region 5 with fail
  have aj:Hi (I64 (K.length:Int)):=lH ⟨by omega,by omega⟩
  refine qQ6 [0,1,2,3,4,6,7,8,9,11,12,13,14,15] [(5,some 39,[]),(10,some 44,[5]),(16,some 50,[10])] [17] (qBy [5,10,16] (fun j u W=>Buf B w0 W u (qJ8 (l++P.flatten) g j)) v1) (by kernel_rfl) (by kernel_rfl) (.start ?_) ?_
  ·have h:=i.o
   simp only [HQ.o]
   exact ⟨h.own,⟨h.bel.os,h.bel.tape,h.bel.output,h.bel.size,h.bel.block⟩,h.le⟩
  simp only [pickL,List.map_cons,List.map_nil,List.filterMap_cons,List.filterMap_nil,Zd,Ze]
  iterate 14 (refine qZp.cons (v:=?_) (fun _=>Says.plain ?_ ?_) ?_;rotate_left;rfl;(intro w' H;obtain ⟨C,s,t,c3,c4,y,z,D⟩:=Q.o w' (H.any (fun _ _ h=>h.bel));clear H;go_simp;with_reducible rfl);simp only [Act.put,Zh,Zf,Zg])
  refine qZp.nil ⟨by simp,⟨?_,?_,?_,trivial⟩,?_⟩
  ·intro x p W d f r H
   have a:=H.here 0 (by simp) d (.inl rfl)
   simp only [if_true] at a
   refine qZw rfl (r.1 _ (fun _ _ _ _ h=>by cases h)) (args:=#[v1,.string ⟨X.toArray⟩]) ?_ zWd ((qBc a (by have h:=V.o 1;rw [<- qQ9 a2.o,Zj,txtB,Zj] at h;omega) T).mono ?_)
   ·simp only [List.map_toArray,List.map_cons,List.map_nil]
    rw [r.1 (.tmp 34) (by simp),r.1 (.tmp 38) (by simp)]
    rfl
   ·rintro e w' ⟨U,rfl,h⟩
    exact ⟨U,rfl,H.next (by decide) 0 (by simp) d (.inl rfl) (by rw [qQ9 a2.o] at h;exact h)⟩
  ·intro x p W d f r H
   obtain ⟨u,c⟩:=f 5 (by simp)
   have a:=H.here 1 (by simp) d (.inr ⟨u,c⟩)
   simp only [List.getD_cons_zero,Nat.reduceSub,c,Option.getD_some] at a
   rw [if_neg (by decide)] at a
   refine qZw rfl (r.1 _ (fun _ _ _ _ h=>by cases h)) (args:=#[u,.string ⟨G.toArray⟩]) ?_ zWd ((qBc a (by have h:=V.o 2;rw [<- qQ9 a3.o,Zj,txtB,Zj] at h;omega) T).mono ?_)
   ·simp only [List.map_toArray,List.map_cons,List.map_nil]
    rw [r.2 (5,some 39,[]) (by simp) 39 _ rfl c,r.1 (.tmp 43) (by simp)]
    rfl
   ·rintro e w' ⟨U,rfl,h⟩
    exact ⟨U,rfl,H.next (by decide) 1 (by simp) d (.inr ⟨u,c⟩) (by rw [qQ9 a3.o] at h;exact h)⟩
  ·intro x p W d f r H
   obtain ⟨u,c⟩:=f 10 (by simp)
   have a:=H.here 2 (by simp) d (.inr ⟨u,c⟩)
   simp only [List.getD_cons_zero,Nat.reduceSub,c,Option.getD_some,List.getD_cons_succ] at a
   rw [if_neg (by decide)] at a
   refine qZw rfl (r.1 _ (fun _ _ _ _ h=>by cases h)) (args:=#[u,.int .i64 (K.length:Int)]) ?_ qYl ((qZk a aj.o (by have:=V.o 2;omega) T).mono ?_)
   ·simp only [List.map_toArray,List.map_cons,List.map_nil]
    rw [r.2 (10,some 44,[5]) (by simp) 44 _ rfl c,r.1 (.tmp 49) (by simp)]
    rfl
   ·rintro e w' ⟨U,rfl,h⟩
    exact ⟨U,rfl,H.next (by decide) 2 (by simp) d (.inr ⟨u,c⟩) (by rw [qQ9 ae.o] at h;exact h)⟩
  intro U2 w2 H
  have hb2:=H.last 2 rfl (u:=U2 16) rfl
  simp only [S.o] at hb2
  simp only [List.foldl_cons,List.foldl_nil,Zh,Zf,Zg]
  clear H a2 a3 ae S aj V HQ i
  generalize U2 16=v2 at *
  have i:=lH hb2
  obtain ⟨C,s,t,c3,c4,y,z,D⟩:=Q.o w2 hb2.bel
  clear hb2
  go_wp2
  clear C s t c3 c4 y z D
  go_loopw [56,0] (fun a7 u wr=>∃ j:Nat,j<=K.length/\a7=.int .i64 j/\Buf B w0 wr u (l++(P.flatten++g.flatten)++itemsB (K.take j))) (fun a7 _ _=>K.length - (intOf a7).toNat)
  case atStart=>exact ⟨0,by omega,rfl,by simpa [itemsB] using i.o⟩
  case round=>
   obtain ⟨j,hj,rfl,a6⟩:=hrel;have a4:=lH a6;obtain ⟨C,s,t,c3,c4,y,z,D⟩:=Q.o wr a6.bel;clear a6;by_cases Z:j<K.length
   ·have az:(j:Int)<(K.length:Int):=(by omega);obtain ⟨kb,b1,b8,kv,k',rfl,e1,-,-,ay,Y⟩:=av.o.item j Z;simp at e1;obtain ⟨rfl,rfl⟩:=e1;have ao:(l++(P.flatten++g.flatten)++itemsB (K.take j)++itemB K[j]).length+30<=140737488355328:=by
     have:=zFr K (j+1);rw [qFx Z,Zj] at this;have:=ax.o;simp only [Zj] at this ⊢;omega
    have cI:=lH (au.o k' (by omega) kb (b1+j*8) K[j] kv _ _ wr Y ay (zGr.1 aw.o _ (Zl Z)) a4.o ao);rw [List.append_assoc (l++(P.flatten++g.flatten)),<- qFx Z] at cI;clear Y ao;go_wp2_with (go_at_call 29;(with_reducible refine cI.o.mono ?_);rintro e w3 ⟨v3,rfl,b3⟩;have S:=lH b3;clear b3)
    go_roundw;case rel=>exact ⟨j+1,by omega,by go_num,S.o⟩
    case measure=>simp [intOf];omega
   ·have T:K.take j=K:=Zn (by omega);have az:¬ (j:Int)<(K.length:Int):=(by omega);rw [T] at a4;go_wp2;go_ret;refine ⟨_,rfl,?_⟩;have:=a4.o;simp only [List.append_assoc] at this ⊢;exact this
def rdEvK (B:Nat->Prop) (k:Nat) (w:World) (cs:List Value) (e:Evt):Prop:=∃ v,cs=[.int .i64 e.kind,.int .i64 e.node,.int .i64 e.dest,.int .i64 e.spot]++qQi e.item.h v/\ItsK B k w v e.item.kids
abbrev EvsK (B:Nat->Prop) (k:Nat) (w:World) (v:Value) (l:List Evt):Prop:=qQa 12 (rdEvK B k) B w v l
structure EvAt (B:Nat->Prop) (k:Nat) (w:World) (b o:Nat) (e:Evt) (kv:Value):Prop where
 kind:w.cell? ⟨b,o,none⟩=some (.int .i64 e.kind)
 node:w.cell? ⟨b,o+1,none⟩=some (.int .i64 e.node)
 dest:w.cell? ⟨b,o+2,none⟩=some (.int .i64 e.dest)
 spot:w.cell? ⟨b,o+3,none⟩=some (.int .i64 e.spot)
 item:ItC B k w b (o+4) e.item kv
theorem EvsK.ev {B:Nat->Prop} (h:EvsK B k w v l) (i:Nat) (p:i<l.length) :
 ∃ b o c kv,v=.slice (some ⟨b,o,none⟩) l.length c/\B b/\EvAt B k w b (o+i*12) l[i] kv:=by
 obtain ⟨b,o,c,C,d,e,q,H,g⟩:=qQa.elem h i p;obtain ⟨kv,rfl,m⟩:=g;have z:=H 0 _ rfl;rw [Nat.add_zero] at z;have f:=H 4 _ rfl;have a:=fun j=>Nat.add_assoc (o+i*12) 4 j;exact ⟨b,o,c,kv,d,e,z,H 1 _ rfl,H 2 _ rfl,H 3 _ rfl,f,by rw [a];exact H 5 _ rfl,by rw [a];exact H 6 _ rfl,by rw [a];exact H 7 _ rfl,by rw [a];exact H 8 _ rfl,by rw [a];exact H 9 _ rfl,by rw [a];exact H 10 _ rfl,by rw [a];exact H 11 _ rfl,m⟩
theorem EvsK.later {m:Nat} {w':World} (h:EvsK (·<n) k w v l) (H:Below m w w') (a:n<=m):EvsK (·<n) k w' v l:=
 qQa.agree h (qZt.mono (qZt.below H) (fun _ H=>Zc H a)) (fun C e _ r=>by
  obtain ⟨u,b,c⟩:=r;exact ⟨u,b,c.later H a⟩)
theorem zHc (h:j<l.length):evsB (l.take (j+1))=evsB (l.take j)++evB l[j]:=by
 unfold evsB;rw [Zk h,List.flatMap_append];simp
theorem evsB_le (l:List Evt) (j:Nat):(evsB (l.take j)).length<=(evsB l).length:=by
 have e:evsB l=evsB (l.take j)++evsB (l.drop j):=by rw [<- evsB_app,List.take_append_drop]
 rw [e,Zj];omega
theorem zQj {n k: Nat} {v: Value} {E: List Evt} {w: World} (hv : EvsK (· < n) k w v E) (hn : n <= w.heap.size) (F : ∀ e ∈ E, EvOk e) (hl : (evsB E).length + 30 <= 140737488355328) (C : Lib.TabIs Tryz.prog w "internal/strconv.uint64pow10" .u64 Lib.pow10Tab) :
 Calls Tryz.prog 11 #[v] w fun e w'=>∃ v',e=.returned v'/\Buf w.heap.size w w' v' (evsB E):=by
 have T:Hi (Tab w.heap.size w):=lH (Lib.tabBelow_of_tabIs C);obtain ⟨va,vc,rfl,_,_⟩:=Rf hv;have HV:=lH hv;have ad:=lH F;have HL:=lH hl;clear hv F hl C;go_enter Tryz.func11,Tryz.ntmps11
 go_wp2;go_loopw [8,3] (fun z u wr=>∃ j:Nat,j<=E.length/\z=.int .i64 j/\Buf w.heap.size w wr u (evsB (E.take j))) (fun z _ _=>E.length - (intOf z).toNat)
 case atStart=>exact ⟨0,by omega,rfl,by simpa [evsB] using Buf.nil (Zb _)⟩
 case round=>
  obtain ⟨j,hj,rfl,a4⟩:=hrel;have J:=lH a4;clear a4;by_cases I:j<E.length
  ·have al:(j:Int)<(E.length:Int):=(by omega);have B:=lH (zHc I);have Z:=lH (evsB_le E (j+1));obtain ⟨b,o,am,kv,e1,ak,hE⟩:=HV.o.ev j I;simp at e1;obtain ⟨rfl,rfl⟩:=e1;obtain ⟨a0,c0,rfl⟩:=J.o.form;have F:=ad.o _ (Zl I);generalize E[j]=ev at *
   obtain ⟨s,t,q,A,x⟩:=ev;obtain ⟨K,M,N,O,Q⟩:=F;obtain ⟨R,S,V,X,kI⟩:=hE;simp only at K M N O Q R S V X kI;have a6:Hi (∀ W,Below w.heap.size w W->W.cell? ⟨b,o+j*12,none⟩=some (.int .i64 s)/\W.cell? ⟨b,o+j*12+1,none⟩=some (.int .i64 t)/\W.cell? ⟨b,o+j*12+2,none⟩=some (.int .i64 q)/\W.cell? ⟨b,o+j*12+3,none⟩=some (.int .i64 A)):=lH (fun W h=>by
    have D:∀ j,W.cell? ⟨b,j,none⟩=w.cell? ⟨b,j,none⟩:=fun j=>by
     unfold World.cell?;rw [h.block b (by omega)]
    rw [D,D,D,D];exact ⟨R,S,V,X⟩)
   obtain ⟨P,g⟩:∃ P:List Txt,P=[numB s,numB t,numB q,numB A,itemB x]:=⟨_,rfl⟩;have a3:evB ⟨s,t,q,A,x⟩=P.flatten:=(by rw [g];simp [evB]);rw [a3] at B;have ai:Hi (qJ8 (evsB (E.take j)) P 5=evsB (E.take (j+1))):=lH (by rw [B.o,g];rfl);have p:Hi (∀ m,(qJ8 (evsB (E.take j)) P m).length+30<=140737488355328):=lH (fun m=>by
    have h1:=qH9 (evsB (E.take j)) P m;rw [<- B.o] at h1;have h2:=Z.o;have h3:=HL.o;omega)
   have ae:Hi (P[0]?=some (numB s)):=lH (by rw [g];rfl);have af:Hi (P[1]?=some (numB t)):=lH (by rw [g];rfl);have ag:Hi (P[2]?=some (numB q)):=lH (by rw [g];rfl);have ah:Hi (P[3]?=some (numB A)):=lH (by rw [g];rfl);have a1:Hi (P[4]?=some (itemB x)):=lH (by rw [g];rfl);have aj:Hi (qJ8 (evsB (E.take j)) P 0=evsB (E.take j)):=lH (by simp [qJ8]);have a7:=lH K;have a8:=lH M;have a9:=lH N;have aa:=lH O;have ac:=lH Q;have ab:=lH kI;clear K M N O Q kI R S V X g a3 B Z;generalize evsB (E.take j)=Y at *
   go_upto_region 6 with fail
   refine qQ6 [0,1,2,3,4,6,7,8,9,11,12,13,14,16,17,18,19,21,22,23] [(5,some 19,[]),(10,some 24,[5]),(15,some 29,[10]),(20,some 34,[15]),(24,some 38,[20])] [25] (qBy [5,10,15,20,24] (fun j u W=>Buf w.heap.size w W u (qJ8 Y P j)) (.slice a0 Y.length c0)) (by kernel_rfl) (by kernel_rfl) (.start ?_) ?_
   ·have h:=J.o;simp only [aj.o];exact ⟨h.own,⟨h.bel.os,h.bel.tape,h.bel.output,h.bel.size,h.bel.block⟩,h.le⟩
   simp only [pickL,List.map_cons,List.map_nil,List.filterMap_cons,List.filterMap_nil,Zd,Ze];iterate 20 (refine qZp.cons (v:=?_) (fun _=>Says.plain ?_ ?_) ?_;rotate_left;rfl;(intro w' H;obtain ⟨d0,d1,d2,d3⟩:=a6.o w' (H.any (fun _ _ h=>h.bel));clear H;go_simp;with_reducible rfl);simp only [Act.put,Zh,Zf,Zg])
   refine qZp.nil ⟨by simp,⟨?_,?_,?_,?_,?_,trivial⟩,?_⟩
   ·intro y G W d i r H;have c:=H.here 0 (by simp) d (.inl rfl);simp only [if_true] at c;refine qZw rfl (r.1 _ (fun _ _ _ _ h=>by cases h)) (args:=#[.slice a0 Y.length c0,.int .i64 s]) ?_ qYl ((qZk c a7.o (by have:=p.o 0;omega) T.o).mono ?_)
    ·simp only [List.map_toArray,List.map_cons,List.map_nil];rw [r.1 (.tmp 14) (by simp),r.1 (.tmp 18) (by simp)];rfl
    ·rintro e w' ⟨f,rfl,h⟩;exact ⟨f,rfl,H.next (by decide) 0 (by simp) d (.inl rfl) (by rw [qQ9 ae.o] at h;exact h)⟩
   ·intro y G W d i r H;obtain ⟨U,a⟩:=i 5 (by simp);have c:=H.here 1 (by simp) d (.inr ⟨U,a⟩);simp only [List.getD_cons_zero,Nat.reduceSub,a,Option.getD_some] at c;rw [if_neg (by decide)] at c;refine qZw rfl (r.1 _ (fun _ _ _ _ h=>by cases h)) (args:=#[U,.int .i64 t]) ?_ qYl ((qZk c a8.o (by have:=p.o 1;omega) T.o).mono ?_)
    ·simp only [List.map_toArray,List.map_cons,List.map_nil];rw [r.2 (5,some 19,[]) (by simp) 19 _ rfl a,r.1 (.tmp 23) (by simp)];rfl
    ·rintro e w' ⟨f,rfl,h⟩;exact ⟨f,rfl,H.next (by decide) 1 (by simp) d (.inr ⟨U,a⟩) (by rw [qQ9 af.o] at h;exact h)⟩
   ·intro y G W d i r H;obtain ⟨U,a⟩:=i 10 (by simp);have c:=H.here 2 (by simp) d (.inr ⟨U,a⟩);simp only [List.getD_cons_succ,List.getD_cons_zero,Nat.reduceSub,a,Option.getD_some] at c;rw [if_neg (by decide)] at c;refine qZw rfl (r.1 _ (fun _ _ _ _ h=>by cases h)) (args:=#[U,.int .i64 q]) ?_ qYl ((qZk c a9.o (by have:=p.o 2;omega) T.o).mono ?_)
    ·simp only [List.map_toArray,List.map_cons,List.map_nil];rw [r.2 (10,some 24,[5]) (by simp) 24 _ rfl a,r.1 (.tmp 28) (by simp)];rfl
    ·rintro e w' ⟨f,rfl,h⟩;exact ⟨f,rfl,H.next (by decide) 2 (by simp) d (.inr ⟨U,a⟩) (by rw [qQ9 ag.o] at h;exact h)⟩
   ·intro y G W d i r H;obtain ⟨U,a⟩:=i 15 (by simp);have c:=H.here 3 (by simp) d (.inr ⟨U,a⟩);simp only [List.getD_cons_succ,List.getD_cons_zero,Nat.reduceSub,a,Option.getD_some] at c;rw [if_neg (by decide)] at c;refine qZw rfl (r.1 _ (fun _ _ _ _ h=>by cases h)) (args:=#[U,.int .i64 A]) ?_ qYl ((qZk c aa.o (by have:=p.o 3;omega) T.o).mono ?_)
    ·simp only [List.map_toArray,List.map_cons,List.map_nil];rw [r.2 (15,some 29,[10]) (by simp) 29 _ rfl a,r.1 (.tmp 33) (by simp)];rfl
    ·rintro e w' ⟨f,rfl,h⟩;exact ⟨f,rfl,H.next (by decide) 3 (by simp) d (.inr ⟨U,a⟩) (by rw [qQ9 ah.o] at h;exact h)⟩
   ·intro y G W d i r H;obtain ⟨U,a⟩:=i 20 (by simp);have c:=H.here 4 (by simp) d (.inr ⟨U,a⟩);simp only [List.getD_cons_succ,List.getD_cons_zero,Nat.reduceSub,a,Option.getD_some] at c;rw [if_neg (by decide)] at c;refine qZw rfl (r.1 _ (fun _ _ _ _ h=>by cases h)) (args:=#[U,.pointer (some ⟨b,o+j*12+4,none⟩)]) ?_ cf_witem ((zQz T.o hn k b (o+j*12+4) _ kv _ _ _ ab.o ak ac.o c (by have h:=p.o 5;rw [<- qQ9 a1.o] at h;exact h)).mono ?_)
    ·simp only [List.map_toArray,List.map_cons,List.map_nil];rw [r.2 (20,some 34,[15]) (by simp) 34 _ rfl a,r.1 (.tmp 37) (by simp)];rfl
    ·rintro e w' ⟨f,rfl,h⟩;exact ⟨f,rfl,H.next (by decide) 4 (by simp) d (.inr ⟨U,a⟩) (by rw [qQ9 a1.o] at h;exact h)⟩
   intro a2 w1 H;have hb1:=H.last 4 rfl (u:=a2 24) rfl;simp only [ai.o] at hb1;simp only [List.foldl_cons,List.foldl_nil,Zh,Zf,Zg];clear H;generalize a2 24=v1 at *
   have a5:=lH hb1;clear hb1;go_wp2;go_roundw;case rel=>exact ⟨j+1,by omega,by go_num,a5.o⟩
   case measure=>simp [intOf];omega
  ·have C:E.take j=E:=Zn (by omega);have al:¬ (j:Int)<(E.length:Int):=(by omega);rw [C] at J;go_wp2;go_ret;exact ⟨_,rfl,J.o⟩

/- the closed fact of the laws of serve. -/
import Derived.Test.YthbhcdbedfimhaaGreatDoorWireLaid
set_option maxRecDepth 100000
set_option maxHeartbeats 4000000
namespace Go.Proofs.YthbhcdbedfimhaaGreatDoor
open Go.RowKit
variable {ok ok':Bool} {B:Fl} {h:Hd} {b:List It} {a a' base f g k m n r:Nat} {o:Oper} {x:Operand} {ρ:Operand->Value} {P:Program} {l:Txt} {e t:TypeId} {bv v:Value} {R:Value->World->Prop} {w w' w0:World}
def aliveL:List Qs:=[⟨1,0,⟨1,0,0,-1,[98,117,116,116,111,110],[]⟩⟩,⟨4,1,⟨0,0,0,0,[],[]⟩⟩,⟨2,0,⟨0,0,0,0,[],[]⟩⟩,⟨5,0,⟨0,0,0,0,[],[]⟩⟩]
theorem zV7:∃ c d i j,(playR aliveL ⟨rootD,[],[],[]⟩).2=[c,d,i,j]/\c.n=1/\d.text=[98,117,116,116,111,110]/\i.n=2/\j.items.length=1:=
 ⟨_,_,_,_,rfl,by decide +kernel,by decide +kernel,by decide +kernel,by decide +kernel⟩
def qF1 (a:Qs):List Value:=[.int .i64 a.kind,.int .i64 a.node,.int .i64 a.chg.kind,.int .i64 a.chg.node,.int .i64 a.chg.dest,.int .i64 a.chg.before,.string ⟨a.chg.name.toArray⟩,.string ⟨a.chg.value.toArray⟩]
theorem asks_lit (w:World) (L:List Qs) (e:TypeId) (s:L.length<=1000):zW2 (·<w.heap.size+1) (w.alloc (.cells (L.flatMap qF1).toArray e)) (.slice (some ⟨w.heap.size,0,none⟩) L.length L.length) L:=by
 have H:=Blk.new w _ rfl (L.flatMap qF1) e;refine .inr ⟨_,0,L.length,rfl,Zb _,by omega,fun i d=>⟨Nat.lt_succ_self _,qF1 L[i],rfl,fun j u p=>?_,rfl⟩⟩;rw [H.cell,Nat.zero_add,List.flatMap_def];exact qJy (fun x q=>by obtain ⟨c,_,rfl⟩:=List.mem_map.1 q;rfl) i (by simpa using d) j u (by simpa using p)
abbrev TabAt (w : World) : Prop := ∀ W, Bel w W -> Lib.TabIs Tryz.prog W "internal/strconv.uint64pow10" .u64 Lib.pow10Tab
theorem zZo (T:TabAt w):Calls Tryz.prog 4 #[] w (Rb (.bool true) w):=by
 obtain ⟨r0,r1,r2,r3,M,d,i,j,p⟩:=zV7;have u:Bel w (w.alloc (.cells (aliveL.flatMap qF1).toArray 38)):=(Br w).alloc _;have C:=lH (qWo (asks_lit w aliveL 38 (by decide)) (by simp) (by decide) fun W h=>T W (Bt u h));unfold PlAns at C;rw [M,if_neg (by decide),if_neg (by decide)] at C;have D:=lH u;have H:=lH (And.intro (And.intro d i) (And.intro j p));clear u M d i j p T;go_enter Tryz.func4,Tryz.ntmps4
 go_upto_region 2 with (go_at_call 5;(refine C.o.mono ?_);rintro e w2 ⟨G,a0,rfl,S,V,U,ta,tn,tc,Y,mn,Z,O,X,Q,ra,rn,rc,rfl,rfl,F⟩;have N:=lH (Bt D.o G);have c:=lH F;clear G F)
 obtain ⟨b,o,s,rfl,_,⟨q,I,rfl,_,_⟩,_,_,K⟩:=c.o.cells (by decide) 0 (Nat.le_of_ble_eq_true rfl);obtain ⟨_,_,s,E,_,⟨q,I,rfl,_,_⟩,_,_,y⟩:=c.o.cells (by decide) 1 (Nat.le_of_ble_eq_true rfl);cases E;obtain ⟨_,_,s,E,_,⟨q,I,rfl,_,_⟩,_,_,z⟩:=c.o.cells (by decide) 2 (Nat.le_of_ble_eq_true rfl);cases E;obtain ⟨_,_,s,E,_,⟨q,I,rfl,_,J⟩,_,_,A⟩:=c.o.cells (by decide) 3 (Nat.le_of_ble_eq_true rfl);cases E;obtain ⟨O,Q,rfl,_,_⟩:=Rf J;replace K:=K 1 (by decide);replace y:=y 2 (by decide);replace z:=z 1 (by decide);replace A:=A 4 (by decide);obtain ⟨⟨d,i⟩,j,p⟩:=H.o;simp only [List.getElem_cons_zero,List.getElem_cons_succ,Zd,Ze,d,i,j,p] at K y z A;clear c J d i j p H D;go_wp2;go_ret;exact ⟨rfl,N.o.alloc _⟩
set_option maxRecDepth 100000
set_option maxHeartbeats 1000000
abbrev fltW (w:World):World:=w.alloc (.cells #[.int .i64 0,.int .i64 0] 46)
theorem qHs {l:List It} {T:Option Addr} {ec:Nat} (hl:ItsK (·<m) k w v l) (hm:m<=w.heap.size) (hn:(nodesL l).length<=1000000000) (a8:n<=9223372036854775807) (Q:World->Value->Prop) (M:Nat->Nat->World->Prop)
 (U:∀ W q y B,Bel (fltW w) W->OwnT (w.heap.size+1) k W y l B->Bel W q->Blk q W.heap.size [y] 26->M W.heap.size 0 q)
 (hs:∀ d i wr,w.heap.size<d->i<n->M d i wr->∃ b E,T=some ⟨b,E,none⟩/\Calls Tryz.prog 14 #[.pointer (some ⟨d,0,none⟩),.pointer (some ⟨b,E+i*12,none⟩)] wr fun r w'=>r=.returned (.int .i64 0)/\M d (i+1) w')
 (he:∀ d i wr,M d i wr->i<=n/\Bel (fltW w) wr/\(n<=i->∃ Y p j,wr.cell? ⟨d,0,none⟩=some (.slice Y p j)/\Q wr (.slice Y p j)))
 (hq:∀ wr A u,Q wr u->wr.heap.size<=A.heap.size->(∀ b,w.heap.size<b->A.heap[b]?=wr.heap[b]?)->Q A u) :
 Calls Tryz.prog 7 #[v,.slice T n ec] w (Rn w fun w' y=>∃ Y p j,y=.tuple #[.slice Y p j,.agg #[.int .i64 0,.int .i64 0]]/\Q w' (.slice Y p j)):=by
 have a6:(fltW w).heap.size=w.heap.size+1:=by simp
 have H:Bel w (fltW w):=(Br w).alloc _;have J:=lH (Blk.new' w _ rfl #[.int .i64 0,.int .i64 0] 46);have C:=lH (qJ2 k m v l (fltW w) (hl.later H hm) (Za hm H.size) hn);rw [a6] at C;have a1:=lH H;have G:=lH U;have HS:=lH hs;have HE:=lH he;have HQ:=lH hq;clear hl H U hs he hq;generalize a0:fltW w=w1 at *
 go_enter Tryz.func7,Tryz.ntmps7
 go_upto_region 1 with fail
 rw [show w.alloc (.cells #[.int .i64 0,.int .i64 0] 46)=w1 from a0] at J;clear a0;go_upto_region 2 with (go_at_call 13;(with_reducible refine C.o.mono ?_);rintro e W ⟨N,y,rfl,B,O⟩;obtain ⟨Y,j,rfl,_,_⟩:=Rf O.its;have s:=lH N;have K:=lH O;clear N O)
 refine qY7 ?_;intro q X Z;have HM:=lH (G.o W q _ B s.o K.o X Z);have HX:Hi (w.heap.size<W.heap.size):=lH (by have:=s.o.size;omega);clear X Z K s G C;generalize W.heap.size=d at *
 go_wp2;go_loopw [13] (fun z wr=>∃ i:Nat,z=.int .i64 i/\M d i wr) (fun z _=>n - (intOf z).toNat)
 case atStart=>exact ⟨0,rfl,HM.o⟩
 case round=>
  obtain ⟨i,rfl,D⟩:=hrel;obtain ⟨hi,V,hY⟩:=HE.o _ _ _ D;have a3:=lH D;have I:=lH V;have HY:=lH hY;clear D V hY;by_cases a5:i<n
  ·have a7:(i:Int)<(n:Int):=(by omega);obtain ⟨b,E,rfl,c⟩:=HS.o d i _ HX.o a5 a3.o;have HC:=lH c;clear c;go_wp2_with (go_at_call 14;(with_reducible refine HC.o.mono ?_);rintro r w6 ⟨rfl,m6⟩;have a2:=lH m6;clear m6)
   go_roundw;case rel=>exact ⟨i+1,by go_num,a2.o⟩
   case measure=>simp [intOf];omega
  ·obtain ⟨Y,p,j,hc,hQ⟩:=HY.o (by omega);have F:=J.o.bel I.o;have c0:=F.cell;have f0:=F.frozen;have a4:=lH hQ;have HF:=lH F;clear F hQ;go_wp2;have S:=((HF.o.set 0 (.int .i64 0)).set 1 (.int .i64 0)).cell;have k0:=S 0;have k1:=S 1;simp only [Zd,Ze,Zf,Zg] at k0 k1;refine bodyPost_ret (v:=.tuple #[.slice Y p j,.agg #[.int .i64 0,.int .i64 0]]) (by simp [results,Tryz.results7,go_sem,k0,k1]) rfl ⟨((Bt a1.o I.o).setCell _ _ _ (Zb _)).setCell _ _ _ (Zb _),_,rfl,Y,p,j,rfl,HQ.o _ _ _ a4.o (by simp) fun b hb=>?_⟩;rw [Below.heap_setCell _ _ _ _ (by show b≠w.heap.size;omega),Below.heap_setCell _ _ _ _ (by show b≠w.heap.size;omega)]
theorem GoesL.fits {L:List Int} {t T:Fl} {E:List Evt} (h:GoesL t E T):Wf t->Fits L t->(∀ e∈E,e.kind=2->e.item.h.node∈L)->Fits L T:=by
 induction h with
 | nil=>intro _ H _;exact H
 | cons g _ I=>intro d H c;exact I (g.wf d) (g.fits d H (c _ (by simp))) (fun e i=>c e (by simp [i]))
theorem place_ev (p:Wf B) (j:zQ7 B):∀ (f:Nat) (w:Int) (t:Fl) (e:Evt),e∈(qQ0 B f w t).2->e.kind=2->Has B e.item.h.node:=by
 intro f;induction f with
 | zero=>intro w t e H;simp [qQ0] at H
 | succ f I=>
   intro w t e;have G:∀ (l:List Int) (i:Nat) (t:Fl),(∀ x∈l,Has B x)->e∈(qJu (qQ0 B f) B w i l t).2->e.kind=2->Has B e.item.h.node:=by
    intro l;induction l with
    | nil=>intro i t _ H;simp [qJu] at H
    | cons x l s=>
      intro i t c H d;rw [qJu] at H;rcases List.mem_append.1 H with H | H
      ·unfold qZ2 at H;split at H
       ·split at H
        ·simp at H
        ·rw [List.mem_singleton] at H;subst H;simp at d
       ·rw [List.mem_singleton] at H;subst H;show Has B (B.head x).node;rw [j x (c x (by simp))];exact c x (by simp)
      ·rcases List.mem_append.1 H with H | H
       ·exact I _ _ _ H d
       ·exact s _ _ (fun y q=>c y (by simp [q])) H d
   exact G _ _ _ (fun x c=>(p.has_kid c).1)
theorem zB0:∀ (l:List Int) (t:Fl) (e:Evt),e∈(lonesF B l t).2->e.kind=1:=by
 intro l;induction l with
 | nil=>intro t e H;simp [lonesF] at H
 | cons n l i=>
   intro t e H;unfold lonesF at H;split at H
   ·rcases List.mem_cons.1 H with H | H
    ·rw [H]
    ·exact i _ e H
   ·exact i _ e H
theorem drops_ev:∀ (l:List Int) (t:Fl) (e:Evt),e∈(dropsF B l t).2->e.kind=1:=by
 intro l;induction l with
 | nil=>intro t e H;simp [dropsF] at H
 | cons n l i=>
   intro t e H;unfold dropsF at H;split at H
   ·rcases List.mem_cons.1 H with H | H
    ·rw [H]
    ·exact i _ e H
   ·exact i _ e H
theorem tells_ev:∀ (l:List Int) (t:Fl) (e:Evt),e∈(tellsF B l t).2->e.kind=4:=by
 intro l;induction l with
 | nil=>intro t e H;simp [tellsF] at H
 | cons n l i=>
   intro t e H;unfold tellsF at H;split at H
   ·rcases List.mem_cons.1 H with H | H
    ·rw [H]
    ·exact i _ e H
   ·exact i _ e H
theorem its_nest {t:Fl} {i:Int->Nat} {N:Nat} (F:Falls t.kids i N):∀ (f:Nat) (n:Int) (l:List It),N<i n+f->t.kids n=l.map (fun x=>x.h.node)->zZg t l->itsOf t f n=l:=by
 intro f;induction f with
 | zero=>intro n l h;have:=F.top n;omega
 | succ f I=>
   intro n l h c j;rw [itsOf,c,List.map_map];conv=>rhs;rw [<- List.map_id l]
   refine List.map_congr_left (fun x d=>?_);have H:=(zK4 t l).1 j x d;rw [nestI_eq] at H;have p:=F.down n x.h.node (by rw [c];exact List.mem_map.2 ⟨x,d,rfl⟩);show It.mk (t.head x.h.node) (itsOf t f x.h.node)=x;rw [H.1,I x.h.node x.kids (by omega) H.2.1 H.2.2];cases x;rfl
theorem evs_go {a:List It} (C:qYb a) (i:qYb b):∃ T,GoesL (qQj a) (evsM a b) T/\(∀ e∈evsM a b,e.kind=2->e.item.h.node∈nodesL a++nodesL b)/\Wf T/\(∃ K,Falls T.kids K ((nodesL a++nodesL b).length+1))/\T.kids (-1)=b.map (fun x=>x.h.node)/\zZg T b:=by
 have W:=qXv C;have j:=qXv i;have p:=qW2 i;have q:∀ n,n∈nodesL b↔Has (qQj b) n:=fun n=>(qX3 i).symm;have A:Fits (nodesL a++nodesL b) (qQj a):=qY5 C (fun m s=>List.mem_append.2 (.inl s));have y:Fits (nodesL a++nodesL b) (qQj b):=qY5 i (fun m s=>List.mem_append.2 (.inr s));obtain ⟨K,F⟩:=qY1 j y;have I:∀ e∈(qQ0 (qQj b) ((nodesL a++nodesL b).length+2) (-1) (lonesF (qQj b) (nodesL a) (qQj a)).1).2,e.kind=2->e.item.h.node∈nodesL a++nodesL b:=fun e H c=>y _ (place_ev j p _ _ _ e H c);have G:=zKi (B:=qQj b) W (nodesL a);have J:=G.wf W;have S:=G.fits W A (fun e H c=>by rw [zB0 _ _ e H] at c;cases c);have Y:∀ t,t=(qQ0 (qQj b) ((nodesL a++nodesL b).length+2) (-1) (lonesF (qQj b) (nodesL a) (qQj a)).1).1->∃ u N,Falls t.kids u N/\N<(nodesL a++nodesL b).length+2:=fun t ht=>by
  have O:Inv (qQj b) (lonesF (qQj b) (nodesL a) (qQj a)).1 (fun _=>0):=⟨J,fun _=>Nat.zero_le _,fun _=>by simp,fun _ h=>by simp at h⟩;obtain ⟨U,Q⟩:=zKn j p F ((nodesL a++nodesL b).length+2) (-1) _ _ O (.inl rfl) (by omega) (fun _ _=>rfl);obtain ⟨u,M⟩:=qY1 Q.wf (U.fits J S I);rw [ht];exact ⟨u,_,M,by omega⟩
 obtain ⟨z,c,V,X,h5⟩:=of_ok W j p (la:=nodesL a) q F (f:=(nodesL a++nodesL b).length+2) (by omega) Y;have E:∀ e∈evsM a b,e.kind=2->e.item.h.node∈nodesL a++nodesL b:=fun e H d=>by
  unfold evsM ofF at H;simp only [List.mem_append] at H;rcases H with H | H | H | H
  ·rw [zB0 _ _ e H] at d;cases d
  ·exact I e H d
  ·rw [drops_ev _ _ e H] at d;cases d
  ·rw [tells_ev _ _ e H] at d;cases d
 have D:=zK8 i (t:=(ofF (qQj a) (qQj b) (nodesL a) (nodesL b) ((nodesL a++nodesL b).length+2)).1) (fun w hw=>V w (hw.imp id (fun h=>(q w).1 h))) (fun n Z=>X n ((q n).1 Z));exact ⟨_,z,E,c,qY1 c (z.fits W A E),D.1,D.2⟩
theorem its_one {B:Nat->Prop} {kv:Value} {K:List It} (p:ItsK B f w kv K) (g:Nat) (c:B g) (d:Blk w g (qQe h kv) e):ItsK B (f+1) w (.slice (some ⟨g,0,none⟩) 1 1) [.mk h K]:=by
 refine .inr ⟨g,0,1,rfl,by simp,by omega,fun i H=>⟨c,qQe h kv,rfl,?_,?_⟩⟩
 ·obtain rfl:i=0:=by simpa using H
  intro j u q;have:=d.cell j;rw [q] at this;simpa using this
 ·obtain rfl:i=0:=by simpa using H
  exact ⟨kv,rfl,p⟩
theorem OfAt.le {K:Nat} (s:k<=K) {y:Value} {a:List It} (h:OfAt base k w y a b):OfAt base K w y a b:=by
 unfold OfAt at h ⊢;split
 ·rename_i H;rw [if_pos H] at h;obtain ⟨q,u,g,v,c,d,i,j,p⟩:=h;exact ⟨q,u,g,v,c,d,i,j,p.le s⟩
 ·rename_i H;rw [if_neg H] at h;exact h
set_option maxRecDepth 100000
set_option maxHeartbeats 1000000
theorem qFm {i eb eo:Nat} {ks:List It} (s:Blk w i [bv] 26) (hE:Cells w eb eo ([.int .i64 5,.int .i64 0,.int .i64 0,.int .i64 0]++qQe h v)) (u:ItsK (·<m) k w v ks) (hm:m<=w.heap.size) (z:(nodesL [It.mk h ks]).length<=1000000000) :
 Calls Tryz.prog 14 #[.pointer (some ⟨i,0,none⟩),.pointer (some ⟨eb,eo,none⟩)] w fun r w'=>r=.returned (.int .i64 0)/\∃ y Y,w.grownBy w' (some i)/\Blk w' i [.slice y 1 Y] 26/\ItsK (fun b=>w.heap.size<=b/\b<w'.heap.size) (k+1) w' (.slice y 1 Y) [.mk h ks]:=by
 obtain ⟨V,A,rfl,_,_⟩:=Rf u;have p:Bel w (w.alloc (.cells (qQe h (.slice V ks.length A)).toArray 59)):=(Br w).alloc _;have F:=lH (qJ2 (k+1) (w.heap.size+1) _ [.mk h ks] _ (its_one ((u.later p hm).mono fun b (H:b<m)=>by omega) w.heap.size (by omega) (Blk.new' w _ rfl _ _)) (by simp) z);have I:w.cell? ⟨eb,eo,none⟩=_:=hE 0 _ rfl;have C:∀ j,j<8->w.cell? ⟨eb,eo+4+j,none⟩=(qQe h (.slice V ks.length A))[j]?:=fun j N=>by
  have:=hE.at (j+4) (by simp [qQe];omega);rw [show eo+4+j=eo+(j+4) by omega,this];exact (Zi (by simp [qQe];omega)).symm
 have c4:w.cell? ⟨eb,eo+4,none⟩=_:=C 0 (by decide);have D:=lH p;have X:=lH (s.bel p);have a0:=s.lt;obtain ⟨T,hr,U,K,Q,M,Z⟩:=h;clear s hE u p z;unfold qQe at C c4;go_enter Tryz.func14,Tryz.ntmps14
 go_wp2_with (go_at_call 13;(refine F.o.mono ?_);rintro e W ⟨d,a1,rfl,S,O⟩;obtain ⟨y,Y,rfl,_,_⟩:=Rf O.its;have c:=lH (Bt D.o d);have E:=lH (O.its.mono fun b H=>O.lt b H);have q:=lH (X.o.bel d);have J:=d.size;have x0:=q.o.cell;have xf:=q.o.frozen;clear d O)
 go_ret;exact ⟨rfl,y,Y,⟨c.o.os,c.o.tape,c.o.output,by simpa using c.o.size,fun b H G=>(Below.heap_setCell W _ _ b (fun e=>G (by rw [e]))).trans (c.o.block b H)⟩,q.o.set 0 _,(E.o.agree (fun b H=>Below.heap_setCell W _ _ b (fun e=>by simp at H e;omega))).mono (fun b H=>⟨by simp at H;omega,by simpa using H.2⟩)⟩
set_option maxRecDepth 100000
set_option maxHeartbeats 4000000
def zYm (l:Txt) (a:Nat) (ok:Bool) (n a':Nat) (ok':Bool):Prop:=
 a'+n<=l.length/\(ok'=true->ok=true/\fewP (l.drop a)=some (n,l.drop a'))/\(ok'=false->n=0/\(ok=false∨fewP (l.drop a)=none))
def jQu (r:Nat) (bv:Value) (l:Txt) (a:Nat) (ok:Bool) (w:World) (e:Ending) (w':World):Prop:=∃ n a' ok',e=.returned (.int .i64 ((n:Nat):Int))/\Rd r bv w' a' ok'/\Ky r w w'/\zYm l a ok n a' ok'
theorem qHo.few {l:Txt} {a':Nat} {v:Int} (h:qHo l a ok v a' ok') (H:0<=v) (hv:v<=(l.length:Int) - (a':Int)):zYm l a ok v.toNat a' ok':=by
 obtain ⟨i,c,d⟩:=h;refine ⟨by omega,fun e=>?_,fun e=>?_⟩
 ·obtain ⟨Q,q⟩:=c e;refine ⟨Q,?_⟩;rw [fewP,q];simp only;rw [if_pos ⟨H,by simp;omega⟩]
 ·obtain ⟨Q,q⟩:=d e;refine ⟨by rw [Q];rfl,?_⟩;rcases q with q | q
  ·exact .inl q
  ·exact .inr (by rw [fewP,q])
theorem qHo.much {l:Txt} {a':Nat} {v:Int} (h:qHo l a ok v a' ok') (hv:v<0∨(l.length:Int) - (a':Int)<v):zYm l a ok 0 a' false:=by
 obtain ⟨i,H,c⟩:=h;refine ⟨by omega,by simp,fun _=>⟨rfl,?_⟩⟩;cases ok' with
 | false=>rcases (c rfl).2 with q | q
    ·exact .inl q
    ·exact .inr (by rw [fewP,q])
 | true=>
   obtain ⟨j,Q⟩:=H rfl;refine .inr ?_;rw [fewP,Q];simp only;rw [if_neg];rintro ⟨p,d⟩;simp at d;omega
theorem Ky.drewN (h:Ky r w w') (n:Nat):Ky r w (w'.drewN n):=⟨h.os,h.tape,h.output,h.size,h.block⟩
theorem jQu.fail (H:Rd r bv w' a' ok') (c:Ky r w w') (h:zYm l a ok 0 a' false):jQu r bv l a ok w (.returned (.int .i64 0)) (w'.setCell ⟨r,2,none⟩ (.bool false)):=
 ⟨0,a',false,rfl,H.set 2 (.bool false),FrE.set c _,h⟩
theorem zQ1 (hE:Env w0) (G:Bel w0 w) (M:w0.heap.size<=r) (p:BysK w0.heap.size w0 bv l) (y:Rd r bv w a ok) (ha:a<=l.length) (K:l.length<=140737488355328) :
 Calls Tryz.prog 27 #[.pointer (some ⟨r,0,none⟩)] w (jQu r bv l a ok w):=by
 have N:=lH (qD6 hE G M p y ha K);obtain ⟨V,O,rfl,_,_⟩:=Rf p;clear p y;go_enter Tryz.func27,Tryz.ntmps27
 go_upto_region 2 with (go_at_call 11;(with_reducible refine N.o.mono ?_);rintro e s ⟨v,a',ok',rfl,z,u,i⟩;have H:=lH z;have c:=lH u;have d:=lH i;have ha1:=i.1;clear z u i)
 have U:IntKind.i64.wrap ((l.length:Int) - (a':Int))=(l.length:Int) - (a':Int):=by rw [IntKind.wrap_i64];omega
 have T:Hi (∀ W,Bel s W->W.cell? ⟨r,0,none⟩=some (.slice V l.length O)/\W.cell? ⟨r,1,none⟩=some (.int .i64 (a':Int))):=lH (fun W h=>by
  have Q:=(H.o.bel h).cell 0;have A:=(H.o.bel h).cell 1;simp at Q A;exact ⟨Q,A⟩)
 have E:=H.o.cell 2;have S:=H.o.frozen 2;simp at E;have C:=H.o.cell 0;have D:=H.o.cell 1;simp at C D;by_cases q:v<0
 ·have I:decide (v<0)=true:=by simpa using q
  have F:=lH (d.o.much (.inl q));go_quiet (fail)
  go_wp2;go_ret;exact .fail (w':=s.drewN nq) H.o (.drewN c.o nq) F.o
 ·have I:decide (v<0)=false:=by simpa using q
  by_cases j:(l.length:Int) - (a':Int)<v
  ·have J:decide ((l.length:Int) - (a':Int)<v)=true:=(by simpa using j);have F:=lH (d.o.much (.inr j));go_quiet (fail)
   go_wp2;go_ret;exact .fail (w':=s.drewN nq) H.o (.drewN c.o nq) F.o
  ·have J:decide ((l.length:Int) - (a':Int)<v)=false:=(by simpa using j);have F:=lH (d.o.few (by omega) (by omega));obtain ⟨n,rfl⟩:∃ n:Nat,v=(n:Int):=⟨v.toNat,by omega⟩;go_quiet (fail)
   go_wp2;go_ret;refine ⟨n,a',ok',rfl,H.o,.drewN c.o nq,?_⟩;have:=F.o;rw [Int.toNat_natCast] at this;exact this
def zBn (l:Txt) (a:Nat) (ok:Bool) (s:Txt) (a':Nat) (ok':Bool):Prop:=
 a'<=l.length/\s.length<=l.length/\(ok'=true->ok=true/\wordP (l.drop a)=some (s,l.drop a'))/\(ok'=false->ok=false∨wordP (l.drop a)=none)
def WordAns (r:Nat) (bv:Value) (l:Txt) (a:Nat) (ok:Bool) (w:World) (e:Ending) (w':World):Prop:=∃ (s:Txt) (a':Nat) (ok':Bool),e=.returned (.string ⟨s.toArray⟩)/\Rd r bv w' a' ok'/\Ky r w w'/\zBn l a ok s a' ok'
theorem zYm.word (h:zYm l a ok n a' ok'):zBn l a ok ((l.drop a').take n) (a'+n) ok':=by
 obtain ⟨H,c,d⟩:=h;refine ⟨H,by simp;omega,fun e=>?_,fun e=>?_⟩
 ·obtain ⟨Q,i⟩:=c e;refine ⟨Q,?_⟩;rw [wordP,i];simp only [List.drop_drop]
 ·rcases (d e).2 with q | q
  ·exact .inl q
  ·exact .inr (by rw [wordP,q])
theorem zXq (hE:Env w0) (E:Bel w0 w) (T:w0.heap.size<=r) (s:BysK w0.heap.size w0 bv l) (J:Rd r bv w a ok) (ha:a<=l.length) (a4:l.length<=140737488355328) :
 Calls Tryz.prog 26 #[.pointer (some ⟨r,0,none⟩)] w (WordAns r bv l a ok w):=by
 have cF:=lH (zQ1 hE E T s J ha a4);have Z:=lH E;have HL:=lH s;obtain ⟨va,V,rfl,a9,aa⟩:=Rf s;clear s J E;go_enter Tryz.func26,Tryz.ntmps26
 go_upto_region 2 with (go_at_call 27;(with_reducible refine cF.o.mono ?_);rintro e p ⟨n,a',ok',rfl,K,I,C⟩;have q:=lH K;have u:=lH I;have F:=lH C.word;have ha1:=C.1;clear K I C)
 have hw:IntKind.i64.wrap ((a':Int)+(n:Int))=(a':Int)+(n:Int):=by rw [IntKind.wrap_i64];omega
 have z:Hi (∀ W,Bel p W->W.cell? ⟨r,0,none⟩=some (.slice va l.length V)/\W.cell? ⟨r,1,none⟩=some (.int .i64 (a':Int))):=lH (fun W h=>by
  have U:=(q.o.bel h).cell 0;have Y:=(q.o.bel h).cell 1;simp at U Y;exact ⟨U,Y⟩)
 by_cases Q:l=[]
 ·subst Q;have a5:n=0:=by simp at ha1;omega
  have ha0:a'=0:=by simp at ha1;omega
  subst a5 ha0;have a3:∀ (W:World) x c,(convert 42 9 (.slice x 0 c)).run Tryz.prog W=.ok (.string ⟨#[]⟩) W:=fun W x c=>zXw _ W _ _ 5 x c Tryz.underlying42 Tryz.underlying5 Tryz.underlying9;have ac:(0:Int)<=(V:Int):=by omega
  have ad:IntKind.i64.wrap (0:Int)=0:=by rw [IntKind.wrap_i64];rfl
  refine qJk [0,1,2,3,4,5,6,7,8,9,10,11,12,13,14,15,16] [] (fun w'=>Bel p w') (by kernel_rfl) (by kernel_rfl) (Br p).drew ?_;simp only [pickL,List.filterMap_cons,List.filterMap_nil,Zd,Ze];iterate 15 (refine DetL.cons (v:=?_) (fun _=>Says.plain ?_ ?_) ?_;rotate_left;rfl;(intro w' H;obtain ⟨p0,p1⟩:=z.o w' H;clear H;go_simp;with_reducible rfl);simp only [Act.put,Zh,Zf,Zg])
  iterate 1 (refine DetL.cons (v:=?_) (fun _=>Says.plain ?_ ?_) ?_;rotate_left;rfl;(intro w' H;have a2:=a3 w';clear H;go_simp;with_reducible rfl);simp only [Act.put,Zh,Zf,Zg])
  iterate 1 (refine DetL.cons (v:=?_) (fun _=>Says.plain ?_ ?_) ?_;rotate_left;rfl;(intro w' H;clear H;go_simp;with_reducible rfl);simp only [Act.put,Zh,Zf,Zg])
  refine DetL.nil (fun w5 i=>?_);have d:=q.o.bel i;have D:=d.cell 1;have g1:=d.frozen 1;simp at D;have A:=lH d;have y:=lH (u.o.trans (FrE.of i));clear d i z;go_wp2;go_ret;exact ⟨_,_,ok',rfl,A.o.set 1 (.int .i64 0),FrE.set y.o _,F.o⟩
 ·obtain ⟨b,O,a6,G,_,_,a1,M⟩:=HL.o.at Q;simp at G;obtain ⟨rfl,rfl⟩:=G;have a8:(0:Int)<=(a':Int):=by omega
  have a7:(a':Int)<=(a':Int)+(n:Int):=by omega
  have ab:(a':Int)+(n:Int)<=(V:Int):=by omega
  have a0:Hi (∀ W,Bel p W->(convert 42 9 (.slice (if V=a' then some ⟨b,O,none⟩ else some ⟨b,O+a',none⟩) (((a':Int)+(n:Int)).toNat - a') (V - a'))).run Tryz.prog W=.ok (.string ⟨((l.drop a').take n).toArray⟩) W):=lH (fun W h=>by
   rw [show ((a':Int)+(n:Int)).toNat - a'=n by omega];split
   ·obtain rfl:n=0:=(by omega);exact zXw _ W _ _ 5 _ _ Tryz.underlying42 Tryz.underlying5 Tryz.underlying9
   ·have S:((l.drop a').take n).length=n:=(by simp;omega);have N:=run_convert_bytes_back (P:=Tryz.prog) W 42 9 5 ⟨b,O+a',none⟩ (V - a') ((l.drop a').take n) Tryz.underlying42 Tryz.underlying5 Tryz.underlying9 (fun j hj=>by
     rw [S] at hj;have hb1:=(u.o.bel Z.o T);have h1:=(World.cell?_of_block (w:=w0) (w':=W) ((h.block b (by have:=hb1.size;omega)).trans (hb1.block b a1))).trans (M (a'+j) (by omega));rw [Go.WideShapes.add_plain,show O+a'+j=O+(a'+j) by omega,h1];simp)
    rw [S] at N;exact N)
  clear M;refine qJk [0,1,2,3,4,5,6,7,8,9,10,11,12,13,14,15,16] [] (fun w'=>Bel p w') (by kernel_rfl) (by kernel_rfl) (Br p).drew ?_;simp only [pickL,List.filterMap_cons,List.filterMap_nil,Zd,Ze];iterate 15 (refine DetL.cons (v:=?_) (fun _=>Says.plain ?_ ?_) ?_;rotate_left;rfl;(intro w' H;obtain ⟨p0,p1⟩:=z.o w' H;clear H;go_simp;with_reducible rfl);simp only [Act.put,Zh,Zf,Zg])
  iterate 1 (refine DetL.cons (v:=?_) (fun _=>Says.plain ?_ ?_) ?_;rotate_left;rfl;(intro w' H;have a2:=a0.o w' H;clear H;go_simp;with_reducible rfl);simp only [Act.put,Zh,Zf,Zg])
  iterate 1 (refine DetL.cons (v:=?_) (fun _=>Says.plain ?_ ?_) ?_;rotate_left;rfl;(intro w' H;clear H;go_simp;with_reducible rfl);simp only [Act.put,Zh,Zf,Zg])
  generalize (if V=a' then (some ⟨b,O,none⟩:Option Addr) else some ⟨b,O+a',none⟩)=X;refine DetL.nil (fun w5 i=>?_);have d:=q.o.bel i;have D:=d.cell 1;have g1:=d.frozen 1;simp at D;have A:=lH d;have y:=lH (u.o.trans (FrE.of i));clear d i z;go_wp2;go_ret;exact ⟨_,_,ok',rfl,A.o.set 1 (.int .i64 ((a':Int)+(n:Int))),FrE.set y.o _,F.o⟩
def KidW (base f:Nat) (w:World) (v:Value) (l:List It):Prop:=qQb 8 (rdIt (fun b=>base<=b/\b<w.heap.size/\v.ownBlock≠some b) f) base 59 w v l/\(l=[]->v=.slice none 0 0)
theorem KidW.nil (base f:Nat) (w:World):KidW base f w (.slice none 0 0) []:=⟨qQb.nil _ _ _,fun _=>rfl⟩
theorem KidW.lt {l:List It} (h:KidW base f w v l) {b:Nat} (H:v.ownBlock=some b):base<=b/\b<w.heap.size:=qQb.lt h.1 b H
theorem KidW.its {l:List It} (h:KidW base f w v l):ItsK (fun b=>base<=b/\b<w.heap.size) f w v l:=
 (qQb.row h.1).mono (fun _ H=>⟨H.1,H.2.1⟩) (fun _ _ _ c=>c.mono (fun _ H=>⟨H.1,H.2.1⟩))
theorem KidW.agree {l:List It} (h:KidW base f w v l) (s:w.heap.size<=w'.heap.size) (ha:∀ b,base<=b->b<w.heap.size->w'.heap[b]?=w.heap[b]?):KidW base f w' v l:=
 ⟨qQb.redo h.1 (fun b H=>ha b (h.lt H).1 (h.lt H).2) (fun _ _ _ c=>(c.agree (fun b H=>ha b H.1 H.2.1)).mono (fun _ H=>⟨H.1,Zc H.2.1 s,H.2.2⟩)),h.2⟩
theorem KidW.fix {l:List It} (h:KidW base f w v l):qQb 8 (fun _ cs y=>rdIt (fun b=>base<=b/\b<w.heap.size/\v.ownBlock≠some b) f w cs y) base 59 w v l:=qQb.redo h.1 (fun _ _=>rfl) (fun _ _ _ H=>H)
theorem KidW.push {V:Value} {l:List It} (o:qQb 8 (fun _ cs y=>rdIt (fun b=>base<=b/\b<w.heap.size/\v.ownBlock≠some b) f w cs y) base 59 w' V l) (i:l≠[]) (hg:w.grownBy w' v.ownBlock) (d:qQ9 w v V):KidW base f w' V l:=by
 refine ⟨qQb.redo o (fun _ _=>rfl) (fun cs x _ j=>(rdIt.agree (fun b H=>hg.block b H.2.1 (fun e=>H.2.2 e.symm)) j).mono (fun b H=>⟨H.1,Zc H.2.1 hg.size,fun e=>?_⟩)),fun e=>(i e).elim⟩;rcases d with c | ⟨k,c,p⟩
 ·rw [c] at e;exact H.2.2 e
 ·rw [c] at e;cases e;have:=H.2.1;omega
theorem zF7 {B:Nat->Prop} :∀ {k:Nat} {cs:List Value} {x:It},rdIt B k w cs x->∀ u∈cs,u.oneCell'=true:=by
 intro k cs x h u d;cases k with
 | zero=>exact h.elim
 | succ k=>
   obtain ⟨v,rfl,H⟩:=h;obtain ⟨a,c,rfl,_,_⟩:=Rf H;exact zF2 rfl u d
theorem zVx (c:o.op=.buildSlice t 1 #[(0,x)]) {X:Value} (i:ρ x=X) (d:(Instr.buildSlice t 1 #[(0,X)]).run P w=.ok v w')
 (H:R v w'):qV2 P R ((execOp ρ o).run P w):=by
 have e:(execOp ρ o).run P w=.ok (.value v) w':=by
  unfold execOp;simp [c,i,d]
 rw [e];exact H
theorem zWm (n r:Int) (m a:ByteArray) (j c:Int) (of:Bool) (K:Option Addr) (i d:Nat) (w:World):(Instr.buildSlice 26 1 #[(0,.agg #[.int .i64 n,.int .i64 r,.string m,.string a,.int .i64 j,.int .i64 c,.bool of,.slice K i d])]).run Tryz.prog w =
 .ok (.slice (some ⟨w.heap.size,0,none⟩) 1 1) (w.alloc (.cells #[.int .i64 n,.int .i64 r,.string m,.string a,.int .i64 j,.int .i64 c,.bool of,.slice K i d] 59)):=by kernel_rfl
theorem zJv {s:Operand} (J:o.op=.call {callee:=.builtin .append,args:=#[s,x],argTypes:=#[t,t] } ) {sz c:Nat} (S:SlT P t e sz c) (T:0<sz) {p:Type} {rd:World->List Value->p->Prop} (hst:qHb rd)
 {l:List p} (O:ρ s=v) (K:qQb sz rd base e w v l) (W:ρ x=.slice (some ⟨g,0,none⟩) 1 1) {C:List Value} {E:TypeId} (hC:Blk w g C E) (A:C.length=sz) {y:p} (M:rd w C y) (z:∀ u∈C,u.oneCell'=true)
 (G:(l.length+1)*c<=140737488355328) (a2:l.length+1<=9223372036854775807) (F:base<=w.heap.size) (h:∀ V w',qQb sz rd base e w' V (l++[y])->w.grownBy w' v.ownBlock->qQ9 w v V->R V w'):qV2 P R ((execOp ρ o).run P w):=by
 obtain ⟨i,a1,I,X,Q,hby,Y⟩:=S.info;obtain ⟨a0,q1,q,q3⟩:=K;obtain ⟨V,w',N,Z,o2,o3,o4⟩:=qXh (P:=P) w base t o.type e i a1 sz c S.und I X Q hby Y T v l.length a0.flatten q3 ⟨g,0,none⟩ 1 1 C (by omega) (fun j u U=>by
  have D:(⟨g,0,none⟩:Addr).add j=⟨g,j,none⟩:=by unfold Addr.add;split <;> simp_all
  rw [D,hC.cell];exact U) z (by unfold maxLen;omega) G F
 have hE:(execOp ρ o).run P w=.ok (.value V) w':=by
  unfold execOp;simp only [J,resolve,invoke,builtin,Sem.run_bind,Sem.run_pure,Result.andThen_ok,List.map_toArray,List.map_cons,List.map_nil,O,W,N]
 rw [hE];exact h V w' (qQb.snoc_of (yss:=[C]) (m:=[y]) q1 (fun k H d=>⟨(q k H d).1,hst _ _ _ _ (q k H d).2⟩) rfl (fun k H d=>by
  obtain rfl:k=0:=by simpa using H
  exact ⟨A,hst _ _ _ _ M⟩) (by simpa using Z)) o2 o4
theorem Ky.new {j:Nat} (h:Ky r w w') (hg:w.heap.size<=g) (v:Value):Ky r w (w'.setCell ⟨g,j,none⟩ v):=
 ⟨h.os,h.tape,h.output,by rw [World.size_setCell];exact h.size,fun b H c=>by rw [Below.heap_setCell _ _ _ b (show b≠g by omega)];exact h.block b H c⟩
theorem Ky.grown {W d:World} {c:Option Nat} (h:Ky r w W) (g:W.grownBy d c) (j:∀ b,c=some b->w.heap.size<=b):Ky r w d:=
 ⟨g.os.trans h.os,g.tape.trans h.tape,g.output.trans h.output,Za h.size g.size,fun b H i=>(g.block b (Zc H h.size) (fun e=>by have:=j b e.symm;omega)).trans (h.block b H i)⟩
theorem zYm.st (h:zYm l a ok n a' ok'):RSt fewP l a ok n a' ok':=⟨by have:=h.1;omega,h.2.1,fun e=>(h.2.2 e).2⟩
theorem zBn.st {s:Txt} (h:zBn l a ok s a' ok'):RSt wordP l a ok s a' ok':=⟨h.1,h.2.2.1,h.2.2.2⟩
theorem zVb {F:Func} {p:Tmp} {T:TypeId} (h:F.results = #[.cell p T]) (s:Array Value) (w:World) (g:Nat) (t:TypeId) (cs:Array Value) (c:Nat×Nat) (d:TypeDesc)
 (i:s.getD p undef=.pointer (some ⟨g,0,none⟩)) (hg:w.heap[g]?=some (.cells cs t c))
 (u:P.underlying T=some d) (hd:(match d with | .struct _ | .array _ _=>true | _=>false)=true) (H:(P.info? T).map (·.size)=some cs.size) :
 (results F s).run P w=.ok (.agg cs) w:=by
 have j:s[p]?.getD undef=.pointer (some ⟨g,0,none⟩):=by simpa using i
 simp [results,h,j,asAddr,run_loadVar_row w g t T cs c d hg u hd H]
theorem zGs:∃ d,Tryz.prog.underlying 59=some d/\(match d with | .struct _ | .array _ _=>true | _=>false)=true:=by
 have h:(match Tryz.prog.underlying 59 with | some d=>(match d with | .struct _ | .array _ _=>true | _=>false) | none=>false)=true:=by kernel_rfl
 cases e:Tryz.prog.underlying 59 with
 | none=>rw [e] at h;cases h
 | some d=>rw [e] at h;exact ⟨d,rfl,h⟩

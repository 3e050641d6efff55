/- diff.one, for the events that go: walked. -/
import Derived.Test.YtkhkbifdakikcaaGreatDoorDiffMove
import Derived.BigRegion
import Derived.OrdersHeld
set_option maxRecDepth 100000
set_option maxHeartbeats 1000000
namespace Go.Proofs.YtkhkbifdakikcaaGreatDoor
open Go.RowKit
theorem zZ7 {base:Nat} {w:World} {S:Int->Sv} {lab:Nat->Int} {t t':Fl} (b:qQx base w S lab t) (p:Wf t) (j:∀ n,Has t n->(t.head n).node=n) {box:Addr} (f:BoxOk w box S t) {e:Evt} {eb eo:Nat} (hE:EvC w eb eo e (.slice none 0 0)) (y:Goes t e t')
 (q:∀ n,(t.kids n).length<=1000000000) (u:base<=w.heap.size) (A:eb≠box.block) (B:∀ n,(n = -1∨Has t n)->(S n).v.ownBlock≠some eb) :
 Calls Tryz.prog 108 #[.pointer (some box),.pointer (some ⟨eb,eo,none⟩)] w fun r w'=>r=.returned (.int .i64 0)/\Grew base box w S t w' t':=by
 rcases y with ⟨n,z,s,i,rfl,h,H,k,m,rfl⟩ | ⟨x,s,i,I,rfl,h,H,k,m,rfl⟩ | ⟨x,s,a,I,rfl,h,rfl⟩ | ⟨x,s,a,z,rfl,H,h,rfl⟩
 ·have c:=lH (zJ1 b p j f hE h H k m (q _) u);have E:w.cell? ⟨eb,eo,none⟩=some (.int .i64 2):=hE.kind;clear hE b f j h k m;go_enter Tryz.func108,Tryz.ntmps108
  go_wp2_with (go_at_call 131;(with_reducible refine c.o.mono ?_);rintro r W ⟨rfl,g⟩;have G:=lH g;clear g)
  go_ret;exact ⟨rfl,G.o⟩
 ·have c:=lH (zQ6 b p j f hE h H k m q u A B);have E:w.cell? ⟨eb,eo,none⟩=some (.int .i64 3):=hE.kind;clear hE b f j h k m H;go_enter Tryz.func108,Tryz.ntmps108
  go_wp2_with (go_at_call 132;(with_reducible refine c.o.mono ?_);rintro r W ⟨rfl,g⟩;have G:=lH g;clear g)
  go_ret;exact ⟨rfl,G.o⟩
 ·exact zQr b p j f hE.kind hE.node h (q _)
 ·exact zQ4 b p j f hE h H
end Go.Proofs.YtkhkbifdakikcaaGreatDoor
namespace Go.Proofs.YtkhkbifdakikcaaGreatDoor
variable {e:Evt} {t t':Fl}
def zQ5 (t:Fl):Prop:=∀ n,Has t n->(t.head n).node=n
def Fits (L:List Int) (t:Fl):Prop:=∀ n,Has t n->n∈L
theorem qDq:∀ (l m:List Int),l.Nodup->(∀ x∈l,x∈m)->l.length<=m.length:=by
 intro l;induction l with
 | nil=>intro m _ _;simp
 | cons a l I=>
   intro m n H;obtain ⟨c,f⟩:=List.nodup_cons.1 n;have h:a∈m:=H a (by simp);have:=I (m.erase a) f (fun x b=>(List.mem_erase_of_ne (fun (e:x=a)=>c (e▸b))).2 (H x (by simp [b])));rw [List.length_erase_of_mem h] at this;have p:=List.length_pos_of_mem h;simp only [Zm];omega
theorem zVt (H:Wf t) {x b:Int} {i:Nat} (g:Has t x) (f:i<=(cutF t x b).length) {n:Int} (h:Has (qJ4 t x b i) n):Has t n:=by
 by_cases e:n=x
 ·rw [e];exact g
 ·unfold Has qJ4 at h;simp only [if_neg e] at h;split at h
  ·rename_i E;rw [mem_insertIdx f] at h;rcases h with c | h
   ·exact absurd c e
   ·have:=((qYo H).1 h).1;unfold Has;rw [E];exact this
  ·exact ((qYo H).1 h).1
theorem Goes.heads (k:Wf t) (c:zQ5 t) (G:Goes t e t'):zQ5 t':=by
 rcases G with ⟨n,b,j,i,rfl,H,f,p,g,rfl⟩ | ⟨x,j,i,I,rfl,H,f,p,g,rfl⟩ | ⟨x,j,a,I,rfl,H,rfl⟩ | ⟨x,j,a,b,rfl,f,H,rfl⟩
 ·intro m h;show (if m=b.node then b else t.head m).node=m;split
  ·rename_i e;exact e.symm
  ·rename_i e;exact c m (zJj g e h)
 ·exact fun m h=>c m (zVt k H g h)
 ·exact fun m h=>c m (qY7 k h)
 ·intro m h;show (if m=x then b else t.head m).node=m;split
  ·rename_i e;rw [f,e]
  ·exact c m h
theorem Goes.fits {L:List Int} (k:Wf t) (f:Fits L t) (q:e.kind=2->e.item.h.node∈L) (G:Goes t e t'):Fits L t':=by
 rcases G with ⟨n,j,c,i,rfl,H,g,p,b,rfl⟩ | ⟨x,c,i,I,rfl,H,g,p,b,rfl⟩ | ⟨x,c,a,I,rfl,H,rfl⟩ | ⟨x,c,a,j,rfl,g,H,rfl⟩
 ·intro m h;by_cases e:m=j.node
  ·rw [e];exact q rfl
  ·exact f m (zJj b e h)
 ·exact fun m h=>f m (zVt k H b h)
 ·exact fun m h=>f m (qY7 k h)
 ·exact fun m h=>f m h
theorem Fits.len {L:List Int} (H:Fits L t) (h:Wf t) (n:Int):(t.kids n).length<=L.length:=
 qDq _ _ (h.alone.once n) (fun k b=>H k (h.has_kid b).1)
end Go.Proofs.YtkhkbifdakikcaaGreatDoor
namespace Go.Proofs.YtkhkbifdakikcaaGreatDoor
open Go.RowKit
variable {e:Evt} {t t':Fl} {l:List It} {base:Nat} {v:Value} {w:World}
theorem zZc (h:qW3 l):zQ5 (qQz l):=fun _ H=>(zKt h ((qHl h).1 H)).2
theorem qF6 (h:qW3 l) {L:List Int} (H:∀ m,m∈nodesL l->m∈L):Fits L (qQz l):=fun _ n=>H _ ((qHl h).1 n)
theorem zFi (h:qW3 l) {y:Hd} (b:y∈headsL l):qWa l y.node=y:=by
 have n:y.node∈nodesL l:=by rw [<- qX0.2];exact List.mem_map_of_mem b
 obtain ⟨c,f⟩:=zKt h n;have H:((headsL l).map (·.node)).Nodup:=by rw [qX0.2];exact h.1
 clear n;revert H c f b;generalize qWa l y.node=z;generalize headsL l=R;intro b c f H;induction R with
 | nil=>simp at b
 | cons a R I=>
   rw [List.map_cons,List.nodup_cons] at H;rcases List.mem_cons.1 b with j | k
   ·rcases List.mem_cons.1 c with E | g
    ·rw [j,E]
    ·refine absurd ?_ H.1;rw [<- j,<- f];exact List.mem_map_of_mem g
   ·rcases List.mem_cons.1 c with E | g
    ·refine absurd ?_ H.1;rw [<- E,f];exact List.mem_map_of_mem k
    ·exact I k g H.2
theorem own_tab {k:Nat} {B:List Nat} (O:OwnT base k w v l B) (h:qW3 l):∃ S lab,(S (-1)).v=v/\qQx base w S lab (qQz l):=by
 have m:(-1:Int)∉nodesL l:=fun e=>by have:=h.2 _ e;omega
 obtain ⟨S,lab,p,q⟩:=(tab_rows base w (fun n=>if n = -1 then { node:=-1 } else qWa l n)).1 (.mk { node:=-1 } l) k v B O (by
  rw [nodesI];exact List.nodup_cons.2 ⟨m,h.1⟩) (fun y f=>by
  rw [headsI] at f;rcases List.mem_cons.1 f with rfl | f
  ·simp
  ·have:y.node∈nodesL l:=(by rw [<- qX0.2];exact List.mem_map_of_mem f);have j:y.node ≠ -1:=fun e=>m (e▸this);simp only [if_neg j];exact zFi h f)
 refine ⟨S,lab,p,fun n g=>?_⟩;have H:∃ r∈rowsI (.mk { node:=-1 } l),r.1=n:=by
  rcases g with rfl | g
  ·exact ⟨(-1,l.map (fun x=>x.h.node)),by rw [rowsI];exact List.mem_cons_self,rfl⟩
  ·have c:=(qHl h).1 g;rw [<- qXz.2] at c;obtain ⟨r,H,e⟩:=List.mem_map.1 c;exact ⟨r,by rw [rowsI];exact List.mem_cons_of_mem _ H,e⟩
 obtain ⟨r,H,rfl⟩:=H;obtain ⟨A,C⟩:=q r H;have c:(qQz l).kids r.1=r.2:=qWs h (by rw [rowsI] at H;exact H);have z:((qQz l).kids r.1).map (icOf (qQz l) S)=r.2.map (fun k=>(⟨(if k = -1 then { node:=-1 } else qWa l k),(S k).a,(S k).n,(S k).c⟩:Ic)):=by
  rw [c];refine List.map_congr_left (fun k u=>?_);have:Has (qQz l) k:=((qWg h).has_kid (n:=r.1) (by rw [c];exact u)).1;have j:k ≠ -1:=by have:=this.ge (qWg h);omega
  unfold icOf;simp only [if_neg j];rfl
 rw [z];exact ⟨A,fun b s=>(C b s).1⟩
set_option maxRecDepth 100000
set_option maxHeartbeats 2000000
theorem it_one {h:Hd} (hv:v.oneCell'=true):∀ u∈qQi h v,u.oneCell'=true:=by
 intro u H;simp [qQi] at H;rcases H with rfl | rfl | rfl | rfl | rfl | rfl | rfl | rfl <;> first | rfl | exact hv
theorem zH3 {b:Type} {sz:Nat} {e:TypeId} {rd:World->List Value->b->Prop} {l:List b} (h:qQb sz rd base e w v l):v.oneCell'=true:=by
 obtain ⟨a,c,rfl,_,_⟩:=Rf h.read;rfl
theorem qXq:∀ (k n:Nat) (v:Value) (l:List It) (w:World),ItsK (·<n) k w v l->n<=w.heap.size->(nodesL l).length<=1000000000 ->
 Calls Tryz.prog 12 #[v] w (Rn w fun w' y=>∃ S,OwnT w.heap.size k w' y l S):=by
 intro k;induction k using Nat.strongRecOn with
 | ind k ih=>
 intro n v l w hv hn hL;obtain ⟨va,vc,rfl,v1,v2⟩:=Rf hv;have HV:=lH hv;have ar:=lH ih;have b4:l.length<=1000000000:=Za (qHf l) hL;clear hv ih;go_enter Tryz.func12,Tryz.ntmps12
 go_wp2;go_loopw [8,3] (fun a9 o wr=>∃ (j:Nat) (f:List (List Nat)),j<=l.length/\a9=.int .i64 j/\f.length=j/\qQb 8 (rdO w.heap.size k) w.heap.size 82 wr o ((l.take j).zip f)/\f.flatten.Nodup/\(∀ b∈f.flatten,b<wr.heap.size/\o.ownBlock≠some b)/\Bel w wr) (fun a9 _ _=>l.length - (intOf a9).toNat)
 case atStart=>exact ⟨0,[],by omega,rfl,rfl,qQb.nil _ _ _,by simp,by simp,Br _⟩
 case round=>
  obtain ⟨j,f,hj,rfl,b3,x,am,a3,hB⟩:=hrel;have a8:((l.take j).zip f).length=j:=by simp;omega
  obtain ⟨O,r,rfl,o1,R⟩:=Rf x.read;rw [a8] at o1 x a3 ⊢;have A:=lH x;have B:=lH hB;have af:=lH am;have E:=lH a3;clear x hB am a3;by_cases a7:j<l.length
  ·have b5:(j:Int)<(l.length:Int):=(by omega);obtain ⟨b,b8,b0,kv,z,rfl,e1,-,-,h,I⟩:=HV.o.item j a7;simp at e1;obtain ⟨rfl,rfl⟩:=e1;have q:b<w.heap.size:=(by omega);have c0:=(Bel.cells B.o b _ q).trans I.node;have c1:=(Bel.cells B.o b _ q).trans I.role;have c2:=(Bel.cells B.o b _ q).trans I.name;have c3:=(Bel.cells B.o b _ q).trans I.about;have c4:=(Bel.cells B.o b _ q).trans I.level;have c5:=(Bel.cells B.o b _ q).trans I.checked;have c6:=(Bel.cells B.o b _ q).trans I.off;have c7:=(Bel.cells B.o b _ q).trans I.kids;have b1:=zXw a7;have S0:=B.o.size;obtain ⟨X,D,rfl,x1,x2⟩:=Rf I.kidsAt;have HC:Hi (∀ W,Bel w W->Calls Tryz.prog 12 #[.slice X l[j].kids.length D] W (Rn W fun w' y=>∃ S,OwnT W.heap.size z w' y l[j].kids S)):=lH (fun W ai=>ar.o z (by omega) n _ _ W (I.kidsAt.later ai hn) (Za hn ai.size) (by omega));have HT:Hi (∀ S,(l.take (j+1)).zip (f++[S])=(l.take j).zip f++[(l[j],S)]):=lH (fun S=>by rw [Zk a7,List.zip_append (by simp;omega)];rfl);clear I;generalize l[j]=aw at *
   obtain ⟨⟨xn,xr,xm,U,Z,V,xo⟩,s⟩:=aw;simp only [It.h,It.kids] at c0 c1 c2 c3 c4 c5 c6 c7 HC;have hN:=Blk.new' wr wr.heap.size rfl #[.int .i64 xn,.int .i64 xr,.string ⟨xm.toArray⟩,.string ⟨U.toArray⟩,.int .i64 Z,.int .i64 V,.bool xo,.slice X s.length D] 82;have ak:Bel wr (wr.alloc (.cells #[.int .i64 xn,.int .i64 xr,.string ⟨xm.toArray⟩,.string ⟨U.toArray⟩,.int .i64 Z,.int .i64 V,.bool xo,.slice X s.length D] 82)):=(Br wr).alloc _;have HN:=lH hN;have a1:=lH ak;clear hN ak;go_upto_region 6 with (go_at_call 12;(with_reducible refine (HC.o _ (Bt B.o a1.o)).mono ?_);rintro e c ⟨b2,y2,rfl,S,R⟩;obtain ⟨Y,m,rfl,y1,ba⟩:=Rf R.its;have a0:=lH b2;have ag:=lH R;have N:=HN.o.bel b2;have au:=lH N;have n7:c.cell? ⟨wr.heap.size,7,none⟩=some (.slice X s.length D):=N.cell 7;have f7:c.frozen? ⟨wr.heap.size,7,none⟩=false:=N.frozen 7;clear b2 R N)
   have b6:wr.heap.size+1<=c.heap.size:=(by have:=a0.o.size;simpa using this);have aj:Bel w (c.setCell ⟨wr.heap.size,7,none⟩ (.slice Y s.length m)):=Bel.setCell (Bt B.o (Bt a1.o a0.o)) _ _ _ S0;have g:=au.o.set 7 (.slice Y s.length m);have a5:w.heap.size<=(wr.alloc (.cells #[.int .i64 xn,.int .i64 xr,.string ⟨xm.toArray⟩,.string ⟨U.toArray⟩,.int .i64 Z,.int .i64 V,.bool xo,.slice X s.length D] 82)).heap.size:=(by simp;omega);have a4:=ag.o.lt;have an:OwnT w.heap.size z (c.setCell ⟨wr.heap.size,7,none⟩ (.slice Y s.length m)) (.slice Y s.length m) s S:=by
    obtain ⟨J,g1,g2,g3,G⟩:=ag.o;have hx:OwnT w.heap.size z c (.slice Y s.length m) s S:=⟨J,g1,(g2.redo (fun _ _=>rfl) (fun C az _ H=>H.base_le a5)).base_le a5,g3,G⟩;refine hx.agree (fun b h=>Below.heap_setCell c _ _ b ?_);have:=(a4 b h).1;simp at this;show b≠wr.heap.size;omega
   have al:qQb 8 (fun W C p=>rdO w.heap.size (z+1) W C p/\∀ b∈p.2,b<c.heap.size/\(Value.slice O j r).ownBlock≠some b) w.heap.size 82 (c.setCell ⟨wr.heap.size,7,none⟩ (.slice Y s.length m)) (.slice O j r) ((l.take j).zip f):=by
    have ap:∀ b,b<wr.heap.size->(c.setCell ⟨wr.heap.size,7,none⟩ (.slice Y s.length m)).heap[b]?=wr.heap[b]?:=fun b h=>by
     rw [Below.heap_setCell c _ _ b (by show b≠wr.heap.size;omega),a0.o.block b (by simp;omega)];exact a1.o.block b h
    refine A.o.redo (fun b h=>ap b (A.o.lt b h).2) (fun C p hp H=>⟨H.agree (fun b h=>ap b (H.lt b h).2),fun b h=>?_⟩);have hm:b∈f.flatten:=List.mem_flatten.2 ⟨_,zDb hp,h⟩;have:=E.o b hm;exact ⟨by have:=(H.lt b h).2;omega,this.2⟩
   have ad:=lH al;have aa:=lH aj;have ah:=lH an;have a6:(c.setCell ⟨wr.heap.size,7,none⟩ (.slice Y s.length m)).heap.size=c.heap.size:=World.size_setCell ..;have a2:Hi (∀ b∈S,wr.heap.size<b/\b<c.heap.size):=lH (fun b h=>by have:=a4 b h;simp at this;omega);have ao:∀ b,(Value.slice O j r).ownBlock=some b->b<wr.heap.size:=fun b h=>(A.o.lt b h).2;have ae:=lH ao;have n0:=g.cell 0;have n1:=g.cell 1;have n2:=g.cell 2;have n3:=g.cell 3;have n4:=g.cell 4;have n5:=g.cell 5;have n6:=g.cell 6;have ay:=g.cell 7;simp at n0 n1 n2 n3 n4 n5 n6 ay;clear aj g an al a4 ao n7 f7 a5;generalize (c.setCell ⟨wr.heap.size,7,none⟩ (.slice Y s.length m))=w3 at *
   have S3:=aa.o.size;have ac:=lH a6;clear a6;go_wp2_with (at_builtin;go_loud (refine qJw rfl _ _ _ rfl qB4 (by decide) (rd:=fun W C p=>rdO w.heap.size (z+1) W C p/\∀ b∈p.2,b<c.heap.size/\(Value.slice O j r).ownBlock≠some b) (v:=.slice O j r) ?hst ?hone (base:=w.heap.size) rfl ad.o rfl ?hgs (It.mk ⟨xn,xr,xm,U,Z,V,xo⟩ s,S) ?hC ?hby ?hmx S3 ?_;(case hst=>exact fun w' C y hg H=>⟨H.1.agree (fun b h=>hg.block b (by have:=(H.2 b h).1;have:=ac.o;omega) (fun e=>(H.2 b h).2 e.symm)),H.2⟩);(case hone=>intro W C y H u hu;obtain ⟨v,J,rfl,_,x,_,_⟩:=H.1;exact it_one (zH3 x) u hu);(case hgs=>rfl);(case hC=>refine ⟨rfl,?_,fun b h=>?_⟩;(obtain ⟨J,g1,g2,g3,G⟩:=ah.o;exact ⟨_,J,rfl,g1,g2,g3,G⟩);(have:=a2.o b h;exact ⟨this.2,fun e=>by have:=ae.o b e;omega⟩));(case hby=>rw [a8];omega);(case hmx=>rw [a8];omega);intro v4 w4 o4 G f4;have av:=lH o4;have ab:=lH G;have aq:=lH f4;clear o4 G f4))
   go_roundw;case rel=>
    refine ⟨j+1,f++[S],by omega,by go_num,by simp;omega,?_,?_,?_,Below.grown aa.o ab.o S3 (fun k hk=>(ad.o.lt k hk).1)⟩
    ·rw [HT.o];exact av.o.redo (fun _ _=>rfl) (fun C az _ H=>H.1)
    ·rw [List.flatten_append,List.flatten_cons,List.flatten_nil,List.append_nil];refine List.nodup_append.2 ⟨af.o,?_,?_⟩
     ·obtain ⟨_,_,_,_,G⟩:=ah.o;exact G
     ·intro a M b h e;have h1:=(E.o a M).1;have h2:=(a2.o b h).1;omega
    ·intro b h;have b7:=ab.o.size;have a6:=ac.o;rw [List.flatten_append,List.flatten_cons,List.flatten_nil,List.append_nil] at h;have hb2:b<c.heap.size/\(Value.slice O j r).ownBlock≠some b:=by
      rcases List.mem_append.1 h with h | h
      ·have:=E.o b h;exact ⟨by omega,this.2⟩
      ·have:=a2.o b h;exact ⟨this.2,fun e=>by have:=ae.o b e;omega⟩
     refine ⟨by omega,?_⟩;rcases aq.o with e | ⟨b9,e,hq⟩
     ·rw [e];exact hb2.2
     ·rw [e];intro e2;cases e2;omega
   case measure=>simp [intOf];omega
  ·have hT:l.take j=l:=Zn (by omega);rw [hT] at A;have ax:f.length=l.length:=(by omega);have HR:Hi (∃ S,OwnT w.heap.size k wr (.slice O j r) l S):=lH ⟨_,f,ax,A.o,rfl,by
    refine List.nodup_append.2 ⟨?_,af.o,?_⟩
    ·cases (Value.slice O j r).ownBlock <;> simp
    ·intro a M b h e;have:=(E.o b h).2;simp at M;rw [M,e] at this;exact this rfl⟩
   clear hT;go_wp2;go_ret;exact ⟨B.o,_,rfl,HR.o⟩
theorem lit_row (w:World) (g:Nat) (hg:g=w.heap.size) (n:Int):qQa 1 qQf (·=g) (w.alloc (.cells #[.int .i64 n] 3)) (.slice (some ⟨g,0,none⟩) 1 1) [n]:=by
 subst hg;exact qJv (rd:=qQf) (sz:=1) w [.int .i64 n] 3 n rfl rfl
theorem qKv:∀ (k n:Nat) (v:Value) (l:List It) (w:World),ItsK (·<n) k w v l->n<=w.heap.size->(nodesL l).length<=1000000000 ->
 Calls Tryz.prog 56 #[v] w (Rn w fun w' y=>qQb 1 qQf w.heap.size 3 w' y (nodesL l)):=by
 intro k;induction k using Nat.strongRecOn with
 | ind k ih=>
 intro n v l w hv hn hL;obtain ⟨va,vc,rfl,v1,v2⟩:=Rf hv;have HV:=lH hv;have af:=lH ih;have a9:∀ args w,(callFunc 56 args).run Tryz.prog w=.ok (.enter 56 args) w:=fun args w=>by rfl
 have ae:=lH a9;clear hv ih a9;go_enter Tryz.func56,Tryz.ntmps56
 go_wp2;go_loopw [8,3] (fun a2 o wr=>∃ (j:Nat) (O:List Int),j<=l.length/\a2=.int .i64 j/\O=nodesL (l.take j)/\qQb 1 qQf w.heap.size 3 wr o O/\Bel w wr) (fun a2 _ _=>l.length - (intOf a2).toNat)
 case atStart=>exact ⟨0,[],by omega,rfl,rfl,qQb.nil _ _ _,Br _⟩
 case round=>
  obtain ⟨j,O,hj,rfl,hP,hO,hB⟩:=hrel;have C:=lH hO;have E:=lH hP;have H:=lH hB;obtain ⟨R,U,rfl,o1,o2⟩:=Rf hO.read;clear hO hP hB;by_cases a1:j<l.length
  ·have aw:(j:Int)<(l.length:Int):=(by omega);obtain ⟨b,ay,av,kv,k',rfl,e1,-,-,m,I⟩:=HV.o.item j a1;simp at e1;obtain ⟨rfl,rfl⟩:=e1;have g:b<w.heap.size:=(by omega);have c0:=(Bel.cells H.o b _ g).trans I.node;have c1:=(Bel.cells H.o b _ g).trans I.role;have c2:=(Bel.cells H.o b _ g).trans I.name;have c3:=(Bel.cells H.o b _ g).trans I.about;have c4:=(Bel.cells H.o b _ g).trans I.level;have c5:=(Bel.cells H.o b _ g).trans I.checked;have c6:=(Bel.cells H.o b _ g).trans I.off;have c7:=(Bel.cells H.o b _ g).trans I.kids;have ab:=qDn a1;have ap:=zXw a1;have S0:=H.o.size;obtain ⟨X,f,rfl,x1,x2⟩:=Rf I.kidsAt;have HC:Hi (∀ W,Bel w W->Calls Tryz.prog 56 #[.slice X l[j].kids.length f] W (Rn W fun w' y=>qQb 1 qQf W.heap.size 3 w' y (nodesL l[j].kids))):=lH (fun W h=>af.o k' (by omega) n _ _ W (I.kidsAt.later h hn) (Za hn h.size) (by omega));have aa:O.length=(nodesL (l.take j)).length:=congrArg List.length E.o;have HT:Hi (nodesL (l.take (j+1))=O++[l[j].h.node]++nodesL l[j].kids):=lH (by rw [ab,E.o];simp);clear ab I;generalize l[j]=ao at *
   obtain ⟨⟨x,B,z,p,u,r,A⟩,s⟩:=ao;simp only [It.h,It.kids] at c0 c1 c2 c3 c4 c5 c6 c7 HC HT ap;generalize nodesL s=NK at *
   clear E;go_upto_region 5 with fail
   have N:=Blk.new' wr wr.heap.size rfl #[.int .i64 x,.int .i64 B,.string ⟨z.toArray⟩,.string ⟨p.toArray⟩,.int .i64 u,.int .i64 r,.bool A,.slice X s.length f] 82;have a0:Bel wr (wr.alloc (.cells #[.int .i64 x,.int .i64 B,.string ⟨z.toArray⟩,.string ⟨p.toArray⟩,.int .i64 u,.int .i64 r,.bool A,.slice X s.length f] 82)):=(Br wr).alloc _;have ah:=lH a0;have M:∀ b,(Value.slice R O.length U).ownBlock=some b->b<wr.heap.size:=fun b m=>(C.o.lt b m).2;have J:qQb 1 qQf w.heap.size 3 (wr.alloc (.cells #[.int .i64 x,.int .i64 B,.string ⟨z.toArray⟩,.string ⟨p.toArray⟩,.int .i64 u,.int .i64 r,.bool A,.slice X s.length f] 82)) (.slice R O.length U) O:=C.o.alloc qQc _;have hgs:wr.heap.size+1=(wr.alloc (.cells #[.int .i64 x,.int .i64 B,.string ⟨z.toArray⟩,.string ⟨p.toArray⟩,.int .i64 u,.int .i64 r,.bool A,.slice X s.length f] 82)).heap.size:=(by simp);revert N M J hgs;have V:=lH (Bt H.o a0);clear a0 C H ah;revert V;generalize (wr.alloc (.cells #[.int .i64 x,.int .i64 B,.string ⟨z.toArray⟩,.string ⟨p.toArray⟩,.int .i64 u,.int .i64 r,.bool A,.slice X s.length f] 82))=c;intro V N M J hgs;have HN:=lH N;have a7:=lH J;have ar:=lH hgs;have n0:c.cell? ⟨wr.heap.size,0,none⟩=some (.int .i64 x):=N.cell 0;have n7:c.cell? ⟨wr.heap.size,7,none⟩=some (.slice X s.length f):=N.cell 7;have ax:=N.lt;clear J hgs;generalize wr.heap.size=q at *
   have G:Bel c (c.alloc (.cells #[.int .i64 x] 3)).drew:=((Br _).alloc _).drew;have m7:(c.alloc (.cells #[.int .i64 x] 3)).drew.cell? ⟨q,7,none⟩=some (.slice X s.length f):=(N.bel G).cell 7;have a8:Hi (qQb 1 qQf w.heap.size 3 (c.alloc (.cells #[.int .i64 x] 3)).drew (.slice R O.length U) O):=lH (a7.o.alloc qQc (.cells #[.int .i64 x] 3));have ag:Hi (qQa 1 qQf (·=c.heap.size) (c.alloc (.cells #[.int .i64 x] 3)).drew (.slice (some ⟨c.heap.size,0,none⟩) 1 1) [x]):=lH (lit_row c c.heap.size rfl x);have a5:=lH (Bt V.o G);have au:=lH (fun b m=>(a7.o.lt b m).2);have ai:=lH (N.bel G);have aq:q<(c.alloc (.cells #[.int .i64 x] 3)).drew.heap.size:=ai.o.lt;have ac:∀ b,(Value.slice R O.length U).ownBlock=some b->b≠q:=fun b m e=>by have:=M b m;omega
   have am:=lH ac;have D:=lH aa;clear N G ac aa M;go_region_law (first
 | (refine qYb rfl (.tmp 12) (.tmp 15) 28 rfl qJg (by decide) (rd:=qQf) (base:=w.heap.size) (l:=O) rfl a8.o rfl ag.o (fun Z y _ h=>qKq _ Z y h) ?hby ?mx ?hba (fun _ _ _ _ _ h=>h) ?_;(case hby=>have:=D.o;simp only [Zm,List.length_nil];omega);(case mx=>have:=D.o;simp only [Zm,List.length_nil];omega);(case hba=>exact a5.o.size);intro v1 w1 o1 g1 _ f1;have aj:=lH o1;have a3:=lH (Below.own a5.o (Zb _) a8.o g1);have k7:w1.cell? ⟨q,7,none⟩=some (.slice X s.length f):=(World.cell?_of_block (g1.block q aq (fun e=>am.o q e.symm rfl))).trans m7;clear o1 g1 f1)
 | (refine qZ6 rfl 56 ae.o #[.tmp 18] _ rfl (vs:=#[.slice X s.length f]) ?hv (HC.o _ a3.o) ?_;(case hv=>simp [Act.eval]);rintro e w2 ⟨Y,y2,rfl,o2⟩;refine ⟨_,rfl,?_⟩;have a4:=lH (Bt a3.o Y);have an:=lH o2;have a6:=lH (aj.o.below Y (Zb _) (fun _ _ _ h=>h));clear Y o2)
 | (refine qYb rfl (.tmp 16) (.tmp 19) 28 rfl qJg (by decide) (rd:=qQf) (base:=w.heap.size) (l:=O++[x]) rfl a6.o rfl an.o.read (fun Z y _ h=>qKq _ Z y h) ?hby ?mx ?hba (fun _ _ _ _ _ h=>h) ?_;(case hby=>have:=D.o;simp;omega);(case mx=>have:=D.o;simp;omega);(case hba=>exact a4.o.size);intro v3 w3 o3 g3 _ f3;have ak:=lH o3;have ad:=lH (Below.own a4.o (Zb _) a6.o g3);clear o3 g3 f3))
   all_goals
    go_wp2
    go_roundw
    case rel=>exact ⟨j+1,_,by omega,by go_num,HT.o.symm,ak.o,ad.o⟩
    case measure=>simp [intOf];omega
  ·have hT:l.take j=l:=Zn (by omega)
   have al:Hi (O=nodesL l):=lH (by rw [E.o,hT])
   clear hT
   go_wp2
   go_ret
   exact ⟨H.o,_,rfl,al.o▸C.o⟩
def evCells (e:Evt):List Value:=[.int .i64 e.kind,.int .i64 e.node,.int .i64 e.dest,.int .i64 e.spot]++qQi e.item.h (.slice none 0 0)
def rdEv:World->List Value->Evt->Prop:=fun _ cs e=>cs=evCells e
theorem EvC.of {b o:Nat} {cs:List Value} (h:Cells w b o cs) (H:rdEv w cs e):EvC w b o e (.slice none 0 0):=by
 unfold rdEv at H;subst H;exact ⟨by simpa using h 0 _ rfl,h 1 _ rfl,h 2 _ rfl,h 3 _ rfl,h 4 _ rfl,h 5 _ rfl,h 6 _ rfl,h 7 _ rfl,h 8 _ rfl,h 9 _ rfl,h 10 _ rfl,h 11 _ rfl⟩
theorem GoesL.head {e:Evt} {E:List Evt} (h:GoesL t (e::E) t'):∃ b,Goes t e b/\GoesL b E t':=by
 cases h with
 | cons g r=>exact ⟨_,g,r⟩
theorem Kept.bel {w':World} {box:Addr} {S S':Int->Sv} {lab:Nat->Int} (h:Kept w w' box S S' t t') (f:qQx base w S lab t) (j:base<=box.block) {w0:World} (H:Bel w0 w) (k:w0.heap.size<=base):Bel w0 w':=
 ⟨h.os.trans H.os,h.tape.trans H.tape,h.output.trans H.output,Za H.size h.size,fun b c=>(h.block b (Zc c H.size) (by omega) (fun n g e=>by
  have:=(f.lt g e).1;omega)).trans (H.block b c)⟩
structure Mids (base:Nat) (w0 wr:World) (box:Addr) (L:List Int) (es:List Evt) (t':Fl) (i:Nat):Prop where
 le:i<=es.length
 bel:Bel w0 wr
 st:∃ t1 S lab,GoesL t1 (es.drop i) t'/\Wf t1/\zQ5 t1/\Fits L t1/\qQx base wr S lab t1/\BoxOk wr box S t1
end Go.Proofs.YtkhkbifdakikcaaGreatDoor
namespace Go.Proofs.YtkhkbifdakikcaaGreatDoor
variable {a a':Act} {K:Act->World->Prop} {stop:Array Bool} {args:Array Value} {l:List Oper} {d i:Nat} {o:Oper} {F:Option Value->Act->Prop} {T:Option Value->World->Prop} {v:Value} {w:World}
section
variable {P:Program} {ops:Array Oper} {Q:Exit->Act->World->Prop} {md:Region.Mode} {S:World->Prop}
def qW0 (P:Program) (R:Value->World->Prop):Result Next->Prop
 | .ok (.value v) w'=>R v w'
 | .ok .skip w'=>R undef w'
 | .ok (.enter f args) w'=>Calls P f args w' fun e w''=>∃ v,e=.returned v/\R v w''
 | _=>False
theorem qW0.upon {R:Value->World->Prop} {r:Result Next} (h:qW0 P R r) {next:Act->World->Prop} (H:∀ v w',R v w'->next (a.put o.dst v) w'):o.upon P a next Q r:=by
 cases r with
 | ok n w'=>
   cases n <;> simp only [qW0,Oper.upon] at h ⊢
   case value u=>exact H _ _ h
   case skip=>exact H _ _ h
   case enter f args=>
    refine Calls.mono h fun e W b=>?_;obtain ⟨v,rfl,hv⟩:=b;exact H _ _ hv
 | halt x w'=>simp only [qW0] at h
def Says (P:Program) (ops:Array Oper) (S:World->Prop) (o:Oper) (v:Value) (a:Act):Prop:=
 (Region.wanted o (yielded ops a.tmps)=true/\∀ w,S w->qW0 P (fun u w'=>u=v/\S w') ((execOp a.eval o).run P w)) ∨
 (Region.wanted o (yielded ops a.tmps)=false/\v=undef)
theorem Says.of_same (y:Says P ops S o v a) (h:execOp a'.eval o=execOp a.eval o)
 (H:Region.wanted o (yielded ops a'.tmps)=Region.wanted o (yielded ops a.tmps)):Says P ops S o v a':=by
 unfold Says at *
 rw [h,H];exact y
theorem Says.wpOp (f:ops[i]?=some o) (y:Says P ops S o v a)
 (b:S w) (h:∀ w',S w'->K (a.put o.dst v) w'):wpOp P ops Q i K a w:=by
 unfold Go.wpOp;simp only [f];rcases y with ⟨H,hv⟩ | ⟨H,rfl⟩
 ·simp only [H,if_true,Oper.wp];exact .inl ((hv w b).upon (fun u w' g=>by obtain ⟨rfl,c⟩:=g;exact h w' c))
 ·simp only [H,Bool.false_eq_true,if_false];exact h w b
def qDe (P:Program) (ops:Array Oper) (T:Option Value->World->Prop) (o:Oper) (a:Act):Prop:=
 Region.wanted o (yielded ops a.tmps)=true/\∀ w,T none w->qW0 P (fun u w'=>T (some u) w') ((execOp a.eval o).run P w)
theorem qDe.of_same (y:qDe P ops T o a) (h:execOp a'.eval o=execOp a.eval o)
 (H:Region.wanted o (yielded ops a'.tmps)=Region.wanted o (yielded ops a.tmps)):qDe P ops T o a':=by
 unfold qDe at *
 rw [h,H];exact y
theorem qDe.wpOp (c:ops[i]?=some o) (H:qDe P ops T o a)
 (b:T none w) (h:∀ u w',T (some u) w'->K (a.put o.dst u) w'):wpOp P ops Q i K a w:=by
 unfold Go.wpOp;simp only [c];simp only [H.1,if_true,Oper.wp];exact .inl ((H.2 w b).upon (fun u w' f=>h u w' f))
def Det (P:Program) (md:Region.Mode) (ops:Array Oper) (T:Option Value->World->Prop) (d:Nat) (stop:Array Bool) (F:Option Value->Act->Prop):Nat->Option Value->Array Bool->Act->Prop
 | 0,x,listed,a=>listed=stop/\F x a
 | n+1,x,listed,a=>Region.ready md ops listed≠[]/\∀ i∈Region.ready md ops listed,∃ o,ops[i]?=some o /\
    ((i=d/\x=none/\qDe P ops T o a/\∀ u,Det P md ops T d stop F n (some u) (listed.setIfInBounds i true) (a.put o.dst u)) ∨
     ∃ v,(∀ y,Says P ops (T y) o v a)/\Det P md ops T d stop F n x (listed.setIfInBounds i true) (a.put o.dst v))
theorem Det.sound {k:Nat} (m:∀ x a w,F x a->T x w->wpAny P md ops Q k stop a w) :
 ∀ (n:Nat) (x:Option Value) (b:Array Bool) (a:Act) (w:World),Det P md ops T d stop F n x b a->T x w->wpAny P md ops Q (k+n) b a w:=by
 intro n;induction n with
 | zero=>rintro x b a w ⟨rfl,h⟩ H;exact m x a w h H
 | succ n I=>
   rintro x b a w ⟨q,h⟩ H;refine ⟨fun j=>absurd j q,fun i p=>?_⟩;obtain ⟨o,g,⟨_,rfl,y,f⟩ | ⟨v,y,f⟩⟩:=h i p
   ·exact y.wpOp g H (fun u W c=>I _ _ _ W (f u) c)
   ·exact (y x).wpOp g H (fun W c=>I _ _ _ W f c)
theorem Det.take {O:Oper} (D:ops[i]?=some O) (U:∀ (j:Nat) (o:Oper) C b,ops[j]?=some o->o.op≠.select C b)
 (hl:∀ c:Array Bool,c.setIfInBounds i true=stop->c.getD i true=false->∀ j,j∈Region.ready md ops c->j=i) :
 ∀ (n:Nat) (x:Option Value) (c:Array Bool) (a:Act),
  (∀ j p,ops[j]?=some p->j≠i->c.getD j true=false->(∀ e∈p.after,Region.binds md e=true->e.on≠i)->O.apart ops p=true) ->
  i∈Region.ready md ops c->(∀ y,Says P ops (T y) O v a) ->
  Det P md ops T d stop F n x (c.setIfInBounds i true) (a.put O.dst v)->Det P md ops T d stop F (n+1) x c a:=by
 intro n
 induction n with
 | zero=>
   intro x c a _ r z H;refine ⟨(fun h=>by rw [h] at r;cases r),fun j q=>?_⟩;obtain rfl:=hl c H.1 (mem_ready.1 r).1 j q;exact ⟨O,D,.inr ⟨v,z,H⟩⟩
 | succ n ih=>
   intro x c a I r z H;refine ⟨(fun h=>by rw [h] at r;cases r),fun j q=>?_⟩;by_cases m:j=i
   ·subst m;exact ⟨O,D,.inr ⟨v,z,H⟩⟩
   ·obtain ⟨f,N,a0⟩:=H.2 j (ready_mono q m);obtain ⟨M,p,s,Z⟩:=mem_ready.1 q;obtain rfl:f=p:=(by rw [s] at N;exact (Option.some.inj N).symm);have a5:∀ e∈f.after,Region.binds md e=true->e.on≠i:=fun e he hb a1=>by
     have g:=Z e he hb;have E:=(mem_ready.1 r).1;rw [a1] at g;rcases Nat.lt_or_ge i c.size with A | A
     ·simp [A] at E g;rw [E] at g;cases g
     ·simp [Array.getElem?_eq_none A] at g
    obtain ⟨g,Y,G⟩:=Oper.apart_spec (I j f s m M a5);have a6:∀ C b,O.op≠.select C b:=fun C b=>U i O C b D;have V:∀ C b,f.op≠.select C b:=fun C b=>U j f C b s;have a7:∀ u y,Says P ops (T y) O v (a.put f.dst u):=fun u y=>(z y).of_same (execOp_put O a6 a f.dst u G) (wanted_put O a f.dst u G);have a2:∀ k ok,ops[k]?=some ok->k≠i->(c.setIfInBounds j true).getD k true=false ->
     (∀ e∈ok.after,Region.binds md e=true->e.on≠i)->O.apart ops ok=true:=fun k ok hk a3 W a4=>by
     refine I k ok hk a3 ?_ a4
     by_cases J:j=k
     ·subst J;exact M
     ·rw [getD_set_ne true J] at W;exact W
    have R:∀ X u,Det P md ops T d stop F n X ((c.setIfInBounds i true).setIfInBounds j true) ((a.put O.dst v).put f.dst u)->Det P md ops T d stop F (n+1) X (c.setIfInBounds j true) (a.put f.dst u):=fun X u B=>by
     refine ih X (c.setIfInBounds j true) _ a2 (ready_mono r (Ne.symm m)) (a7 u) ?_;rw [Array.setIfInBounds_comm _ _ m,<- Act.put_comm a v u Y];exact B
    refine ⟨f,s,?_⟩;rcases a0 with ⟨q1,q2,q3,q4⟩ | ⟨u,a8,B⟩
    ·exact .inl ⟨q1,q2,q3.of_same (execOp_put f V a O.dst v g).symm (wanted_put f a O.dst v g).symm,fun u=>R _ u (q4 u)⟩
    ·exact .inr ⟨u,fun y=>(a8 y).of_same (execOp_put f V a O.dst v g).symm (wanted_put f a O.dst v g).symm,R _ u B⟩
def planGo (md:Region.Mode) (ops:Array Oper) (stop:Array Bool):List Nat->Array Bool->Bool
 | [],_=>true
 | i::is,listed=>Region.free md ops listed i&&(Region.ready md ops listed).contains i&&(Region.ready md ops (stop.setIfInBounds i false)==[i])&&planGo md ops stop is (listed.setIfInBounds i true)
def chainGo (md:Region.Mode) (ops:Array Oper):List Nat->Array Bool->Bool
 | [],listed=>Region.ready md ops listed==[]
 | j::js,listed=>(Region.ready md ops listed==[j])&&chainGo md ops js (listed.setIfInBounds j true)
def qQw (is:List Nat) (b:Array Bool):Array Bool:=is.foldl (fun b i=>b.setIfInBounds i true) b
def plan0 (md:Region.Mode) (ops:Array Oper) (is:List Nat) (js:List Nat):Bool:=
 let b:=Array.replicate ops.size false
 Region.noSelect ops&&(is.length+js.length==ops.size)&&planGo md ops (qQw is b) is b&&chainGo md ops js (qQw is b)
def pickL (l:List Oper) (is:List Nat):List Oper:=is.filterMap (l[·]?)
def DetL (P:Program) (ops:Array Oper) (T:Option Value->World->Prop) (F:Act->Prop):List Oper->Act->Prop
 | [],a=>F a
 | o::l,a=>∃ v,(∀ y,Says P ops (T y) o v a)/\DetL P ops T F l (a.put o.dst v)
theorem DetL.cons {F:Act->Prop} (h:∀ y,Says P ops (T y) o v a) (k:DetL P ops T F l (a.put o.dst v)):DetL P ops T F (o::l) a:=⟨v,h,k⟩
theorem DetL.nil {F:Act->Prop} (h:F a):DetL P ops T F [] a:=h
theorem set_back {l s:Array Bool} (h:l.setIfInBounds i true=s) (H:l.getD i true=false):l=s.setIfInBounds i false:=by
 subst h;apply Array.ext_getElem?;intro j;by_cases e:i=j
 ·subst e;rcases Nat.lt_or_ge i l.size with h | h
  ·rw [Array.getElem?_setIfInBounds_self_of_lt (by simpa using h)];simp [h] at H ⊢;exact H
  ·simp [h]
 ·rw [Array.getElem?_setIfInBounds_ne e,Array.getElem?_setIfInBounds_ne e]
theorem zWg:∀ (J:List Nat) (b:Array Bool) (a:Act) (w:World),chainGo md l.toArray J b=true ->
 wpList P l.toArray Q (pickL l J) a w->wpAny P md l.toArray Q J.length b a w:=by
 intro J;induction J with
 | nil=>
   intro b a w H h;have H:Region.ready md l.toArray b=[]:=(by simpa [chainGo] using H);exact ⟨H,h⟩
 | cons j J I=>
   intro b a w H h;simp only [chainGo,Bool.and_eq_true,beq_iff_eq] at H;obtain ⟨r,H⟩:=H;refine ⟨(fun f=>by rw [r] at f;cases f),fun i k=>?_⟩;rw [r] at k;obtain rfl:i=j:=(by simpa using k);obtain ⟨_,o,m,_⟩:=mem_ready.1 (by rw [r];simp:i∈Region.ready md l.toArray b);have q:pickL l (i::J)=o::pickL l J:=by
    have p:l[i]?=some o:=(by simpa using m);simp [pickL,p]
   rw [q] at h;have g:∀ a w,wpList P l.toArray Q (pickL l J) a w->wpAny P md l.toArray Q J.length (b.setIfInBounds i true) a w:=fun a w n=>I _ a w H n;unfold Go.wpOp;simp only [m];unfold wpList at h;split
   ·rename_i c;rw [if_pos c] at h;exact h.imp (Oper.wp_mono g) id
   ·rename_i c;rw [if_neg c] at h;exact g _ _ h
theorem det_plan (s:Region.noSelect l.toArray=true) {x:Option Value} {m:Nat} :∀ (is:List Nat) (b:Array Bool) (a:Act),planGo md l.toArray stop is b=true ->
 DetL P l.toArray T (fun a=>Det P md l.toArray T d stop F m x (qQw is b) a) (pickL l is) a->Det P md l.toArray T d stop F (m+is.length) x b a:=by
 intro is;induction is with
 | nil=>intro b a _ h;exact h
 | cons i is I=>
   intro b a p h;simp only [planGo,Bool.and_eq_true,beq_iff_eq] at p;obtain ⟨⟨⟨u,z⟩,A⟩,B⟩:=p;have q:i∈Region.ready md l.toArray b:=(by simpa using z);obtain ⟨_,o,H,_⟩:=mem_ready.1 q;have n:pickL l (i::is)=o::pickL l is:=by
    have k:l[i]?=some o:=(by simpa using H);simp [pickL,k]
   rw [n] at h;obtain ⟨v,r,g⟩:=h;refine Det.take H (Region.noSelect_spec s) ?_ (m+is.length) x b a (Region.free_spec H u) q r (I _ _ B g);intro C j f y c;rw [set_back j f,A] at c;simpa using c
theorem qK2 {I:Nat} (is j:List Nat) (S:World->Prop) (hm:P.follows .mixedOrders=true) (H:plan0 .any l.toArray is j=true) (g:S w.drew)
 (h:DetL P l.toArray (fun _=>S) (fun a=>∀ w',S w'->wpList P l.toArray Q (pickL l j) a w') (pickL l is) a):(Code.region I l.toArray true).wp P Q a w:=by
 refine wp_region_any hm ?_;simp only [plan0,Bool.and_eq_true,beq_iff_eq,List.size_toArray] at H;obtain ⟨⟨⟨p,s⟩,q⟩,r⟩:=H;have k:Det P .any l.toArray (fun _=>S) l.length (qQw is (Array.replicate l.length false)) (fun _ a=>∀ w',S w'->wpList P l.toArray Q (pickL l j) a w') (0+is.length) none (Array.replicate l.length false) a:=by
  refine det_plan p is _ a q ?_;have:∀ (L:List Oper) (a:Act),DetL P l.toArray (fun _=>S) (fun a=>∀ w',S w'->wpList P l.toArray Q (pickL l j) a w') L a ->
   DetL P l.toArray (fun _=>S) (fun a=>Det P .any l.toArray (fun _=>S) l.length (qQw is (Array.replicate l.length false)) (fun _ a=>∀ w',S w'->wpList P l.toArray Q (pickL l j) a w') 0 none (qQw is (Array.replicate l.length false)) a) L a:=by
   intro L;induction L with
   | nil=>intro a h;exact ⟨rfl,h⟩
   | cons o L n=>intro a ⟨v,b,c⟩;exact ⟨v,b,n _ c⟩
  exact this _ _ h
 have:=Det.sound (Q:=Q) (k:=j.length) (fun x a w f m=>zWg j _ a w r (f w m)) _ none _ a w.drew k g;rw [show j.length+(0+is.length)=l.toArray.size by simp;omega] at this;simpa using this
theorem Says.plain (b:Region.wanted o (yielded ops a.tmps)=true) (h:∀ w,S w->(execOp a.eval o).run P w=.ok (.value v) w):Says P ops S o v a:=
 .inl ⟨b,fun w H=>by rw [h w H];exact ⟨rfl,H⟩⟩
theorem Says.call {f:FuncId} (c:Region.wanted o (yielded ops a.tmps)=true) (r:∀ w,(execOp a.eval o).run P w=.ok (.enter f args) w)
 (h:∀ w,S w->Calls P f args w (fun e w'=>e=.returned v/\S w')):Says P ops S o v a:=
 .inl ⟨c,fun w H=>by rw [r w];exact Calls.mono (h w H) fun e W ⟨b,s⟩=>⟨v,b,rfl,s⟩⟩
theorem Says.skip (h:Region.wanted o (yielded ops a.tmps)=false):Says P ops S o undef a:=.inr ⟨h,rfl⟩
theorem qDe.plain (f:Region.wanted o (yielded ops a.tmps)=true) (h:∀ w,T none w->∃ v w',(execOp a.eval o).run P w=.ok (.value v) w'/\T (some v) w'):qDe P ops T o a:=
 ⟨f,fun w c=>by obtain ⟨v,w',H,b⟩:=h w c;rw [H];exact b⟩
theorem qDe.call {f:FuncId} (c:Region.wanted o (yielded ops a.tmps)=true) (r:∀ w,(execOp a.eval o).run P w=.ok (.enter f args) w)
 (h:∀ w,T none w->Calls P f args w (fun e w'=>∃ v,e=.returned v/\T (some v) w')):qDe P ops T o a:=
 ⟨c,fun w H=>by rw [r w];exact Calls.mono (h w H) fun e W ⟨v,b,s⟩=>⟨v,b,s⟩⟩
end

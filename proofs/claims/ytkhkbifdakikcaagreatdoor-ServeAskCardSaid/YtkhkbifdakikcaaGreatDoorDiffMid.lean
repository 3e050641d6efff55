/- diff.one: a removal, walked. -/
import Derived.Test.YtkhkbifdakikcaaGreatDoorDiffAdd
set_option maxRecDepth 100000
set_option maxHeartbeats 4000000
namespace Go.Proofs.YtkhkbifdakikcaaGreatDoor
open Go.RowKit
variable {hd:Hd} {n:Int} {cap eb eo g i:Nat} {lab:Nat->Int} {s':Sv} {α:Type} {kv:Value} {W0 w':World}
theorem Wf.par_has {t:Fl} (H:Wf t) {x:Int} (h:Has t x):t.par x = -1∨Has t (t.par x):=H.kids_has (by intro e;unfold Has at h;rw [e] at h;simp at h)
theorem zG9 {base:Nat} {w:World} {S:Int->Sv} {t:Fl} (h:qQx base w S lab t) (d:Wf t) {box:Addr} (c:BoxOk w box S t) {x:Int} (l:Has t x) (hg:w.grownBy w' (S (t.par x)).v.ownBlock)
 (O:qQb 8 rdIc base 82 w' s'.v (((t.kids (t.par x)).map (icOf t S)).eraseIdx ((t.kids (t.par x)).idxOf x))) (F:qZc w (S (t.par x)).v s'.v) :
 Grew base box w S t (w'.setCell (qQg box t (fun n=>(S n).v) (t.par x)) s'.v) (dropF t x):=by
 have p:=d.par_has l;obtain ⟨B,o,q,r,s,u⟩:=zJu h d c p hg F;have z:∀ n,(n = -1∨Has (dropF t x) n)->(n = -1∨Has t n):=fun n H=>H.imp id (qY7 d);have j:∀ n,(n = -1∨Has (dropF t x) n)->∀ b,(if n=t.par x then s' else S n).v.ownBlock=some b->s'.v.ownBlock=some b∨∃ m,(m = -1∨Has t m)/\(S m).v.ownBlock=some b:=fun n H b a=>by
  by_cases f:n=t.par x
  ·rw [if_pos f] at a;exact .inl a
  ·rw [if_neg f] at a;exact .inr ⟨n,z n H,a⟩
 refine ⟨_,_,(h.dropped d l hg O F c.lt c.apart).1,⟨?_,o,q,fun n H e=>?_⟩,⟨?_,?_,?_,?_,s,fun n H b a=>?_,u⟩⟩
 ·rw [B];by_cases e:t.par x = -1
  ·simp [e]
  ·have:¬ (-1:Int)=t.par x:=fun E=>e E.symm;simp only [if_neg e,if_neg this]
 ·rcases j n H _ e with E | ⟨m,y,E⟩
  ·exact r E
  ·exact c.apart m y E
 ·exact hg.os
 ·exact hg.tape
 ·exact hg.output
 ·rw [World.size_setCell];exact hg.size
 ·rcases j n H b a with E | E
  ·rcases F with e | ⟨k,e,v⟩
   ·exact .inr ⟨t.par x,p,e▸E⟩
   ·rw [e] at E;cases E;exact .inl v
  ·exact .inr E
theorem qX5 {base:Nat} {w:World} {S:Int->Sv} {t:Fl} (H:qQx base w S lab t) (h:Wf t) (a:∀ n,Has t n->(t.head n).node=n) {box:Addr} (b:BoxOk w box S t) {x:Int} (d:Has t x) :
 Calls Tryz.prog 57 #[.pointer (some box),.int .i64 x] w (Rv (.tuple #[.pointer (some (qQg box t (fun n=>(S n).v) (t.par x))),.int .i64 ((t.kids (t.par x)).idxOf x:Nat)]) w):=by
 obtain ⟨e,N,F⟩:=h.falls;have c:=H.rd.cell h b.cell (.inl rfl);have:=qJl (box:=box) h F a x (N+1) (-1) w H.rd (.inl rfl) (by omega) c;rw [qFr h F (Nat.lt_succ_self N) d] at this;have eb:qQg box t (fun n=>(S n).v) (-1)=box:=by unfold qQg;rw [if_pos rfl]
 rw [eb] at this;exact this
theorem zQr {base:Nat} {w:World} {S:Int->Sv} {t:Fl} (h:qQx base w S lab t) (a:Wf t) (q:∀ n,Has t n->(t.head n).node=n) {box:Addr} (H:BoxOk w box S t) {x:Int} (M:w.cell? ⟨eb,eo,none⟩=some (.int .i64 1)) (O:w.cell? ⟨eb,eo+1,none⟩=some (.int .i64 x))
 (c:Has t x) (r:(t.kids (t.par x)).length<=1000000000) :
 Calls Tryz.prog 108 #[.pointer (some box),.pointer (some ⟨eb,eo,none⟩)] w fun e w'=>e=.returned (.int .i64 0)/\Grew base box w S t w' (dropF t x):=by
 have p:=a.par_has c;obtain ⟨s,f,b,E,Q⟩:=Rf (h _ p).1.read;have u:(List.map (icOf t S) (t.kids (t.par x))).length=(t.kids (t.par x)).length:=by simp
 rw [u] at b E;have B:(t.kids (t.par x)).idxOf x<(t.kids (t.par x)).length:=List.idxOf_lt_length_of_mem c;have F:=lH (qX5 h a q H c);have d:=h.rd.cell a H.cell p;have z:=h.open_ a H p;have D:Hi (Calls Tryz.prog 133 #[.slice s (t.kids (t.par x)).length f,.int .i64 ((t.kids (t.par x)).idxOf x:Nat),.int .i64 (((t.kids (t.par x)).idxOf x:Nat)+1)] w fun e w'=>∃ A N C,e=.returned (.slice A N C)/\w'.cell? (qQg box t (fun n=>(S n).v) (t.par x))=some (.slice s (t.kids (t.par x)).length f)/\w'.frozen? (qQg box t (fun n=>(S n).v) (t.par x))=false/\Grew base box w S t (w'.setCell (qQg box t (fun n=>(S n).v) (t.par x)) (.slice A N C)) (dropF t x)):=lH (by
  rw [<- b];refine (qGt base (S (t.par x)).v ((t.kids (t.par x)).map (icOf t S)) ((t.kids (t.par x)).idxOf x) w (h _ p).1 (by simpa using B) (by simpa using r)).mono ?_;rintro e I ⟨y,rfl,o,G,m⟩;obtain ⟨v,rfl⟩:=zXn o;have j:=qWu h a H p G;exact ⟨v.a,v.n,v.c,rfl,(World.cell?_of_block j).trans d,(World.frozen?_of_block j).trans z,zG9 h a H c G o (.inl m)⟩)
 have K:w.cell? (qQg box t (fun n=>(S n).v) (t.par x))=some (.slice s (t.kids (t.par x)).length f):=by rw [<- b];exact d
 clear b h H d;generalize qQg box t (fun n=>(S n).v) (t.par x)=ca at *
 generalize (t.kids (t.par x)).idxOf x=k at *
 generalize (t.kids (t.par x)).length=L at *
 have P:(-9223372036854775808:Int)<=(k:Int)+1/\(k:Int)+1<=9223372036854775807:=by omega
 go_enter Tryz.func108,Tryz.ntmps108
 go_wp2_with first
  | (go_at_call 57;(with_reducible refine F.o.mono ?_);rintro e R ⟨rfl,rfl⟩)
  | (go_at_call 133;(with_reducible refine D.o.mono ?_);rintro e I ⟨Y,V,U,rfl,X,J,l⟩;have T:=lH l;clear l)
 go_ret;exact ⟨rfl,T.o⟩
set_option maxRecDepth 100000
set_option maxHeartbeats 4000000
theorem zVr (f F:Int->α) {x:Int} :∀ {l:List Int},l.Nodup->x∈l->(∀ k,k≠x->F k=f k)->l.map F=(l.map f).set (l.idxOf x) (F x):=by
 intro l;induction l with
 | nil=>intro _ h;simp at h
 | cons a l I=>
   intro b j H;by_cases e:a=x
   ·subst e;rw [List.idxOf_cons_self];simp only [List.map_cons,Zf];congr 1;refine List.map_congr_left (fun k d=>H k (fun e=>?_));subst e;exact (List.nodup_cons.1 b).1 d
   ·have m:x∈l:=(List.mem_cons.1 j).resolve_left (fun h=>e h.symm);have c:(a==x)=false:=(by simpa using e);rw [List.idxOf_cons,c];simp only [cond_false,List.map_cons,Zg];rw [H a e,I (List.nodup_cons.1 b).2 m H]
theorem zHr {enc:α->List Value} {l:List α} {C vs:List Value} {y:α} (h:∀ x,(enc x).length=8) (a:i<l.length) (o:C.take (l.length*8)=l.flatMap enc) (hv:vs=enc y):(C.take (i*8)++vs++C.drop (i*8+8)).take ((l.set i y).length*8)=(l.set i y).flatMap enc:=by
 subst hv;obtain ⟨D,k⟩:∃ D,D=C.drop (l.length*8):=⟨_,rfl⟩;have b:C=l.flatMap enc++D:=by rw [<- o,k,List.take_append_drop]
 have m:l=l.take i++l[i]::l.drop (i+1):=by rw [<- List.drop_eq_getElem_cons a,List.take_append_drop]
 have H:((l.take i).flatMap enc).length=i*8:=by rw [qQu h,List.length_take,Nat.min_eq_left (by omega)]
 have B:((l.drop (i+1)).flatMap enc).length=(l.length - (i+1))*8:=by rw [qQu h,List.length_drop]
 have f:l.flatMap enc=(l.take i).flatMap enc++(enc l[i]++(l.drop (i+1)).flatMap enc):=by
  conv=>lhs;rw [m]
  rw [List.flatMap_append,List.flatMap_cons]
 have c:C.take (i*8)=(l.take i).flatMap enc:=by rw [b,f,List.append_assoc,<- H,List.take_left]
 have d:C.drop (i*8+8)=(l.drop (i+1)).flatMap enc++D:=by
  rw [b,f,List.append_assoc,List.append_assoc,<- List.append_assoc];have:((l.take i).flatMap enc++enc l[i]).length=i*8+8:=by rw [Zj,H,h]
  rw [<- this,List.drop_left]
 rw [c,d,List.set_eq_take_append_cons_drop,if_pos a,List.flatMap_append,List.flatMap_cons];have e:(l.take i++y::l.drop (i+1)).length*8=((l.take i).flatMap enc++(enc y++(l.drop (i+1)).flatMap enc)).length:=by
  simp only [Zj,H,B,h,Zm,List.length_take,List.length_drop,Nat.min_eq_left (Nat.le_of_lt a)];omega
 have j:(l.take i).flatMap enc++enc y++((l.drop (i+1)).flatMap enc++D)=((l.take i).flatMap enc++(enc y++(l.drop (i+1)).flatMap enc))++D:=by simp only [List.append_assoc]
 rw [e,j,List.take_left]
theorem qW4 (g:Nat):∀ (vs:List Value) (o:Nat) (w:World) {b:Nat},b≠g->(w.setCells g o vs).heap[b]?=w.heap[b]?:=by
 intro vs;induction vs with
 | nil=>intro o w b _;rfl
 | cons v vs I=>
   intro o w b h;exact (I (o+1) _ h).trans (Below.heap_setCell _ _ _ _ h)
theorem told_own {base:Nat} {w:World} {S:Int->Sv} {t:Fl} (h:qQx base w S lab t) (l:Wf t) {x:Int} (o:Has t x) (c:(S (t.par x)).v=.slice (some ⟨g,0,none⟩) (t.kids (t.par x)).length cap) (F:Bel w W0) :
 qQx base ((W0.setCells g ((t.kids (t.par x)).idxOf x*8) (qQi hd kv)).setCell ⟨g,(t.kids (t.par x)).idxOf x*8+7,none⟩ (S x).v) S lab (qYm t x hd) /\
 (∀ b,b≠g->((W0.setCells g ((t.kids (t.par x)).idxOf x*8) (qQi hd kv)).setCell ⟨g,(t.kids (t.par x)).idxOf x*8+7,none⟩ (S x).v).heap[b]?=W0.heap[b]?)/\W0.grownBy ((W0.setCells g ((t.kids (t.par x)).idxOf x*8) (qQi hd kv)).setCell ⟨g,(t.kids (t.par x)).idxOf x*8+7,none⟩ (S x).v) (some g):=by
 have v:=l.par_has o;have H:=h.bel F;have f:(t.kids (t.par x)).idxOf x<(t.kids (t.par x)).length:=List.idxOf_lt_length_of_mem o;have u:(List.map (icOf t S) (t.kids (t.par x))).length=(t.kids (t.par x)).length:=by simp
 have G:W0.grownBy ((W0.setCells g ((t.kids (t.par x)).idxOf x*8) (qQi hd kv)).setCell ⟨g,(t.kids (t.par x)).idxOf x*8+7,none⟩ (S x).v) (some g):=qQl (qQ1 _ _ _ _) (qFp _ _ _ _);rcases blkE qQo (show qQb 8 (fun _ B x=>B=encIts x) base 82 W0 (S (t.par x)).v ((t.kids (t.par x)).map (icOf t S)) from (H _ v).1) with ⟨_,e⟩ | ⟨T,R,C,I,J,K,q,s,M,Q⟩
 ·exfalso;rw [List.map_eq_nil_iff] at e;rw [e] at f;simp at f
 have z:=c.symm.trans I;simp only [Value.slice.injEq,Option.some.injEq,Addr.mk.injEq] at z;obtain ⟨⟨rfl,-,-⟩,-,rfl⟩:=z;have r:∀ b,b≠g->((W0.setCells g ((t.kids (t.par x)).idxOf x*8) (qQi hd kv)).setCell ⟨g,(t.kids (t.par x)).idxOf x*8+7,none⟩ (S x).v).heap[b]?=W0.heap[b]?:=fun b a=>by
  rw [Below.heap_setCell _ _ _ _ a];exact qW4 _ _ _ _ a
 refine ⟨fun n j=>?_,r,G⟩;refine ⟨?_,(H n j).2⟩;by_cases e:n=t.par x
 ·subst e;have m:((qYm t x hd).kids (t.par x)).map (icOf (qYm t x hd) S)=((t.kids (t.par x)).map (icOf t S)).set ((t.kids (t.par x)).idxOf x) ⟨hd,(S x).a,(S x).n,(S x).c⟩:=by
   have:=zVr (icOf t S) (icOf (qYm t x hd) S) (l.alone.once (t.par x)) o (fun k d=>by
    unfold icOf qYm;simp only [if_neg d])
   rw [show (qYm t x hd).kids=t.kids from rfl,this];congr 1;unfold icOf qYm;simp only [if_true]
  rw [m,c];have N:(t.kids (t.par x)).idxOf x*8+8<=C.length:=by rw [q];rw [u] at s;omega
  have p:=(qZb g 82 (qQi hd kv) ((t.kids (t.par x)).idxOf x*8) W0 C K (by simpa [qQi] using N)).set ((t.kids (t.par x)).idxOf x*8+7) (S x).v;have A:(C.take ((t.kids (t.par x)).idxOf x*8)).length=(t.kids (t.par x)).idxOf x*8:=by rw [List.length_take,Nat.min_eq_left (by omega)]
  have P:(C.take ((t.kids (t.par x)).idxOf x*8)++qQi hd kv++C.drop ((t.kids (t.par x)).idxOf x*8+(qQi hd kv).length)).set ((t.kids (t.par x)).idxOf x*8+7) (S x).v=C.take ((t.kids (t.par x)).idxOf x*8)++qQi hd (S x).v++C.drop ((t.kids (t.par x)).idxOf x*8+8):=by
   rw [List.append_assoc,List.set_append_right _ _ (by omega),A,show (t.kids (t.par x)).idxOf x*8+7 - (t.kids (t.par x)).idxOf x*8=7 by omega,List.append_assoc];rfl
  rw [P] at p;have O:(t.kids (t.par x)).idxOf x<(List.map (icOf t S) (t.kids (t.par x))).length:=by rw [u];exact f
  have D:=zHr (y:=(⟨hd,(S x).a,(S x).n,(S x).c⟩:Ic)) (vs:=qQi hd (S x).v) qQo O Q rfl;exact ownE qQo p J (by simp) (by
   rw [Zj,Zj,A,List.length_drop,show (qQi hd (S x).v).length=8 from rfl,<- q];omega) (by simpa using s) M D
 ·have m:((qYm t x hd).kids n).map (icOf (qYm t x hd) S)=(t.kids n).map (icOf t S):=List.map_congr_left (fun k d=>by
   have:k≠x:=fun E=>e (by
    subst E;exact (l.alone.par n k d).symm)
   unfold icOf qYm;simp only [if_neg this])
  rw [m];refine (H n j).1.agree (fun b a=>r b (fun E=>?_)) (fun _ _ _ y=>by unfold rdIc at y ⊢;exact y);subst E;exact H.apart j v e a (by rw [c];rfl)
theorem zGk {base:Nat} {w:World} {S:Int->Sv} {t:Fl} (h:qQx base w S lab t) (k:Wf t) {box:Addr} (j:BoxOk w box S t) {x:Int} (l:Has t x) (d:(S (t.par x)).v=.slice (some ⟨g,0,none⟩) (t.kids (t.par x)).length cap) (B:Bel w W0) :
 Grew base box w S t ((W0.setCells g ((t.kids (t.par x)).idxOf x*8) (qQi hd kv)).setCell ⟨g,(t.kids (t.par x)).idxOf x*8+7,none⟩ (S x).v) (qYm t x hd):=by
 have p:=k.par_has l;obtain ⟨m,a,H⟩:=told_own h k l (hd:=hd) d B (kv:=kv);have f:box.block≠g:=fun e=>j.apart _ p (by rw [d,e];rfl);have c:=j.bel B;refine Grew.of_bel B ⟨S,lab,m,⟨(World.cell?_of_block (a _ f)).trans c.cell,(World.frozen?_of_block (a _ f)).trans c.open',Zc c.lt H.size,c.apart⟩,⟨H.os,H.tape,H.output,H.size,fun b _ _ A=>a b (fun e=>A _ p (by rw [d,e];rfl)),fun n q b o=>.inr ⟨n,q,o⟩,Side.of_block (fun _=>a _ f)⟩⟩
theorem thenAny {K:Act->World->Prop} {Q:Exit->Act->World->Prop} {e:Exit} {a:Act} {W:World} {E:World->Prop} (hE:E W) (h:∀ w,E w->Exit.then K Q e a w):Exit.then K Q e a W:=h W hE
theorem zQ4 {base:Nat} {w:World} {S:Int->Sv} {t:Fl} (T:qQx base w S lab t) (d:Wf t) (hh:∀ n,Has t n->(t.head n).node=n) {box:Addr} (j:BoxOk w box S t) {x a b:Int} (hE:EvC w eb eo ⟨4,x,a,b,.mk hd []⟩ (.slice none 0 0))
 (f:Has t x) (a0:hd.node=x) :
 Calls Tryz.prog 108 #[.pointer (some box),.pointer (some ⟨eb,eo,none⟩)] w fun e w'=>e=.returned (.int .i64 0)/\Grew base box w S t w' (qYm t x hd):=by
 subst a0;have p:=d.par_has f;have z:(t.kids (t.par hd.node)).idxOf hd.node<(t.kids (t.par hd.node)).length:=List.idxOf_lt_length_of_mem f;have m:=lH (qX5 T d hh j f);have l:=T.rd.cell d j.cell p;rcases blkE qQo (show qQb 8 (fun _ V y=>V=encIts y) base 82 w (S (t.par hd.node)).v ((t.kids (t.par hd.node)).map (icOf t S)) from (T _ p).1) with ⟨_,e⟩ | ⟨g,cap,C,c,a9,K,s,a2,aa,A⟩
 ·exfalso;unfold Has at f;simp at e;rw [e] at f;simp at f
 have a3:(List.map (icOf t S) (t.kids (t.par hd.node))).length=(t.kids (t.par hd.node)).length:=by simp
 rw [a3] at c a2 A;obtain ⟨R,a6,U,q1,q2,q3,_,h⟩:=T.rd.item p _ z;rw [List.getElem_idxOf z] at h;have q:(S (t.par hd.node)).v=Value.slice (some ⟨R,a6,none⟩) (t.kids (t.par hd.node)).length U:=q1;rw [c] at q;simp at q;obtain ⟨⟨rfl,rfl⟩,rfl⟩:=q;rw [c] at l;have Z:(qQg box t (fun n=>(S n).v) (t.par hd.node)).block≠g:=by
  rcases T.cell d p box with ⟨_,e⟩ | ⟨v,o,a8,Y,e⟩
  ·rw [e];exact fun E=>j.apart _ p (by rw [c,E];rfl)
  ·rw [e];have a4:=d.par_has v;refine fun E=>T.apart a4 p ?_ (b:=g) (by rw [Y];show some o=some g;rw [show o=g from E]) (by rw [c];rfl);intro X;obtain ⟨μ,a7,F⟩:=d.falls;have:=F.down _ _ v;rw [X] at this;omega
 have D:=h.node;have I:=h.role;have J:=h.name;have M:=h.about;have N:=h.level;have O:=h.checked;have P:=h.off;have k7:w.cell? ⟨g,0+(t.kids (t.par hd.node)).idxOf hd.node*8+7,none⟩=some (.slice (S hd.node).a (S hd.node).n (S hd.node).c):=h.kids;simp only [Nat.zero_add] at D I J M N O P k7;obtain ⟨ab,a1⟩:∃ y,y=t.head hd.node:=⟨_,rfl⟩;rw [<- a1] at D I J M N O P;obtain ⟨z0,ad⟩:∃ y,y=hd.node:=⟨_,rfl⟩;have ek:w.cell? ⟨eb,eo,none⟩=some (.int .i64 4):=hE.kind;have en:w.cell? ⟨eb,eo+1,none⟩=some (.int .i64 hd.node):=hE.node;have z4:w.cell? ⟨eb,eo+4,none⟩=some (.int .i64 hd.node):=hE.i0;have z5:w.cell? ⟨eb,eo+5,none⟩=some (.int .i64 hd.role):=hE.i1;have z6:w.cell? ⟨eb,eo+6,none⟩=some (.string ⟨hd.name.toArray⟩):=hE.i2;have z7:w.cell? ⟨eb,eo+7,none⟩=some (.string ⟨hd.about.toArray⟩):=hE.i3;have z8:w.cell? ⟨eb,eo+8,none⟩=some (.int .i64 hd.level):=hE.i4;have z9:w.cell? ⟨eb,eo+9,none⟩=some (.int .i64 hd.checked):=hE.i5;have ae:w.cell? ⟨eb,eo+10,none⟩=some (.bool hd.off):=hE.i6;have af:w.cell? ⟨eb,eo+11,none⟩=some (.slice none 0 0):=hE.i7;have H:∀ a5,w.frozen? ⟨g,a5,none⟩=false:=K.frozen;have f0:=H ((t.kids (t.par hd.node)).idxOf hd.node*8);have f1:=H ((t.kids (t.par hd.node)).idxOf hd.node*8+1);have f2:=H ((t.kids (t.par hd.node)).idxOf hd.node*8+2);have f3:=H ((t.kids (t.par hd.node)).idxOf hd.node*8+3);have f4:=H ((t.kids (t.par hd.node)).idxOf hd.node*8+4);have f5:=H ((t.kids (t.par hd.node)).idxOf hd.node*8+5);have f6:=H ((t.kids (t.par hd.node)).idxOf hd.node*8+6);have f7:=H ((t.kids (t.par hd.node)).idxOf hd.node*8+7);have ac:(((t.kids (t.par hd.node)).idxOf hd.node:Nat):Int)<((t.kids (t.par hd.node)).length:Int):=by omega
 have G:Hi (∀ W0,Bel w W0->(W0.setCells g ((t.kids (t.par hd.node)).idxOf hd.node*8) (qQi hd (.slice none 0 0))).cell? (qQg box t (fun n=>(S n).v) (t.par hd.node))=some (.slice (some ⟨g,0,none⟩) (t.kids (t.par hd.node)).length cap)/\(∃ u,(W0.setCells g ((t.kids (t.par hd.node)).idxOf hd.node*8) (qQi hd (.slice none 0 0))).cell? ⟨g,(t.kids (t.par hd.node)).idxOf hd.node*8+7,none⟩=some u)/\(W0.setCells g ((t.kids (t.par hd.node)).idxOf hd.node*8) (qQi hd (.slice none 0 0))).frozen? ⟨g,(t.kids (t.par hd.node)).idxOf hd.node*8+7,none⟩=false/\Grew base box w S t ((W0.setCells g ((t.kids (t.par hd.node)).idxOf hd.node*8) (qQi hd (.slice none 0 0))).setCell ⟨g,(t.kids (t.par hd.node)).idxOf hd.node*8+7,none⟩ (S hd.node).v) (qYm t hd.node hd)):=lH (fun W0 B=>by
  have r:=qZb g 82 (qQi hd (.slice none 0 0)) ((t.kids (t.par hd.node)).idxOf hd.node*8) W0 C (K.bel B) (by rw [s];simp [qQi];omega);refine ⟨?_,?_,r.frozen _,zGk T d j f c B⟩
  ·rw [World.cell?_of_block (qW4 g _ _ _ Z),World.cell?_of_block (B.block _ (World.block_lt_of_cell? _ _ l))];exact l
  ·rw [r.cell];have:(t.kids (t.par hd.node)).idxOf hd.node*8+7<(C.take ((t.kids (t.par hd.node)).idxOf hd.node*8)++qQi hd (.slice none 0 0)++C.drop ((t.kids (t.par hd.node)).idxOf hd.node*8+(qQi hd (.slice none 0 0)).length)).length:=by
    simp only [Zj,List.length_take,List.length_drop,s,show (qQi hd (.slice none 0 0)).length=8 from rfl];omega
   exact ⟨_,Zi this⟩)
 clear hE h H c T j K A;generalize qQg box t (fun n=>(S n).v) (t.par hd.node)=ca at *
 generalize (t.kids (t.par hd.node)).idxOf hd.node=k at *
 generalize (t.kids (t.par hd.node)).length=L at *
 go_enter Tryz.func108,Tryz.ntmps108
 go_upto_region 20 with (go_at_call 57;(with_reducible refine m.o.mono ?_);rintro e w1 ⟨rfl,rfl⟩)
 go_quiet (fail)
 go_upto_region 14 with fail
 go_region
 refine thenAny (E:=fun W=>W.cell? ca=some (.slice (some ⟨g,0,none⟩) L cap)/\(∃ u,W.cell? ⟨g,k*8+7,none⟩=some u)/\W.frozen? ⟨g,k*8+7,none⟩=false/\Grew base box w S t (W.setCell ⟨g,k*8+7,none⟩ (S hd.node).v) (qYm t hd.node hd)) (G.o (w.drewN (nq+1)) (qBu (Br w) _)) ?_;rintro W1 ⟨c1,⟨u,c2⟩,c3,c4⟩;have Q:=lH c4;clear c4 G m;go_wp2;go_ret;exact ⟨rfl,Q.o⟩
open Classical in
noncomputable def subF (t:Fl) (x:Int):Fl:=
 { kids:=fun n=>if n = -1 then [x] else if Reach t.kids x n then t.kids n else [],par:=fun n=>if n=x then -1 else t.par n,head:=t.head }
section
variable {t:Fl}
theorem qDh (h:Wf t) {x:Int} (a:Has t x) {b:Int->Nat} {N:Nat} (F:Falls t.kids b N):Falls (subF t x).kids b N:=by
 refine ⟨fun n k H=>?_,F.top⟩;unfold subF at H;simp only at H;split at H
 ·rename_i e;rw [List.mem_singleton.1 H,e];have r:=a.reach h;cases r with
  | here=>have:=a.ge h;omega
  | @step p _ c y=>
    have:=Reach.le F c;have:=F.down _ _ y;omega
 ·split at H
  ·exact F.down _ _ H
  ·simp at H
theorem zFq {x:Int} (h:Wf t) (a:Has t x) (r:Reach t.kids x n):Reach (subF t x).kids (-1) n:=by
 induction r with
 | here=>exact .step .here (by unfold subF;simp)
 | @step p y H c I=>
   refine .step I ?_;have b:p ≠ -1:=fun e=>by
    subst e;have d:=(h.anti H (a.reach h));have:=a.ge h;omega
   unfold subF;simp only [if_neg b,if_pos H];exact c
theorem zHw (h:Wf t) {x:Int} (b:Has t x):Wf (subF t x):=by
 obtain ⟨d,N,F⟩:=h.falls;refine ⟨⟨d,N,qDh h b F⟩,⟨fun n k H=>?_,fun n=>?_⟩,fun n k H=>?_,fun n a=>?_⟩
 ·unfold subF at H ⊢;simp only at H ⊢;split at H
  ·rename_i e;rw [List.mem_singleton.1 H,if_pos rfl,e]
  ·split at H
   ·rename_i r;have c:k≠x:=fun e=>by
     subst e;have:=Reach.le F r;have:=F.down _ _ H;omega
    rw [if_neg c];exact h.alone.par n k H
   ·simp at H
 ·unfold subF;simp only;split
  ·simp
  ·split
   ·exact h.alone.once n
   ·simp
 ·unfold subF at H;simp only at H;split at H
  ·rw [List.mem_singleton.1 H];exact b.ge h
  ·split at H
   ·exact h.pos _ _ H
   ·simp at H
 ·unfold subF at a;simp only at a;split at a
  ·rename_i e;rw [e];exact .here
  ·split at a
   ·rename_i r;exact zFq h b r
   ·exact absurd rfl a
theorem zVb (h:Wf t) {x:Int} (b:Has t x) (a:Has (subF t x) n):Reach t.kids x n:=by
 have r:=a.reach (zHw h b);cases r with
 | here=>exact absurd a (zHw h b).no_top
 | @step p _ c H=>
   unfold subF at H;simp only at H;split at H
   ·rw [List.mem_singleton.1 H];exact .here
   ·split at H
    ·rename_i r;exact .step r H
    ·simp at H
theorem Wf.in_has (h:Wf t) {x:Int} (a:Has t x) (H:Reach t.kids x n):Has t n:=by
 by_cases e:n=x
 ·rw [e];exact a
 ·exact (h.reach_up H e).2
end
theorem sub_rd {B:Nat->Prop} {w:World} {V:Int->Value} {t:Fl} (H:qYw B w V t) (a:Wf t) {x:Int} (d:Has t x) {v:Value} (hv:qQa 8 (rdF t V) B w v [x]) :
 qYw B w (fun n=>if n = -1 then v else V n) (subF t x):=fun n p=>by
 have f:∀ {u:Value} {l:List Int},(∀ k∈l,k ≠ -1)->qQa 8 (rdF t V) B w u l->qQa 8 (rdF (subF t x) (fun n=>if n = -1 then v else V n)) B w u l:=fun {u l} o h=>by
  refine qQa.conv h rfl (fun i j q b C _ m r=>⟨m,?_⟩);unfold rdF at r ⊢;rw [r];simp only [if_neg (o _ (Zl j))];rfl
 have s:=d.ge a
 by_cases e:n = -1
 ·subst e
  simp only [if_true]
  have:(subF t x).kids (-1)=[x]:=by unfold subF;simp
  rw [this]
  exact f (fun k c=>by rw [List.mem_singleton.1 c];omega) hv
 ·simp only [if_neg e]
  have r:=zVb a d (p.resolve_left e)
  have:(subF t x).kids n=t.kids n:=by unfold subF;simp only [if_neg e,if_pos r]
  rw [this]
  exact f (fun k c=>by have:=a.pos _ _ c;omega) (H n (.inr (a.in_has d r)))
structure Mid (base:Nat) (box:Addr) (w:World) (S:Int->Sv) (t:Fl) (x:Int) (W:World) (S2:Int->Sv) (lab2:Nat->Int):Prop where
 tab:qQx base W S2 lab2 (dropF t x)
 ext:∀ n,Reach t.kids x n->qQb 8 rdIc base 82 W (S2 n).v ((t.kids n).map (icOf t S2))/\∀ b,(S2 n).v.ownBlock=some b->lab2 b=n
 boxed:BoxOk W box S2 (dropF t x)
 apart:∀ n,(n = -1∨Has t n)->(S2 n).v.ownBlock≠some box.block
 same:∀ n,Reach t.kids x n->S2 n=S n
 os:W.os=w.os
 tape:W.tape=w.tape
 output:W.output=w.output
 size:w.heap.size<=W.heap.size
 block:∀ b,b<w.heap.size->b≠box.block->(∀ n,(n = -1∨Has t n)->(S n).v.ownBlock≠some b)->W.heap[b]?=w.heap[b]?
 rows:∀ n,(n = -1∨Has t n)->∀ b,(S2 n).v.ownBlock=some b->w.heap.size<=b∨∃ m,(m = -1∨Has t m)/\(S m).v.ownBlock=some b
 side:Side box w W
theorem mid_of {base:Nat} {w:World} {S:Int->Sv} {t:Fl} (h:qQx base w S lab t) (c:Wf t) {box:Addr} (d:BoxOk w box S t) {x:Int} (p:Has t x) (hg:w.grownBy w' (S (t.par x)).v.ownBlock)
 (O:qQb 8 rdIc base 82 w' s'.v (((t.kids (t.par x)).map (icOf t S)).eraseIdx ((t.kids (t.par x)).idxOf x))) (f:qZc w (S (t.par x)).v s'.v) :
 ∃ S2 lab2,Mid base box w S t x (w'.setCell (qQg box t (fun n=>(S n).v) (t.par x)) s'.v) S2 lab2:=by
 have u:=c.par_has p;obtain ⟨B,y,z,A,C,D⟩:=zJu h c d u hg f;have K:∀ n,(n = -1∨Has (dropF t x) n)->(n = -1∨Has t n):=fun n H=>H.imp id (qY7 c);have o:¬ Reach t.kids x (t.par x):=fun e=>by
  obtain ⟨Q,N,F⟩:=c.falls;have M:=Reach.le F e;have P:=F.down _ _ p;omega
 have v:∀ n,(n = -1∨Has t n)->∀ b,(if n=t.par x then s' else S n).v.ownBlock=some b->s'.v.ownBlock=some b∨∃ m,(m = -1∨Has t m)/\(S m).v.ownBlock=some b:=fun n H b a=>by
  by_cases s:n=t.par x
  ·rw [if_pos s] at a;exact .inl a
  ·rw [if_neg s] at a;exact .inr ⟨n,H,a⟩
 have q:∀ n,(n = -1∨Has t n)->(if n=t.par x then s' else S n).v.ownBlock≠some box.block:=fun n H e=>by
  rcases v n H _ e with E | ⟨m,l,E⟩
  ·exact A E
  ·exact d.apart m l E
 obtain ⟨G,I⟩:=h.dropped c p hg O f d.lt d.apart;refine ⟨fun n=>if n=t.par x then s' else S n,_,G,fun n r=>?_,⟨?_,y,z,fun n H=>q n (K n H)⟩,q,fun n r=>if_neg (fun (e:n=t.par x)=>o (e▸r)),hg.os,hg.tape,hg.output,?_,C,fun n H b a=>?_,D⟩
 ·have J:n≠t.par x:=fun e=>o (e▸r);have l:(t.kids n).map (icOf t (fun n=>if n=t.par x then s' else S n))=(t.kids n).map (icOf t S):=List.map_congr_left (fun k j=>by
   have:k≠t.par x:=fun e=>o (e▸.step r j);unfold icOf;simp only [if_neg this])
  rw [l];simp only [if_neg J];exact I n r
 ·rw [B];by_cases e:t.par x = -1
  ·simp [e]
  ·have:¬ (-1:Int)=t.par x:=fun E=>e E.symm;simp only [if_neg e,if_neg this]
 ·rw [World.size_setCell];exact hg.size
 ·rcases v n H b a with E | E
  ·rcases f with e | ⟨k,e,j⟩
   ·exact .inr ⟨t.par x,u,e▸E⟩
   ·rw [e] at E;cases E;exact .inl j
  ·exact .inr E
section
variable {base:Nat} {w W:World} {S S2:Int->Sv} {lab2:Nat->Int} {t:Fl} {box:Addr} {x:Int}
theorem Mid.bel {a:World} (h:Mid base box w S t x W S2 lab2) (H:Bel W a):Mid base box w S t x a S2 lab2:=
 ⟨h.tab.bel H,fun n r=>⟨(h.ext n r).1.agree (fun b e=>H.block b ((h.ext n r).1.lt b e).2) (fun _ _ _ r=>by unfold rdIc at r ⊢;exact r),(h.ext n r).2⟩,h.boxed.bel H,h.apart,h.same,H.os.trans h.os,H.tape.trans h.tape,H.output.trans h.output,Za h.size H.size,fun b A c d=>(H.block b (Zc A h.size)).trans (h.block b A c d),h.rows,h.side.trans (Side.bel H) h.size⟩
theorem Mid.moved (c:Wf t) (h:Mid base box w S t x W S2 lab2) {T:Int} (s:Has t x) (o:T = -1∨Has t T) (p:¬ Reach t.kids x T) (l:i<=(cutF t x T).length) (hg:W.grownBy w' (S2 T).v.ownBlock)
 (O:qQb 8 rdIc base 82 w' s'.v ((((dropF t x).kids T).map (icOf t S2)).take i++[⟨t.head x,(S2 x).a,(S2 x).n,(S2 x).c⟩]++(((dropF t x).kids T).map (icOf t S2)).drop i)) (F:qZc W (S2 T).v s'.v) :
 Grew base box w S t (w'.setCell (qQg box (dropF t x) (fun n=>(S2 n).v) T) s'.v) (qJ4 t x T i):=by
 have J:=qHw c x;have I:T = -1∨Has (dropF t x) T:=by
  rcases o with e | e
  ·exact .inl e
  ·exact .inr ((qJy c).2 ⟨e,p⟩)
 obtain ⟨B,u,v,y,z,C⟩:=zJu h.tab J h.boxed I hg F;have r:∀ n,(n = -1∨Has (qJ4 t x T i) n)->∀ b,(if n=T then s' else S2 n).v.ownBlock=some b->s'.v.ownBlock=some b∨∃ m,(m = -1∨Has t m)/\(S2 m).v.ownBlock=some b:=fun n H b a=>by
  by_cases q:n=T
  ·rw [if_pos q] at a;exact .inl a
  ·rw [if_neg q] at a;refine .inr ⟨n,?_,a⟩;rcases H with e | H
   ·exact .inl e
   ·right;by_cases e:n=x
    ·rw [e];exact s
    ·unfold Has qJ4 at H;simp only [if_neg e] at H;split at H
     ·rename_i E;rw [mem_insertIdx l] at H;rcases H with D | H
      ·exact absurd D e
      ·have:=((qYo c).1 H).1;unfold Has;rw [E];exact this
     ·exact ((qYo c).1 H).1
 refine ⟨_,_,h.tab.moved c s o p l h.ext hg O F h.boxed.lt h.apart,⟨?_,u,v,fun n H e=>?_⟩,⟨?_,?_,?_,?_,fun b A f j=>?_,fun n H b a=>?_,h.side.trans C h.size⟩⟩
 ·rw [B];by_cases e:T = -1
  ·simp [e]
  ·have:¬ (-1:Int)=T:=fun E=>e E.symm;simp only [if_neg e,if_neg this]
 ·rcases r n H _ e with E | ⟨m,d,E⟩
  ·exact y E
  ·exact h.apart m d E
 ·exact hg.os.trans h.os
 ·exact hg.tape.trans h.tape
 ·exact hg.output.trans h.output
 ·rw [World.size_setCell];exact Za h.size hg.size
 ·refine (z b (Zc A h.size) f (fun n H e=>?_)).trans (h.block b A f j);rcases h.rows n (H.imp id (qY7 c)) b e with E | ⟨m,d,E⟩
  ·omega
  ·exact j m d E
 ·rcases r n H b a with E | ⟨m,d,E⟩
  ·rcases F with e | ⟨k,e,G⟩
   ·exact h.rows T o b (e▸E)
   ·rw [e] at E;cases E;exact .inl (Za h.size G)
  ·exact h.rows m d b E
end

/- diff.add: walked. -/
import Derived.Test.YtkhkbifdakikcaaGreatDoorTabSet
import Derived.Deep.CutBlock
set_option maxRecDepth 100000
set_option maxHeartbeats 4000000
namespace Go.Proofs.YtkhkbifdakikcaaGreatDoor
open Go.RowKit
variable {box:Addr} {e:Evt} {t t':Fl} {hd:Hd} {tw:Int} {S:Int->Sv} {base i o:Nat} {lab:Nat->Int} {s':Sv} {kv:Value} {a b w w' w1:World}
structure EvC (w:World) (b o:Nat) (e:Evt) (kv:Value):Prop where
 kind:w.cell? ⟨b,o,none⟩=some (.int .i64 e.kind)
 node:w.cell? ⟨b,o+1,none⟩=some (.int .i64 e.node)
 dest:w.cell? ⟨b,o+2,none⟩=some (.int .i64 e.dest)
 spot:w.cell? ⟨b,o+3,none⟩=some (.int .i64 e.spot)
 i0:w.cell? ⟨b,o+4,none⟩=some (.int .i64 e.item.h.node)
 i1:w.cell? ⟨b,o+5,none⟩=some (.int .i64 e.item.h.role)
 i2:w.cell? ⟨b,o+6,none⟩=some (.string ⟨e.item.h.name.toArray⟩)
 i3:w.cell? ⟨b,o+7,none⟩=some (.string ⟨e.item.h.about.toArray⟩)
 i4:w.cell? ⟨b,o+8,none⟩=some (.int .i64 e.item.h.level)
 i5:w.cell? ⟨b,o+9,none⟩=some (.int .i64 e.item.h.checked)
 i6:w.cell? ⟨b,o+10,none⟩=some (.bool e.item.h.off)
 i7:w.cell? ⟨b,o+11,none⟩=some kv
theorem zX3 {P:Program} {c:Code} {Q:Exit->Act->World->Prop} {a:Act} {W:World} {E:World->Prop} (hE:E W) (h:∀ w,E w->c.wp P Q a w):c.wp P Q a W:=h W hE
theorem qBu (h:Bel a w) (n:Nat):Bel a (w.drewN n):=Below.trans h (Drew.below ⟨n,rfl⟩ _)
theorem qJb (h:w'.heap=w.heap) (a:Addr):w'.cell? a=w.cell? a:=World.cell?_of_block (by rw [h])
theorem qQx.heap (h:qQx base w S lab t) (e:w'.heap=w.heap):qQx base w' S lab t:=fun n H=>⟨(h n H).1.agree (fun b _=>by rw [e]) (fun _ _ _ r=>r),(h n H).2⟩
theorem EvC.heap {b:Nat} (h:EvC w b o e kv) (H:w'.heap=w.heap):EvC w' b o e kv:=
 ⟨(qJb H _).trans h.kind,(qJb H _).trans h.node,(qJb H _).trans h.dest,(qJb H _).trans h.spot,(qJb H _).trans h.i0,(qJb H _).trans h.i1,(qJb H _).trans h.i2,(qJb H _).trans h.i3,(qJb H _).trans h.i4,(qJb H _).trans h.i5,(qJb H _).trans h.i6,(qJb H _).trans h.i7⟩
structure BoxOk (w:World) (box:Addr) (S:Int->Sv) (t:Fl):Prop where
 cell:w.cell? box=some (S (-1)).v
 open':w.frozen? box=false
 lt:box.block<w.heap.size
 apart:∀ n,(n = -1∨Has t n)->(S n).v.ownBlock≠some box.block
def Side (box:Addr) (w w':World):Prop:=box.block<w.heap.size->(∀ o,o≠box.off->w'.cell? ⟨box.block,o,none⟩=w.cell? ⟨box.block,o,none⟩/\w'.frozen? ⟨box.block,o,none⟩=w.frozen? ⟨box.block,o,none⟩)/\∀ C e,Blk w box.block C e->∃ C',Blk w' box.block C' e
theorem Side.of_block (h:box.block<w.heap.size->w'.heap[box.block]?=w.heap[box.block]?):Side box w w':=fun H=>⟨fun _ _=>⟨World.cell?_of_block (h H),World.frozen?_of_block (h H)⟩,fun C _ k=>⟨C,k.of (h H)⟩⟩
theorem Side.trans {c:World} (h:Side box a b) (k:Side box b c) (s:a.heap.size<=b.heap.size):Side box a c:=fun l=>by
 obtain ⟨d,g⟩:=h l;obtain ⟨K,n⟩:=k (Zc l s);refine ⟨fun o H=>⟨(K o H).1.trans (d o H).1,(K o H).2.trans (d o H).2⟩,fun C e m=>?_⟩;obtain ⟨f,j⟩:=g C e m;exact n f e j
theorem Side.bel (h:Bel a b):Side box a b:=Side.of_block (fun H=>h.block _ H)
theorem Blk.any {g:Nat} {C:List Value} {e:TypeId} (h:Blk w g C e) (a:Addr) (v:Value):∃ c,Blk (w.setCell a v) g c e:=by
 by_cases hg:g=a.block
 ·have H:w.heap[g]?=_:=h;unfold Blk;cases s:a.spot.isSome with
  | true=>exact ⟨C,by simp [World.setCell,Array.getElem?_modify,H,hg.symm,s]⟩
  | false=>exact ⟨C.set a.off v,by simp [World.setCell,Array.getElem?_modify,H,hg.symm,s]⟩
 ·exact ⟨C,h.other a v hg⟩
structure Kept (w w':World) (box:Addr) (S S':Int->Sv) (t t':Fl):Prop where
 os:w'.os=w.os
 tape:w'.tape=w.tape
 output:w'.output=w.output
 size:w.heap.size<=w'.heap.size
 block:∀ b,b<w.heap.size->b≠box.block->(∀ n,(n = -1∨Has t n)->(S n).v.ownBlock≠some b)->w'.heap[b]?=w.heap[b]?
 rows:∀ n,(n = -1∨Has t' n)->∀ b,(S' n).v.ownBlock=some b->w.heap.size<=b∨∃ m,(m = -1∨Has t m)/\(S m).v.ownBlock=some b
 side:Side box w w'
theorem qQx.open_ (h:qQx base w S lab t) (c:Wf t) (f:BoxOk w box S t) {n:Int} (j:n = -1∨Has t n):w.frozen? (qQg box t (fun n=>(S n).v) n)=false:=by
 rcases h.cell c j box with ⟨_,e⟩ | ⟨H,g,k,d,e⟩
 ·rw [e];exact f.open'
 ·have p:t.par n = -1∨Has t (t.par n):=c.kids_has (by intro e;unfold Has at H;rw [e] at H;simp at H);have r:=(h _ p).1;rw [e];obtain ⟨x,Q,m,q⟩:=r;rw [d] at q;rcases q.2 with ⟨E,_⟩ | ⟨G,l,C,E,_,hg,_⟩
  ·unfold Sv.v at E;simp at E
  ·have:g=G:=(by unfold Sv.v at E;simp at E;exact E.1);subst this;exact frozen_of_row w g _ C _ hg
def Grew (base:Nat) (box:Addr) (w:World) (S:Int->Sv) (t:Fl) (w':World) (t':Fl):Prop:=
 ∃ S' lab',qQx base w' S' lab' t'/\BoxOk w' box S' t'/\Kept w w' box S S' t t'
theorem BoxOk.heap (h:BoxOk w box S t) (e:w'.heap=w.heap):BoxOk w' box S t:=
 ⟨(qJb e _).trans h.cell,(World.frozen?_of_block (by rw [e])).trans h.open',by rw [e];exact h.lt,h.apart⟩
theorem Grew.heap {W:World} (h:Grew base box w S t w1 t') (e:W.heap=w1.heap) (E:W.os=w1.os) (g:W.tape=w1.tape) (j:W.output=w1.output):Grew base box w S t W t':=by
 obtain ⟨c,m,k,l,H⟩:=h;exact ⟨c,m,k.heap e,l.heap e,⟨E.trans H.os,g.trans H.tape,j.trans H.output,by rw [e];exact H.size,fun b A d f=>by rw [e];exact H.block b A d f,H.rows,H.side.trans (Side.of_block (fun _=>by rw [e])) H.size⟩⟩
theorem qQx.bel (h:qQx base w S lab t) (c:Bel w w'):qQx base w' S lab t:=fun n H=>⟨(h n H).1.agree (fun b d=>c.block b ((h n H).1.lt b d).2) (fun _ _ _ r=>r),(h n H).2⟩
theorem BoxOk.bel (h:BoxOk w box S t) (H:Bel w w'):BoxOk w' box S t:=
 ⟨(World.cell?_of_block (H.block _ h.lt)).trans h.cell,(World.frozen?_of_block (H.block _ h.lt)).trans h.open',Zc h.lt H.size,h.apart⟩
theorem Grew.of_bel {w0:World} (H:Bel w w0) (h:Grew base box w0 S t w1 t'):Grew base box w S t w1 t':=by
 obtain ⟨d,p,j,k,c⟩:=h;refine ⟨d,p,j,k,⟨c.os.trans H.os,c.tape.trans H.tape,c.output.trans H.output,Za H.size c.size,fun b A f g=>(c.block b (Zc A H.size) f g).trans (H.block b A),fun n m b l=>?_,(Side.bel H).trans c.side H.size⟩⟩;rcases c.rows n m b l with e | e
 ·exact .inl (Za H.size e)
 ·exact .inr e
theorem zJu (h:qQx base w S lab t) (d:Wf t) (H:BoxOk w box S t) (j:tw = -1∨Has t tw) (hg:w.grownBy w' (S tw).v.ownBlock) (F:qZc w (S tw).v s'.v) :
 (w'.setCell (qQg box t (fun n=>(S n).v) tw) s'.v).cell? box=some (if tw = -1 then s' else S (-1)).v/\(w'.setCell (qQg box t (fun n=>(S n).v) tw) s'.v).frozen? box=false/\box.block<(w'.setCell (qQg box t (fun n=>(S n).v) tw) s'.v).heap.size/\s'.v.ownBlock≠some box.block /\
 (∀ b,b<w.heap.size->b≠box.block->(∀ n,(n = -1∨Has t n)->(S n).v.ownBlock≠some b)->(w'.setCell (qQg box t (fun n=>(S n).v) tw) s'.v).heap[b]?=w.heap[b]?)/\Side box w (w'.setCell (qQg box t (fun n=>(S n).v) tw) s'.v):=by
 have x:w'.heap[box.block]?=w.heap[box.block]?:=hg.block _ H.lt (fun e=>H.apart tw j e.symm);have m:w'.cell? box=some (S (-1)).v:=(World.cell?_of_block x).trans H.cell;refine ⟨?_,?_,?_,?_,fun b u v y=>h.still d j hg u v y,fun _=>⟨fun o z=>⟨?_,?_⟩,fun C e q=>(q.of x).any _ _⟩⟩
 ·rcases h.cell d j box with ⟨s,e⟩ | ⟨c,g,r,l,e⟩
  ·rw [e,if_pos s];exact World.cell?_setCell_same _ _ _ m
  ·have p:t.par tw = -1∨Has t (t.par tw):=d.kids_has (by intro e;unfold Has at c;rw [e] at c;simp at c);have A:=c.ge d;rw [e,if_neg (by omega),World.cell?_setCell_other _ _ _ _ (by
    intro E;exact H.apart _ p (by rw [l];show some g=some box.block;have f:=congrArg Addr.block E;simp at f;rw [f])),m]
 ·rw [World.frozen?_setCell,World.frozen?_of_block x];exact H.open'
 ·rw [World.size_setCell];exact Zc H.lt hg.size
 ·rcases F with e | ⟨k,e,q⟩
  ·rw [e];exact H.apart tw j
  ·rw [e];intro E;cases E;have:=H.lt;omega
 ·rw [World.cell?_setCell_other _ _ _ _ (fun E=>?_)]
  ·exact World.cell?_of_block x
  ·rcases h.cell d j box with ⟨_,e⟩ | ⟨c,g,r,l,e⟩
   ·rw [e] at E;exact z (congrArg Addr.off E).symm
   ·have p:t.par tw = -1∨Has t (t.par tw):=d.kids_has (by intro e;unfold Has at c;rw [e] at c;simp at c);rw [e] at E;exact H.apart _ p (by rw [l];show some g=some box.block;have f:=congrArg Addr.block E;simp at f;rw [f])
 ·rw [World.frozen?_setCell];exact World.frozen?_of_block x
theorem add_grew (h:qQx base w S lab t) (q:Wf t) (d:BoxOk w box S t) {x:Int} (r:¬ Has t x) (A:0<=x) (f:tw = -1∨Has t tw) (j:i<=(t.kids tw).length) (hg:w.grownBy w' (S tw).v.ownBlock)
 (O:qQb 8 rdIc base 82 w' s'.v (((t.kids tw).map (icOf t S)).take i++[⟨hd,none,0,0⟩]++((t.kids tw).map (icOf t S)).drop i)) (F:qZc w (S tw).v s'.v) :
 Grew base box w S t (w'.setCell (qQg box t (fun n=>(S n).v) tw) s'.v) (addF t x hd tw i):=by
 obtain ⟨B,s,u,v,y,z⟩:=zJu h q d f hg F;have G:x≠tw:=by
  rintro rfl;rcases f with e | e
  ·omega
  ·exact r e
 have p:∀ n,(n = -1∨Has (addF t x hd tw i) n)->∀ b,(if n=x then ({}:Sv) else if n=tw then s' else S n).v.ownBlock=some b->s'.v.ownBlock=some b∨∃ m,(m = -1∨Has t m)/\(S m).v.ownBlock=some b:=fun n c b H=>by
  by_cases g:n=x
  ·rw [if_pos g] at H;cases H
  ·rw [if_neg g] at H;by_cases l:n=tw
   ·rw [if_pos l] at H;exact .inl H
   ·rw [if_neg l] at H;exact .inr ⟨n,c.imp id (zJj j g),H⟩
 refine ⟨_,_,h.added q r A f j hg O F d.lt d.apart,⟨?_,s,u,fun n c e=>?_⟩,⟨?_,?_,?_,?_,y,fun n c b H=>?_,z⟩⟩
 ·rw [B];have:(-1:Int)≠x:=by omega
  simp only [if_neg this];by_cases e:tw = -1
  ·subst e;simp
  ·have:¬ (-1:Int)=tw:=fun E=>e E.symm;rw [if_neg e,if_neg this]
 ·rcases p n c _ e with E | ⟨m,D,E⟩
  ·exact v E
  ·exact d.apart m D E
 ·exact hg.os
 ·exact hg.tape
 ·exact hg.output
 ·rw [World.size_setCell];exact hg.size
 ·rcases p n c b H with E | E
  ·rcases F with e | ⟨k,e,C⟩
   ·exact .inr ⟨tw,f,e▸E⟩
   ·rw [e] at E;cases E;exact .inl C
  ·exact .inr E
theorem EvC.bel {b:Nat} (h:EvC w b o e kv) (H:Bel w w'):EvC w' b o e kv:=by
 have l:b<w.heap.size:=World.block_lt_of_cell? w _ h.kind;exact ⟨(H.cells b _ l).trans h.kind,(H.cells b _ l).trans h.node,(H.cells b _ l).trans h.dest,(H.cells b _ l).trans h.spot,(H.cells b _ l).trans h.i0,(H.cells b _ l).trans h.i1,(H.cells b _ l).trans h.i2,(H.cells b _ l).trans h.i3,(H.cells b _ l).trans h.i4,(H.cells b _ l).trans h.i5,(H.cells b _ l).trans h.i6,(H.cells b _ l).trans h.i7⟩
theorem qWu (h:qQx base w S lab t) (d:Wf t) (f:BoxOk w box S t) (c:tw = -1∨Has t tw) (hg:w.grownBy w' (S tw).v.ownBlock):w'.heap[(qQg box t (fun n=>(S n).v) tw).block]?=w.heap[(qQg box t (fun n=>(S n).v) tw).block]?:=by
 refine hg.block _ (World.block_lt_of_cell? _ _ (h.rd.cell d f.cell c)) ?_;rcases h.cell d c box with ⟨l,e⟩ | ⟨H,g,C,p,e⟩
 ·rw [e];exact fun E=>f.apart tw c E.symm
 ·rw [e];have k:t.par tw = -1∨Has t (t.par tw):=d.kids_has (by intro e;unfold Has at H;rw [e] at H;simp at H);refine fun E=>h.apart k c ?_ (b:=g) (by rw [p];rfl) E.symm;intro j;obtain ⟨m,N,F⟩:=d.falls;have:=F.down _ _ H;rw [j] at this;omega
theorem zJ1 (T:qQx base w S lab t) (H:Wf t) (O:∀ n,Has t n->(t.head n).node=n) (f:BoxOk w box S t) {nd:Int} {eb eo:Nat} (hE:EvC w eb eo ⟨2,nd,tw,i,.mk hd []⟩ (.slice none 0 0))
 (Q:¬ Has t hd.node) (h0:0<=hd.node) (d:tw = -1∨Has t tw) (P:i<=(t.kids tw).length) (hl:(t.kids tw).length<=1000000000) (a2:base<=w.heap.size) :
 Calls Tryz.prog 131 #[.pointer (some box),.pointer (some ⟨eb,eo,none⟩)] w fun e w'=>e=.returned (.int .i64 0)/\Grew base box w S t w' (addF t hd.node hd tw i):=by
 obtain ⟨μ,N,F⟩:=H.falls;obtain ⟨s,m,q,s1,s2⟩:=Rf (T tw d).1.read;have a5:(List.map (icOf t S) (t.kids tw)).length=(t.kids tw).length:=by simp
 rw [a5] at q s1;have I:Hi (∀ W,Bel w W->Calls Tryz.prog 109 #[.pointer (some box),.int .i64 tw] W (Rv (.pointer (some (qQg box t (fun n=>(S n).v) tw))) W)):=lH (fun W h=>qYj H F (Nat.lt_succ_self N) O tw W (T.bel h).rd (f.bel h).cell d);have u:Hi (∀ W,Bel w W->Calls Tryz.prog 57 #[.pointer (some box),.int .i64 hd.node] W (Rv (.tuple #[.pointer none,.int .i64 0]) W)):=lH (fun W h=>by
  have y:=(T.bel h).rd;have hc:=(f.bel h).cell;have:=qJl (box:=box) H F O hd.node (N+1) (-1) W y (.inl rfl) (by omega) (y.cell H hc (.inl rfl));rw [qH4 H F (Nat.lt_succ_self N) Q] at this;have eb:qQg box t (fun n=>(S n).v) (-1)=box:=by unfold qQg;rw [if_pos rfl]
  rw [eb] at this;exact this)
 have j:Hi (∀ W,Bel w W->W.cell? (qQg box t (fun n=>(S n).v) tw)=some (.slice s (t.kids tw).length m)/\W.frozen? (qQg box t (fun n=>(S n).v) tw)=false/\EvC W eb eo ⟨2,nd,tw,i,.mk hd []⟩ (.slice none 0 0)):=lH (fun W h=>⟨by
  have:=(T.bel h).rd.cell H (f.bel h).cell d;rw [<- q];exact this,(T.bel h).open_ H (f.bel h) d,hE.bel h⟩)
 have x:Hi (∀ (N:Nat) W,Bel w W->N=W.heap.size->Calls Tryz.prog 144 #[.slice s (t.kids tw).length m,.int .i64 i,.slice (some ⟨N,0,none⟩) 1 1] (W.alloc (.cells #[.int .i64 hd.node,.int .i64 hd.role,.string ⟨hd.name.toArray⟩,.string ⟨hd.about.toArray⟩,.int .i64 hd.level,.int .i64 hd.checked,.bool hd.off,.slice none 0 0] 82)).drew fun e w'=>∃ A R C,e=.returned (.slice A R C)/\w'.cell? (qQg box t (fun n=>(S n).v) tw)=some (.slice s (t.kids tw).length m)/\w'.frozen? (qQg box t (fun n=>(S n).v) tw)=false/\Grew base box w S t (w'.setCell (qQg box t (fun n=>(S n).v) tw) (.slice A R C)) (addF t hd.node hd tw i)):=lH (fun N W h hN=>by
  subst hN;have a1:Bel W (W.alloc (.cells #[.int .i64 hd.node,.int .i64 hd.role,.string ⟨hd.name.toArray⟩,.string ⟨hd.about.toArray⟩,.int .i64 hd.level,.int .i64 hd.checked,.bool hd.off,.slice none 0 0] 82)).drew:=((Br W).alloc _).drew;have B:=Bt h a1;have k:=T.bel B;have a6:=(k tw d).1;rw [<- q];have hq:=(Blk.new' W _ rfl #[.int .i64 hd.node,.int .i64 hd.role,.string ⟨hd.name.toArray⟩,.string ⟨hd.about.toArray⟩,.int .i64 hd.level,.int .i64 hd.checked,.bool hd.off,.slice none 0 0] 82).drew;refine (qGs base (S tw).v ((t.kids tw).map (icOf t S)) i W.heap.size ⟨hd,none,0,0⟩ _ a6 (Za a2 B.size) (by simpa using P) (by simpa using hl) hq (fun e=>by
   have:=((T.bel h) tw d).1.lt _ e;omega)).mono ?_
  rintro e w2 ⟨a9,rfl,U,G,f2⟩;obtain ⟨r,rfl⟩:=zXn U;have a3:=k.rd.cell H (f.bel B).cell d;have K:=qWu k H (f.bel B) d G;exact ⟨r.a,r.n,r.c,rfl,(World.cell?_of_block K).trans a3,(World.frozen?_of_block K).trans (k.open_ H (f.bel B) d),Grew.of_bel B (add_grew k H (f.bel B) Q h0 d P G U f2)⟩)
 have a4:=hE.kind;clear a4;generalize l:qQg box t (fun n=>(S n).v) tw=ca at *
 clear l;have D:=lH (Br w);obtain ⟨l,M,v⟩:=j.o w D.o;have e3:=v.spot;have e2:=v.dest;have p:=v.i0;have E:=v.i7;have a8:decide ((i:Int)<0)=false:=by simp
 have a7:decide ((i:Int) > ((t.kids tw).length:Int))=false:=by simp;omega
 clear v T f hE;go_enter Tryz.func131,Tryz.ntmps131
 go_upto_region 4 with (go_at_call 109;(with_reducible refine (I.o _ D.o).mono ?_);rintro e w1 ⟨rfl,rfl⟩)
 go_quiet (fail)
 go_upto_region 6 with fail
 refine zX3 (E:=fun W=>Bel w W) (qBu (Br w) _) ?_;intro c J;have g:=lH J;clear J l M e3 e2 p E;obtain ⟨l,M,v⟩:=j.o c g.o;have p:c.cell? ⟨eb,eo+4,none⟩=some (.int .i64 hd.node):=v.i0;have E:c.cell? ⟨eb,eo+11,none⟩=some (.slice none 0 0):=v.i7;clear v;go_upto_region 11 with (go_at_call 57;(with_reducible refine (u.o _ g.o).mono ?_);rintro e w1 ⟨rfl,rfl⟩)
 have B:=lH ((Br c).alloc (.cells #[.int .i64 hd.node,.int .i64 hd.role,.string ⟨hd.name.toArray⟩,.string ⟨hd.about.toArray⟩,.int .i64 hd.level,.int .i64 hd.checked,.bool hd.off,.slice none 0 0] 82));obtain ⟨ya,yf,Y⟩:=j.o _ (Bt g.o B.o);obtain ⟨-,-,z⟩:=j.o _ g.o;have z3:c.cell? ⟨eb,eo+3,none⟩=some (.int .i64 i):=z.spot;have z4:c.cell? ⟨eb,eo+4,none⟩=some (.int .i64 hd.node):=z.i0;have z5:c.cell? ⟨eb,eo+5,none⟩=some (.int .i64 hd.role):=z.i1;have z6:c.cell? ⟨eb,eo+6,none⟩=some (.string ⟨hd.name.toArray⟩):=z.i2;have z7:c.cell? ⟨eb,eo+7,none⟩=some (.string ⟨hd.about.toArray⟩):=z.i3;have z8:c.cell? ⟨eb,eo+8,none⟩=some (.int .i64 hd.level):=z.i4;have z9:c.cell? ⟨eb,eo+9,none⟩=some (.int .i64 hd.checked):=z.i5;have aa:c.cell? ⟨eb,eo+10,none⟩=some (.bool hd.off):=z.i6;have ab:c.cell? ⟨eb,eo+11,none⟩=some (.slice none 0 0):=z.i7;clear z;have y3:(c.alloc (.cells #[.int .i64 hd.node,.int .i64 hd.role,.string ⟨hd.name.toArray⟩,.string ⟨hd.about.toArray⟩,.int .i64 hd.level,.int .i64 hd.checked,.bool hd.off,.slice none 0 0] 82)).cell? ⟨eb,eo+3,none⟩=some (.int .i64 i):=Y.spot;clear Y p E;have Z:=lH (x.o _ c g.o rfl);clear I u j x B;have a0:=lH (enters_of (P:=Tryz.prog) Tryz.func144 (by kernel_rfl) rfl);go_region_law (refine qZ6 rfl 144 a0.o #[.tmp 57,.tmp 61,.tmp 66] _ rfl (vs:=#[.slice s (t.kids tw).length m,.int .i64 i,.slice (some ⟨c.heap.size,0,none⟩) 1 1]) ?hv Z.o ?_;(case hv=>simp [Act.eval]);rintro e w6 ⟨ya,yn,yc,rfl,x6,f6,V⟩;refine ⟨_,rfl,?_⟩;have X:=lH V;clear V)
 all_goals
  go_wp2
  go_ret
  exact ⟨rfl,X.o⟩

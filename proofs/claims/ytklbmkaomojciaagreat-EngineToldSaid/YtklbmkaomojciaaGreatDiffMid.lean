/- diff.one: a removal, walked. -/
import Derived.Test.YtklbmkaomojciaaGreatDiffAdd
set_option maxRecDepth 100000
set_option maxHeartbeats 4000000
namespace Go.Proofs.YtklbmkaomojciaaGreat
open Go.RowKit
theorem Wf.par_has {t:Fl} (hw:Wf t) {x:Int} (hx:Has t x):t.par x = -1∨Has t (t.par x):=hw.kids_has (by intro e;unfold Has at hx;rw [e] at hx;simp at hx)
theorem zH1 {base:Nat} {w w':World} {S:Int->Sv} {lab:Nat->Int} {t:Fl} (h:qQv base w S lab t) (hw:Wf t) {box:Addr} (hb:BoxOk w box S t) {x:Int} (hx:Has t x) {s':Sv} (hg:w.grownBy w' (S (t.par x)).v.ownBlock)
 (hO:qQb 8 rdIc base 111 w' s'.v (((t.kids (t.par x)).map (icOf t S)).eraseIdx ((t.kids (t.par x)).idxOf x))) (hF:qZe w (S (t.par x)).v s'.v) :
 Grew base box w S t (w'.setCell (qQg box t (fun n=>(S n).v) (t.par x)) s'.v) (dropF t x):=by
 have hp:=hw.par_has hx
 obtain ⟨b1,b2,b3,b4,b5,b6⟩:=zZd h hw hb hp hg hF
 have hsub:∀ n,(n = -1∨Has (dropF t x) n)->(n = -1∨Has t n):=fun n hn=>hn.imp id (qYa hw)
 have hrow:∀ n,(n = -1∨Has (dropF t x) n)->∀ b,(if n=t.par x then s' else S n).v.ownBlock=some b->s'.v.ownBlock=some b∨∃ m,(m = -1∨Has t m)/\(S m).v.ownBlock=some b:=fun n hn b hb'=>by
  by_cases hnt:n=t.par x
  ·rw [if_pos hnt] at hb'
   exact .inl hb'
  ·rw [if_neg hnt] at hb'
   exact .inr ⟨n,hsub n hn,hb'⟩
 refine ⟨_,_,(h.dropped hw hx hg hO hF hb.lt hb.apart).1,⟨?_,b2,b3,fun n hn e=>?_⟩,⟨?_,?_,?_,?_,b5,fun n hn b hb'=>?_,b6⟩⟩
 ·rw [b1]
  by_cases e:t.par x = -1
  ·simp [e]
  ·have:¬ (-1:Int)=t.par x:=fun e2=>e e2.symm
   simp only [if_neg e,if_neg this]
 ·rcases hrow n hn _ e with e2 | ⟨m,hm,e2⟩
  ·exact b4 e2
  ·exact hb.apart m hm e2
 ·exact hg.os
 ·exact hg.tape
 ·exact hg.output
 ·rw [World.size_setCell];exact hg.size
 ·rcases hrow n hn b hb' with e2 | e2
  ·rcases hF with e | ⟨k,e,hk⟩
   ·exact .inr ⟨t.par x,hp,e▸e2⟩
   ·rw [e] at e2
    cases e2
    exact .inl hk
  ·exact .inr e2
theorem qXs {base:Nat} {w:World} {S:Int->Sv} {lab:Nat->Int} {t:Fl} (hT:qQv base w S lab t) (hw:Wf t) (hh:∀ n,Has t n->(t.head n).node=n) {box:Addr} (hb:BoxOk w box S t) {x:Int} (hx:Has t x) :
 Calls Tryz.prog 130 #[.pointer (some box),.int .i64 x] w (Rv (.tuple #[.pointer (some (qQg box t (fun n=>(S n).v) (t.par x))),.int .i64 ((t.kids (t.par x)).idxOf x:Nat)]) w):=by
 obtain ⟨μ,N,F⟩:=hw.falls
 have hc:=hT.rd.cell hw hb.cell (.inl rfl)
 have:=qJi (box:=box) hw F hh x (N+1) (-1) w hT.rd (.inl rfl) (by omega) hc
 rw [qFc hw F (Nat.lt_succ_self N) hx] at this
 have eb:qQg box t (fun n=>(S n).v) (-1)=box:=by unfold qQg;rw [if_pos rfl]
 rw [eb] at this
 exact this
theorem qD8 {base:Nat} {w:World} {S:Int->Sv} {lab:Nat->Int} {t:Fl} (hT:qQv base w S lab t) (hw:Wf t) (hh:∀ n,Has t n->(t.head n).node=n) {box:Addr} (hb:BoxOk w box S t) {x:Int} {eb eo:Nat} (hk:w.cell? ⟨eb,eo,none⟩=some (.int .i64 1)) (hn:w.cell? ⟨eb,eo+1,none⟩=some (.int .i64 x))
 (hx:Has t x) (hl:(t.kids (t.par x)).length<=1000000000) :
 Calls Tryz.prog 93 #[.pointer (some box),.pointer (some ⟨eb,eo,none⟩)] w fun e w'=>e=.returned (.int .i64 0)/\Grew base box w S t w' (dropF t x):=by
 have hp:=hw.par_has hx
 obtain ⟨sa,sc,hS,s1,s2⟩:=Rf (hT _ hp).1.read
 have hlen:(List.map (icOf t S) (t.kids (t.par x))).length=(t.kids (t.par x)).length:=by simp
 rw [hlen] at hS s1
 have hlt:(t.kids (t.par x)).idxOf x<(t.kids (t.par x)).length:=List.idxOf_lt_length_of_mem hx
 have cF:=lH (qXs hT hw hh hb hx)
 have hcc0:=hT.rd.cell hw hb.cell hp
 have hfz:=hT.open_ hw hb hp
 have cD:Hi (Calls Tryz.prog 143 #[.slice sa (t.kids (t.par x)).length sc,.int .i64 ((t.kids (t.par x)).idxOf x:Nat),.int .i64 (((t.kids (t.par x)).idxOf x:Nat)+1)] w fun e w'=>∃ a1 n1 c1,e=.returned (.slice a1 n1 c1)/\w'.cell? (qQg box t (fun n=>(S n).v) (t.par x))=some (.slice sa (t.kids (t.par x)).length sc)/\w'.frozen? (qQg box t (fun n=>(S n).v) (t.par x))=false/\Grew base box w S t (w'.setCell (qQg box t (fun n=>(S n).v) (t.par x)) (.slice a1 n1 c1)) (dropF t x)):=lH (by
  rw [<- hS]
  refine (qGg base (S (t.par x)).v ((t.kids (t.par x)).map (icOf t S)) ((t.kids (t.par x)).idxOf x) w (hT _ hp).1 (by simpa using hlt) (by simpa using hl)).mono ?_
  rintro e w2 ⟨y,rfl,o2,g2,f2⟩
  obtain ⟨sv,rfl⟩:=zJ9 o2
  have hblk:=qWn hT hw hb hp g2
  exact ⟨sv.a,sv.n,sv.c,rfl,(World.cell?_of_block hblk).trans hcc0,(World.frozen?_of_block hblk).trans hfz,zH1 hT hw hb hx g2 o2 (.inl f2)⟩)
 have hcc:w.cell? (qQg box t (fun n=>(S n).v) (t.par x))=some (.slice sa (t.kids (t.par x)).length sc):=by rw [<- hS];exact hcc0
 clear hS hT hb hcc0
 generalize qQg box t (fun n=>(S n).v) (t.par x)=ca at *
 generalize (t.kids (t.par x)).idxOf x=k at *
 generalize (t.kids (t.par x)).length=L at *
 have hov:(-9223372036854775808:Int)<=(k:Int)+1/\(k:Int)+1<=9223372036854775807:=by omega
 go_enter Tryz.func93,Tryz.ntmps93
 go_wp2_with first
  | (go_at_call 130;(with_reducible refine cF.o.mono ?_);rintro e w1 ⟨rfl,rfl⟩)
  | (go_at_call 143;(with_reducible refine cD.o.mono ?_);rintro e w2 ⟨ya,yn,yc,rfl,x6,f6,st⟩;have HST:=lH st;clear st)
 go_ret
 exact ⟨rfl,HST.o⟩
end Go.Proofs.YtklbmkaomojciaaGreat
set_option maxRecDepth 100000
set_option maxHeartbeats 4000000
namespace Go.Proofs.YtklbmkaomojciaaGreat
open Go.RowKit
theorem zX5 {α:Type} (f f':Int->α) {x:Int}:∀ {l:List Int},l.Nodup->x∈l->(∀ k,k≠x->f' k=f k)->l.map f'=(l.map f).set (l.idxOf x) (f' x):=by
 intro l
 induction l with
 | nil=>intro _ h;simp at h
 | cons a l ih=>
   intro hn hx he
   by_cases e:a=x
   ·subst e
    rw [List.idxOf_cons_self]
    simp only [List.map_cons,Zf]
    congr 1
    refine List.map_congr_left (fun k hk=>he k (fun e=>?_))
    subst e
    exact (List.nodup_cons.1 hn).1 hk
   ·have hx2:x∈l:=(List.mem_cons.1 hx).resolve_left (fun h=>e h.symm)
    have hb:(a==x)=false:=by simpa using e
    rw [List.idxOf_cons,hb]
    simp only [cond_false,List.map_cons,Zg]
    rw [he a e,ih (List.nodup_cons.1 hn).2 hx2 he]
theorem zBe {α:Type} {enc:α->List Value} {l:List α} {C vs:List Value} {i:Nat} {y:α} (he:∀ x,(enc x).length=8) (hi:i<l.length) (ht:C.take (l.length*8)=l.flatMap enc) (hv:vs=enc y):(C.take (i*8)++vs++C.drop (i*8+8)).take ((l.set i y).length*8)=(l.set i y).flatMap enc:=by
 subst hv
 obtain ⟨D,hD⟩:∃ D,D=C.drop (l.length*8):=⟨_,rfl⟩
 have hCD:C=l.flatMap enc++D:=by rw [<- ht,hD,List.take_append_drop]
 have hl:l=l.take i++l[i]::l.drop (i+1):=by rw [<- List.drop_eq_getElem_cons hi,List.take_append_drop]
 have hA:((l.take i).flatMap enc).length=i*8:=by rw [qQu he,List.length_take,Nat.min_eq_left (by omega)]
 have hB:((l.drop (i+1)).flatMap enc).length=(l.length - (i+1))*8:=by rw [qQu he,List.length_drop]
 have hf:l.flatMap enc=(l.take i).flatMap enc++(enc l[i]++(l.drop (i+1)).flatMap enc):=by
  conv=>lhs;rw [hl]
  rw [List.flatMap_append,List.flatMap_cons]
 have h1:C.take (i*8)=(l.take i).flatMap enc:=by rw [hCD,hf,List.append_assoc,<- hA,List.take_left]
 have h2:C.drop (i*8+8)=(l.drop (i+1)).flatMap enc++D:=by
  rw [hCD,hf,List.append_assoc,List.append_assoc,<- List.append_assoc]
  have:((l.take i).flatMap enc++enc l[i]).length=i*8+8:=by rw [Zj,hA,he]
  rw [<- this,List.drop_left]
 rw [h1,h2,List.set_eq_take_append_cons_drop,if_pos hi,List.flatMap_append,List.flatMap_cons]
 have h3:(l.take i++y::l.drop (i+1)).length*8=((l.take i).flatMap enc++(enc y++(l.drop (i+1)).flatMap enc)).length:=by
  simp only [Zj,hA,hB,he,Zm,List.length_take,List.length_drop,Nat.min_eq_left (Nat.le_of_lt hi)]
  omega
 have h4:(l.take i).flatMap enc++enc y++((l.drop (i+1)).flatMap enc++D)=((l.take i).flatMap enc++(enc y++(l.drop (i+1)).flatMap enc))++D:=by simp only [List.append_assoc]
 rw [h3,h4,List.take_left]
theorem qWz (g:Nat):∀ (vs:List Value) (o:Nat) (w:World) {b:Nat},b≠g->(w.setCells g o vs).heap[b]?=w.heap[b]?:=by
 intro vs
 induction vs with
 | nil=>intro o w b _;rfl
 | cons v vs ih=>
   intro o w b hb
   exact (ih (o+1) _ hb).trans (Below.heap_setCell _ _ _ _ hb)
theorem told_own {base:Nat} {w W0:World} {S:Int->Sv} {lab:Nat->Int} {t:Fl} (h:qQv base w S lab t) (hw:Wf t) {x:Int} (hx:Has t x) {hd:Hd} {g cap:Nat} (hS:(S (t.par x)).v=.slice (some ⟨g,0,none⟩) (t.kids (t.par x)).length cap) (hB:Bel w W0) {kv:Value} :
 qQv base ((W0.setCells g ((t.kids (t.par x)).idxOf x*8) (qQi hd kv)).setCell ⟨g,(t.kids (t.par x)).idxOf x*8+7,none⟩ (S x).v) S lab (qXm t x hd) /\
 (∀ b,b≠g->((W0.setCells g ((t.kids (t.par x)).idxOf x*8) (qQi hd kv)).setCell ⟨g,(t.kids (t.par x)).idxOf x*8+7,none⟩ (S x).v).heap[b]?=W0.heap[b]?)/\W0.grownBy ((W0.setCells g ((t.kids (t.par x)).idxOf x*8) (qQi hd kv)).setCell ⟨g,(t.kids (t.par x)).idxOf x*8+7,none⟩ (S x).v) (some g):=by
 have hp:=hw.par_has hx
 have h0:=h.bel hB
 have hlt:(t.kids (t.par x)).idxOf x<(t.kids (t.par x)).length:=List.idxOf_lt_length_of_mem hx
 have hlen:(List.map (icOf t S) (t.kids (t.par x))).length=(t.kids (t.par x)).length:=by simp
 have hG:W0.grownBy ((W0.setCells g ((t.kids (t.par x)).idxOf x*8) (qQi hd kv)).setCell ⟨g,(t.kids (t.par x)).idxOf x*8+7,none⟩ (S x).v) (some g):=qQj (qQ0 _ _ _ _) (qFz _ _ _ _)
 rcases blkE qQo (show qQb 8 (fun _ cs x=>cs=encIts x) base 111 W0 (S (t.par x)).v ((t.kids (t.par x)).map (icOf t S)) from (h0 _ hp).1) with ⟨_,e⟩ | ⟨g',cap',C,hS',hbg,hK,hCl,hle,hcm,ht⟩
 ·exfalso
  rw [List.map_eq_nil_iff] at e
  rw [e] at hlt
  simp at hlt
 have hsame:=hS.symm.trans hS'
 simp only [Value.slice.injEq,Option.some.injEq,Addr.mk.injEq] at hsame
 obtain ⟨⟨rfl,-,-⟩,-,rfl⟩:=hsame
 have hblock:∀ b,b≠g->((W0.setCells g ((t.kids (t.par x)).idxOf x*8) (qQi hd kv)).setCell ⟨g,(t.kids (t.par x)).idxOf x*8+7,none⟩ (S x).v).heap[b]?=W0.heap[b]?:=fun b hb=>by
  rw [Below.heap_setCell _ _ _ _ hb]
  exact qWz _ _ _ _ hb
 refine ⟨fun n hn=>?_,hblock,hG⟩
 refine ⟨?_,(h0 n hn).2⟩
 by_cases e:n=t.par x
 ·subst e
  have hm:((qXm t x hd).kids (t.par x)).map (icOf (qXm t x hd) S)=((t.kids (t.par x)).map (icOf t S)).set ((t.kids (t.par x)).idxOf x) ⟨hd,(S x).a,(S x).n,(S x).c⟩:=by
   have:=zX5 (icOf t S) (icOf (qXm t x hd) S) (hw.alone.once (t.par x)) hx (fun k hk=>by
    unfold icOf qXm
    simp only [if_neg hk])
   rw [show (qXm t x hd).kids=t.kids from rfl,this]
   congr 1
   unfold icOf qXm
   simp only [if_true]
  rw [hm,hS]
  have hkc:(t.kids (t.par x)).idxOf x*8+8<=C.length:=by rw [hCl];rw [hlen] at hle;omega
  have h1:=(qQ8 g 111 (qQi hd kv) ((t.kids (t.par x)).idxOf x*8) W0 C hK (by simpa [qQi] using hkc)).set ((t.kids (t.par x)).idxOf x*8+7) (S x).v
  have hA:(C.take ((t.kids (t.par x)).idxOf x*8)).length=(t.kids (t.par x)).idxOf x*8:=by rw [List.length_take,Nat.min_eq_left (by omega)]
  have hset:(C.take ((t.kids (t.par x)).idxOf x*8)++qQi hd kv++C.drop ((t.kids (t.par x)).idxOf x*8+(qQi hd kv).length)).set ((t.kids (t.par x)).idxOf x*8+7) (S x).v=C.take ((t.kids (t.par x)).idxOf x*8)++qQi hd (S x).v++C.drop ((t.kids (t.par x)).idxOf x*8+8):=by
   rw [List.append_assoc,List.set_append_right _ _ (by omega),hA,show (t.kids (t.par x)).idxOf x*8+7 - (t.kids (t.par x)).idxOf x*8=7 by omega,List.append_assoc]
   rfl
  rw [hset] at h1
  have hkl:(t.kids (t.par x)).idxOf x<(List.map (icOf t S) (t.kids (t.par x))).length:=by rw [hlen];exact hlt
  have h2:=zBe (y:=(⟨hd,(S x).a,(S x).n,(S x).c⟩:Ic)) (vs:=qQi hd (S x).v) qQo hkl ht rfl
  exact ownE qQo h1 hbg (by simp) (by
   rw [Zj,Zj,hA,List.length_drop,show (qQi hd (S x).v).length=8 from rfl,<- hCl]
   omega) (by simpa using hle) hcm h2
 ·have hm:((qXm t x hd).kids n).map (icOf (qXm t x hd) S)=(t.kids n).map (icOf t S):=List.map_congr_left (fun k hk=>by
   have:k≠x:=fun e2=>e (by
    subst e2
    exact (hw.alone.par n k hk).symm)
   unfold icOf qXm
   simp only [if_neg this])
  rw [hm]
  refine (h0 n hn).1.agree (fun b hb=>hblock b (fun e2=>?_)) (fun _ _ _ hr=>by unfold rdIc at hr ⊢;exact hr)
  subst e2
  exact h0.apart hn hp e hb (by rw [hS];rfl)
theorem zBb {base:Nat} {w W0:World} {S:Int->Sv} {lab:Nat->Int} {t:Fl} (h:qQv base w S lab t) (hw:Wf t) {box:Addr} (hb:BoxOk w box S t) {x:Int} (hx:Has t x) {hd:Hd} {g cap:Nat} (hS:(S (t.par x)).v=.slice (some ⟨g,0,none⟩) (t.kids (t.par x)).length cap) (hB:Bel w W0) {kv:Value} :
 Grew base box w S t ((W0.setCells g ((t.kids (t.par x)).idxOf x*8) (qQi hd kv)).setCell ⟨g,(t.kids (t.par x)).idxOf x*8+7,none⟩ (S x).v) (qXm t x hd):=by
 have hp:=hw.par_has hx
 obtain ⟨h1,h2,h3⟩:=told_own h hw hx (hd:=hd) hS hB (kv:=kv)
 have hgb:box.block≠g:=fun e=>hb.apart _ hp (by rw [hS,e];rfl)
 have hb0:=hb.bel hB
 refine Grew.of_bel hB ⟨S,lab,h1,⟨(World.cell?_of_block (h2 _ hgb)).trans hb0.cell,(World.frozen?_of_block (h2 _ hgb)).trans hb0.open',Zc hb0.lt h3.size,hb0.apart⟩,⟨h3.os,h3.tape,h3.output,h3.size,fun b _ _ a3=>h2 b (fun e=>a3 _ hp (by rw [hS,e];rfl)),fun n hn b hb'=>.inr ⟨n,hn,hb'⟩,Side.of_block (fun _=>h2 _ hgb)⟩⟩
theorem thenAny {K:Act->World->Prop} {Q:Exit->Act->World->Prop} {e:Exit} {a:Act} {W:World} {E:World->Prop} (hE:E W) (h:∀ w,E w->Exit.then K Q e a w):Exit.then K Q e a W:=h W hE
theorem zQd {base:Nat} {w:World} {S:Int->Sv} {lab:Nat->Int} {t:Fl} (hT:qQv base w S lab t) (hw:Wf t) (hh:∀ n,Has t n->(t.head n).node=n) {box:Addr} (hb:BoxOk w box S t) {x a b:Int} {hd:Hd} {eb eo:Nat} (hE:EvC w eb eo ⟨4,x,a,b,.mk hd []⟩ (.slice none 0 0))
 (hx:Has t x) (hdx:hd.node=x) :
 Calls Tryz.prog 93 #[.pointer (some box),.pointer (some ⟨eb,eo,none⟩)] w fun e w'=>e=.returned (.int .i64 0)/\Grew base box w S t w' (qXm t x hd):=by
 subst hdx
 have hp:=hw.par_has hx
 have hlt:(t.kids (t.par hd.node)).idxOf hd.node<(t.kids (t.par hd.node)).length:=List.idxOf_lt_length_of_mem hx
 have cF:=lH (qXs hT hw hh hb hx)
 have hcc0:=hT.rd.cell hw hb.cell hp
 rcases blkE qQo (show qQb 8 (fun _ cs y=>cs=encIts y) base 111 w (S (t.par hd.node)).v ((t.kids (t.par hd.node)).map (icOf t S)) from (hT _ hp).1) with ⟨_,e⟩ | ⟨g,cap,C,hS,hbg,hK,hCl,hle,hcm,ht⟩
 ·exfalso
  unfold Has at hx
  simp at e
  rw [e] at hx
  simp at hx
 have hlen:(List.map (icOf t S) (t.kids (t.par hd.node))).length=(t.kids (t.par hd.node)).length:=by simp
 rw [hlen] at hS hle ht
 obtain ⟨b',off,cap',q1,q2,q3,_,hI⟩:=hT.rd.item hp _ hlt
 rw [List.getElem_idxOf hlt] at hI
 have hq:(S (t.par hd.node)).v=Value.slice (some ⟨b',off,none⟩) (t.kids (t.par hd.node)).length cap':=q1
 rw [hS] at hq
 simp at hq
 obtain ⟨⟨rfl,rfl⟩,rfl⟩:=hq
 rw [hS] at hcc0
 have hcne:(qQg box t (fun n=>(S n).v) (t.par hd.node)).block≠g:=by
  rcases hT.cell hw hp box with ⟨_,e⟩ | ⟨hk,g2,cap2,hSp,e⟩
  ·rw [e];exact fun e2=>hb.apart _ hp (by rw [hS,e2];rfl)
  ·rw [e]
   have hpp:=hw.par_has hk
   refine fun e2=>hT.apart hpp hp ?_ (b:=g) (by rw [hSp];show some g2=some g;rw [show g2=g from e2]) (by rw [hS];rfl)
   intro e3
   obtain ⟨μ,N,F⟩:=hw.falls
   have:=F.down _ _ hk
   rw [e3] at this
   omega
 have k0:=hI.node
 have k1:=hI.role
 have k2:=hI.name
 have k3:=hI.about
 have k4:=hI.level
 have k5:=hI.checked
 have k6:=hI.off
 have k7:w.cell? ⟨g,0+(t.kids (t.par hd.node)).idxOf hd.node*8+7,none⟩=some (.slice (S hd.node).a (S hd.node).n (S hd.node).c):=hI.kids
 simp only [Nat.zero_add] at k0 k1 k2 k3 k4 k5 k6 k7
 obtain ⟨hd',hhd⟩:∃ y,y=t.head hd.node:=⟨_,rfl⟩
 rw [<- hhd] at k0 k1 k2 k3 k4 k5 k6
 obtain ⟨z0,hz0⟩:∃ y,y=hd.node:=⟨_,rfl⟩
 have ek:w.cell? ⟨eb,eo,none⟩=some (.int .i64 4):=hE.kind
 have en:w.cell? ⟨eb,eo+1,none⟩=some (.int .i64 hd.node):=hE.node
 have z4:w.cell? ⟨eb,eo+4,none⟩=some (.int .i64 hd.node):=hE.i0
 have z5:w.cell? ⟨eb,eo+5,none⟩=some (.int .i64 hd.role):=hE.i1
 have z6:w.cell? ⟨eb,eo+6,none⟩=some (.string ⟨hd.name.toArray⟩):=hE.i2
 have z7:w.cell? ⟨eb,eo+7,none⟩=some (.string ⟨hd.about.toArray⟩):=hE.i3
 have z8:w.cell? ⟨eb,eo+8,none⟩=some (.int .i64 hd.level):=hE.i4
 have z9:w.cell? ⟨eb,eo+9,none⟩=some (.int .i64 hd.checked):=hE.i5
 have z10:w.cell? ⟨eb,eo+10,none⟩=some (.bool hd.off):=hE.i6
 have z11:w.cell? ⟨eb,eo+11,none⟩=some (.slice none 0 0):=hE.i7
 have hf:∀ j,w.frozen? ⟨g,j,none⟩=false:=hK.frozen
 have f0:=hf ((t.kids (t.par hd.node)).idxOf hd.node*8)
 have f1:=hf ((t.kids (t.par hd.node)).idxOf hd.node*8+1)
 have f2:=hf ((t.kids (t.par hd.node)).idxOf hd.node*8+2)
 have f3:=hf ((t.kids (t.par hd.node)).idxOf hd.node*8+3)
 have f4:=hf ((t.kids (t.par hd.node)).idxOf hd.node*8+4)
 have f5:=hf ((t.kids (t.par hd.node)).idxOf hd.node*8+5)
 have f6:=hf ((t.kids (t.par hd.node)).idxOf hd.node*8+6)
 have f7:=hf ((t.kids (t.par hd.node)).idxOf hd.node*8+7)
 have hltz:(((t.kids (t.par hd.node)).idxOf hd.node:Nat):Int)<((t.kids (t.par hd.node)).length:Int):=by omega
 have HG:Hi (∀ W0,Bel w W0->(W0.setCells g ((t.kids (t.par hd.node)).idxOf hd.node*8) (qQi hd (.slice none 0 0))).cell? (qQg box t (fun n=>(S n).v) (t.par hd.node))=some (.slice (some ⟨g,0,none⟩) (t.kids (t.par hd.node)).length cap)/\(∃ u,(W0.setCells g ((t.kids (t.par hd.node)).idxOf hd.node*8) (qQi hd (.slice none 0 0))).cell? ⟨g,(t.kids (t.par hd.node)).idxOf hd.node*8+7,none⟩=some u)/\(W0.setCells g ((t.kids (t.par hd.node)).idxOf hd.node*8) (qQi hd (.slice none 0 0))).frozen? ⟨g,(t.kids (t.par hd.node)).idxOf hd.node*8+7,none⟩=false/\Grew base box w S t ((W0.setCells g ((t.kids (t.par hd.node)).idxOf hd.node*8) (qQi hd (.slice none 0 0))).setCell ⟨g,(t.kids (t.par hd.node)).idxOf hd.node*8+7,none⟩ (S hd.node).v) (qXm t hd.node hd)):=lH (fun W0 hB=>by
  have h1:=qQ8 g 111 (qQi hd (.slice none 0 0)) ((t.kids (t.par hd.node)).idxOf hd.node*8) W0 C (hK.bel hB) (by rw [hCl];simp [qQi];omega)
  refine ⟨?_,?_,h1.frozen _,zBb hT hw hb hx hS hB⟩
  ·rw [World.cell?_of_block (qWz g _ _ _ hcne),World.cell?_of_block (hB.block _ (World.block_lt_of_cell? _ _ hcc0))]
   exact hcc0
  ·rw [h1.cell]
   have:(t.kids (t.par hd.node)).idxOf hd.node*8+7<(C.take ((t.kids (t.par hd.node)).idxOf hd.node*8)++qQi hd (.slice none 0 0)++C.drop ((t.kids (t.par hd.node)).idxOf hd.node*8+(qQi hd (.slice none 0 0)).length)).length:=by
    simp only [Zj,List.length_take,List.length_drop,hCl,show (qQi hd (.slice none 0 0)).length=8 from rfl]
    omega
   exact ⟨_,Zi this⟩)
 clear hE hI hf hS hT hb hK ht
 generalize qQg box t (fun n=>(S n).v) (t.par hd.node)=ca at *
 generalize (t.kids (t.par hd.node)).idxOf hd.node=k at *
 generalize (t.kids (t.par hd.node)).length=L at *
 go_enter Tryz.func93,Tryz.ntmps93
 go_upto_region 20 with (go_at_call 130;(with_reducible refine cF.o.mono ?_);rintro e w1 ⟨rfl,rfl⟩)
 go_quiet (fail)
 go_upto_region 14 with fail
 go_region
 refine thenAny (E:=fun W=>W.cell? ca=some (.slice (some ⟨g,0,none⟩) L cap)/\(∃ u,W.cell? ⟨g,k*8+7,none⟩=some u)/\W.frozen? ⟨g,k*8+7,none⟩=false/\Grew base box w S t (W.setCell ⟨g,k*8+7,none⟩ (S hd.node).v) (qXm t hd.node hd)) (HG.o (w.drewN (nq+1)) (qB4 (Br w) _)) ?_
 rintro W1 ⟨c1,⟨u,c2⟩,c3,c4⟩
 have HC4:=lH c4
 clear c4 HG cF
 go_wp2
 go_ret
 exact ⟨rfl,HC4.o⟩
open Classical in
noncomputable def subF (t:Fl) (x:Int):Fl:=
 { kids:=fun n=>if n = -1 then [x] else if Reach t.kids x n then t.kids n else [],par:=fun n=>if n=x then -1 else t.par n,head:=t.head }
section
variable {t:Fl}
theorem qDe (h:Wf t) {x:Int} (hx:Has t x) {μ:Int->Nat} {N:Nat} (F:Falls t.kids μ N):Falls (subF t x).kids μ N:=by
 refine ⟨fun n k hk=>?_,F.top⟩
 unfold subF at hk
 simp only at hk
 split at hk
 ·rename_i e
  rw [List.mem_singleton.1 hk,e]
  have hr:=hx.reach h
  cases hr with
  | here=>have:=hx.ge h;omega
  | @step p _ hp hy=>
    have:=Reach.le F hp
    have:=F.down _ _ hy
    omega
 ·split at hk
  ·exact F.down _ _ hk
  ·simp at hk
theorem zGr {x n:Int} (h:Wf t) (hx:Has t x) (hr:Reach t.kids x n):Reach (subF t x).kids (-1) n:=by
 induction hr with
 | here=>exact .step .here (by unfold subF;simp)
 | @step p y hp hy ih=>
   refine .step ih ?_
   have hp1:p ≠ -1:=fun e=>by
    subst e
    have h1:=(h.anti hp (hx.reach h))
    have:=hx.ge h
    omega
   unfold subF
   simp only [if_neg hp1,if_pos hp]
   exact hy
theorem zFe (h:Wf t) {x:Int} (hx:Has t x):Wf (subF t x):=by
 obtain ⟨μ,N,F⟩:=h.falls
 refine ⟨⟨μ,N,qDe h hx F⟩,⟨fun n k hk=>?_,fun n=>?_⟩,fun n k hk=>?_,fun n hn=>?_⟩
 ·unfold subF at hk ⊢
  simp only at hk ⊢
  split at hk
  ·rename_i e
   rw [List.mem_singleton.1 hk,if_pos rfl,e]
  ·split at hk
   ·rename_i hr
    have hkx:k≠x:=fun e=>by
     subst e
     have:=Reach.le F hr
     have:=F.down _ _ hk
     omega
    rw [if_neg hkx]
    exact h.alone.par n k hk
   ·simp at hk
 ·unfold subF
  simp only
  split
  ·simp
  ·split
   ·exact h.alone.once n
   ·simp
 ·unfold subF at hk
  simp only at hk
  split at hk
  ·rw [List.mem_singleton.1 hk];exact hx.ge h
  ·split at hk
   ·exact h.pos _ _ hk
   ·simp at hk
 ·unfold subF at hn
  simp only at hn
  split at hn
  ·rename_i e;rw [e];exact .here
  ·split at hn
   ·rename_i hr;exact zGr h hx hr
   ·exact absurd rfl hn
theorem zXl (h:Wf t) {x n:Int} (hx:Has t x) (hn:Has (subF t x) n):Reach t.kids x n:=by
 have hr:=hn.reach (zFe h hx)
 cases hr with
 | here=>exact absurd hn (zFe h hx).no_top
 | @step p _ hp hy=>
   unfold subF at hy
   simp only at hy
   split at hy
   ·rw [List.mem_singleton.1 hy];exact .here
   ·split at hy
    ·rename_i hr;exact .step hr hy
    ·simp at hy
theorem Wf.in_has (h:Wf t) {x n:Int} (hx:Has t x) (hr:Reach t.kids x n):Has t n:=by
 by_cases e:n=x
 ·rw [e];exact hx
 ·exact (h.reach_up hr e).2
end
theorem sub_rd {B:Nat->Prop} {w:World} {V:Int->Value} {t:Fl} (H:qYq B w V t) (hw:Wf t) {x:Int} (hx:Has t x) {v:Value} (hv:qQa 8 (rdF t V) B w v [x]) :
 qYq B w (fun n=>if n = -1 then v else V n) (subF t x):=fun n hn=>by
 have hcongr:∀ {u:Value} {l:List Int},(∀ k∈l,k ≠ -1)->qQa 8 (rdF t V) B w u l->qQa 8 (rdF (subF t x) (fun n=>if n = -1 then v else V n)) B w u l:=fun {u l} hl h=>by
  refine qQa.conv h rfl (fun i h1 h2 b cs _ hb hr=>⟨hb,?_⟩)
  unfold rdF at hr ⊢
  rw [hr]
  simp only [if_neg (hl _ (Zl h1))]
  rfl
 have hx0:=hx.ge hw
 by_cases e:n = -1
 ·subst e
  simp only [if_true]
  have:(subF t x).kids (-1)=[x]:=by unfold subF;simp
  rw [this]
  exact hcongr (fun k hk=>by rw [List.mem_singleton.1 hk];omega) hv
 ·simp only [if_neg e]
  have hr:=zXl hw hx (hn.resolve_left e)
  have:(subF t x).kids n=t.kids n:=by unfold subF;simp only [if_neg e,if_pos hr]
  rw [this]
  exact hcongr (fun k hk=>by have:=hw.pos _ _ hk;omega) (H n (.inr (hw.in_has hx hr)))
structure Mid (base:Nat) (box:Addr) (w:World) (S:Int->Sv) (t:Fl) (x:Int) (W:World) (S2:Int->Sv) (lab2:Nat->Int):Prop where
 tab:qQv base W S2 lab2 (dropF t x)
 ext:∀ n,Reach t.kids x n->qQb 8 rdIc base 111 W (S2 n).v ((t.kids n).map (icOf t S2))/\∀ b,(S2 n).v.ownBlock=some b->lab2 b=n
 boxed:BoxOk W box S2 (dropF t x)
 apart:∀ n,(n = -1∨Has t n)->(S2 n).v.ownBlock≠some box.block
 same:∀ n,Reach t.kids x n->S2 n=S n
 os:W.os=w.os
 tape:W.tape=w.tape
 output:W.output=w.output
 size:w.heap.size<=W.heap.size
 block:∀ b,b<w.heap.size->b≠box.block->(∀ n,(n = -1∨Has t n)->(S n).v.ownBlock≠some b)->W.heap[b]?=w.heap[b]?
 rows:∀ n,(n = -1∨Has t n)->∀ b,(S2 n).v.ownBlock=some b->w.heap.size<=b∨∃ m,(m = -1∨Has t m)/\(S m).v.ownBlock=some b
 side:Side box w W
theorem mid_of {base:Nat} {w w':World} {S:Int->Sv} {lab:Nat->Int} {t:Fl} (h:qQv base w S lab t) (hw:Wf t) {box:Addr} (hb:BoxOk w box S t) {x:Int} (hx:Has t x) {s':Sv} (hg:w.grownBy w' (S (t.par x)).v.ownBlock)
 (hO:qQb 8 rdIc base 111 w' s'.v (((t.kids (t.par x)).map (icOf t S)).eraseIdx ((t.kids (t.par x)).idxOf x))) (hF:qZe w (S (t.par x)).v s'.v) :
 ∃ S2 lab2,Mid base box w S t x (w'.setCell (qQg box t (fun n=>(S n).v) (t.par x)) s'.v) S2 lab2:=by
 have hp:=hw.par_has hx
 obtain ⟨b1,b2,b3,b4,b5,b6⟩:=zZd h hw hb hp hg hF
 have hsub:∀ n,(n = -1∨Has (dropF t x) n)->(n = -1∨Has t n):=fun n hn=>hn.imp id (qYa hw)
 have hnot:¬ Reach t.kids x (t.par x):=fun e=>by
  obtain ⟨μ,N,F⟩:=hw.falls
  have h1:=Reach.le F e
  have h2:=F.down _ _ hx
  omega
 have hrow:∀ n,(n = -1∨Has t n)->∀ b,(if n=t.par x then s' else S n).v.ownBlock=some b->s'.v.ownBlock=some b∨∃ m,(m = -1∨Has t m)/\(S m).v.ownBlock=some b:=fun n hn b hb'=>by
  by_cases hnt:n=t.par x
  ·rw [if_pos hnt] at hb'
   exact .inl hb'
  ·rw [if_neg hnt] at hb'
   exact .inr ⟨n,hn,hb'⟩
 have hap:∀ n,(n = -1∨Has t n)->(if n=t.par x then s' else S n).v.ownBlock≠some box.block:=fun n hn e=>by
  rcases hrow n hn _ e with e2 | ⟨m,hm,e2⟩
  ·exact b4 e2
  ·exact hb.apart m hm e2
 obtain ⟨d1,d2⟩:=h.dropped hw hx hg hO hF hb.lt hb.apart
 refine ⟨fun n=>if n=t.par x then s' else S n,_,d1,fun n hr=>?_,⟨?_,b2,b3,fun n hn=>hap n (hsub n hn)⟩,hap,fun n hr=>if_neg (fun (e:n=t.par x)=>hnot (e▸hr)),hg.os,hg.tape,hg.output,?_,b5,fun n hn b hb'=>?_,b6⟩
 ·have hnp:n≠t.par x:=fun e=>hnot (e▸hr)
  have hm:(t.kids n).map (icOf t (fun n=>if n=t.par x then s' else S n))=(t.kids n).map (icOf t S):=List.map_congr_left (fun k hk=>by
   have:k≠t.par x:=fun e=>hnot (e▸.step hr hk)
   unfold icOf
   simp only [if_neg this])
  rw [hm]
  simp only [if_neg hnp]
  exact d2 n hr
 ·rw [b1]
  by_cases e:t.par x = -1
  ·simp [e]
  ·have:¬ (-1:Int)=t.par x:=fun e2=>e e2.symm
   simp only [if_neg e,if_neg this]
 ·rw [World.size_setCell];exact hg.size
 ·rcases hrow n hn b hb' with e2 | e2
  ·rcases hF with e | ⟨k,e,hk⟩
   ·exact .inr ⟨t.par x,hp,e▸e2⟩
   ·rw [e] at e2
    cases e2
    exact .inl hk
  ·exact .inr e2
section
variable {base:Nat} {w W:World} {S S2:Int->Sv} {lab2:Nat->Int} {t:Fl} {box:Addr} {x:Int}
theorem Mid.bel {W':World} (h:Mid base box w S t x W S2 lab2) (hb:Bel W W'):Mid base box w S t x W' S2 lab2:=
 ⟨h.tab.bel hb,fun n hr=>⟨(h.ext n hr).1.agree (fun b hb'=>hb.block b ((h.ext n hr).1.lt b hb').2) (fun _ _ _ hr=>by unfold rdIc at hr ⊢;exact hr),(h.ext n hr).2⟩,h.boxed.bel hb,h.apart,h.same,hb.os.trans h.os,hb.tape.trans h.tape,hb.output.trans h.output,Za h.size hb.size,fun b a1 a2 a3=>(hb.block b (Zc a1 h.size)).trans (h.block b a1 a2 a3),h.rows,h.side.trans (Side.bel hb) h.size⟩
theorem Mid.moved (hw:Wf t) (h:Mid base box w S t x W S2 lab2) {tw:Int} {i:Nat} (hx:Has t x) (hto:tw = -1∨Has t tw) (hl:¬ Reach t.kids x tw) (hi:i<=(cutF t x tw).length) {w':World} {s':Sv} (hg:W.grownBy w' (S2 tw).v.ownBlock)
 (hO:qQb 8 rdIc base 111 w' s'.v ((((dropF t x).kids tw).map (icOf t S2)).take i++[⟨t.head x,(S2 x).a,(S2 x).n,(S2 x).c⟩]++(((dropF t x).kids tw).map (icOf t S2)).drop i)) (hF:qZe W (S2 tw).v s'.v) :
 Grew base box w S t (w'.setCell (qQg box (dropF t x) (fun n=>(S2 n).v) tw) s'.v) (qJ7 t x tw i):=by
 have hw0:=qHo hw x
 have hto0:tw = -1∨Has (dropF t x) tw:=by
  rcases hto with e | e
  ·exact .inl e
  ·exact .inr ((qJk hw).2 ⟨e,hl⟩)
 obtain ⟨b1,b2,b3,b4,b5,b6⟩:=zZd h.tab hw0 h.boxed hto0 hg hF
 have hrow:∀ n,(n = -1∨Has (qJ7 t x tw i) n)->∀ b,(if n=tw then s' else S2 n).v.ownBlock=some b->s'.v.ownBlock=some b∨∃ m,(m = -1∨Has t m)/\(S2 m).v.ownBlock=some b:=fun n hn b hb'=>by
  by_cases hnt:n=tw
  ·rw [if_pos hnt] at hb'
   exact .inl hb'
  ·rw [if_neg hnt] at hb'
   refine .inr ⟨n,?_,hb'⟩
   rcases hn with e | hn
   ·exact .inl e
   ·right
    by_cases e:n=x
    ·rw [e];exact hx
    ·unfold Has qJ7 at hn
     simp only [if_neg e] at hn
     split at hn
     ·rename_i e2
      rw [mem_insertIdx hi] at hn
      rcases hn with e3 | hn
      ·exact absurd e3 e
      ·have:=((qYl hw).1 hn).1
       unfold Has;rw [e2];exact this
     ·exact ((qYl hw).1 hn).1
 refine ⟨_,_,h.tab.moved hw hx hto hl hi h.ext hg hO hF h.boxed.lt h.apart,⟨?_,b2,b3,fun n hn e=>?_⟩,⟨?_,?_,?_,?_,fun b a1 a2 a3=>?_,fun n hn b hb'=>?_,h.side.trans b6 h.size⟩⟩
 ·rw [b1]
  by_cases e:tw = -1
  ·simp [e]
  ·have:¬ (-1:Int)=tw:=fun e2=>e e2.symm
   simp only [if_neg e,if_neg this]
 ·rcases hrow n hn _ e with e2 | ⟨m,hm,e2⟩
  ·exact b4 e2
  ·exact h.apart m hm e2
 ·exact hg.os.trans h.os
 ·exact hg.tape.trans h.tape
 ·exact hg.output.trans h.output
 ·rw [World.size_setCell];exact Za h.size hg.size
 ·refine (b5 b (Zc a1 h.size) a2 (fun n hn e=>?_)).trans (h.block b a1 a2 a3)
  rcases h.rows n (hn.imp id (qYa hw)) b e with e2 | ⟨m,hm,e2⟩
  ·omega
  ·exact a3 m hm e2
 ·rcases hrow n hn b hb' with e2 | ⟨m,hm,e2⟩
  ·rcases hF with e | ⟨k,e,hk⟩
   ·exact h.rows tw hto b (e▸e2)
   ·rw [e] at e2
    cases e2
    exact .inl (Za h.size hk)
  ·exact h.rows m hm b e2
end
end Go.Proofs.YtklbmkaomojciaaGreat

/- engine.Change: walked. -/
import Derived.Test.YthbhcdbedfimhaaGreatDoorDomApply
set_option maxRecDepth 100000
set_option maxHeartbeats 4000000
namespace Go.Proofs.YthbhcdbedfimhaaGreatDoor
open Go.RowKit
def EngAns (k:Nat) (w:World) (r:Int×Int×Dc×List It×List Me×List Int):Ending->World->Prop:=Rn w fun w' y=>∃ dv tv mv iv,y=.tuple #[.agg #[dv,tv,mv,iv],.int .i64 r.2.1,.int .i64 r.1] /\
 qK7 (fun b=>w.heap.size<=b/\b<w'.heap.size) w' dv r.2.2.1/\ItsK (fun b=>w.heap.size<=b/\b<w'.heap.size) k w' tv r.2.2.2.1/\qKt (fun b=>w.heap.size<=b/\b<w'.heap.size) w' mv r.2.2.2.2.1/\qQa 1 qQh (fun b=>w.heap.size<=b/\b<w'.heap.size) w' iv r.2.2.2.2.2
theorem qW4 {f:Func} {R:Ending->World->Prop} {a:Act} {W:World} {g:Nat} {p q r:Tmp} {u U n o x X b c y z:Value} (h:f.results = #[.cell p 30,.tmp q,.tmp r]) (H:Blk W g [u,U,n,o] 30) (k:a.tmps.getD p undef=.pointer (some ⟨g,0,none⟩)) (l:a.tmps.getD q undef=y) (m:a.tmps.getD r undef=z) (hd:a.defers=[])
 (e:∀ d,FrE g W d->R (.returned (.tuple #[.agg #[x,X,b,c],y,z])) d):bodyPost Tryz.prog f R .ret a ((((W.setCell ⟨g,0,none⟩ x).setCell ⟨g,1,none⟩ X).setCell ⟨g,2,none⟩ b).setCell ⟨g,3,none⟩ c):=by
 obtain ⟨D,i,j⟩:=qHk;subst l m;exact bodyPost_ret (qY6 h _ _ g _ _ _ D k ((((H.set 0 x).set 1 X).set 2 b).set 3 c) i (by revert j;cases D <;> intro h <;> exact h) (by kernel_rfl)) hd (e _ (((((FrE.refl _ W).set x).set X).set b).set c))
theorem qH4 {m k:Nat} {dv tv mv iv:Value} {d:Dc} {t:List It} {M:List Me} {D:List Int} {w:World} (x:Chg) (hd:qZh m w dv d) (ht:ItsK (·<m) k w tv t) (ac:qKt (·<m) w mv M) (hi:qKz m w iv D) (hm:m<=w.heap.size) (ae:Good d)
 (b6:x.name.length<=9223372036854775807) (b8:x.value.length<=9223372036854775807) (ao:∀ x∈d,x.attrs.length<=1000/\x.kids.length<=1000/\x.shadow.length<=1000) (b7:(nodesL t).length<=1000000000) (b5:M.length<=1000000000) (ap:∀ x∈M,x.uses.length<=1000000000) (bi:D.length+1<=1000000000) :
 Calls Tryz.prog 16 #[.agg #[dv,tv,mv,iv],chgV x] w (EngAns k w (qKv d t M D x)):=by
 obtain ⟨da,dc,rfl,_,_⟩:=Rf hd;obtain ⟨ta,tc,rfl,_,_⟩:=Rf ht;obtain ⟨Y,Z,rfl,_,_⟩:=Rf ac;obtain ⟨U,V,rfl,_,_⟩:=Rf hi;have bh:=ae.len;have cA:=lH fun W (h:Bel w W)=>zY6 m _ d x W (hd.later h hm) (Za hm h.size) ae b6 b8;have cO:=lH fun W (h:Bel w W)=>qV9 (hd.later h hm) (ht.later h hm) (ac.later h hm) (qQa.later hi qQc h hm) (Za hm h.size) (by omega) ao b7 b5 ap (by omega);have C:=lH (fun W=>qH7 x W);obtain ⟨E,hE⟩:∃ E,E=qKv d t M D x:=⟨_,rfl⟩;rw [<- hE];unfold qKv at hE;generalize qQ8 d x=b1 at *
 obtain ⟨e,aq,ad⟩:=b1;simp only at hE;have K:=lH hE;clear hE hd ht ac hi ao ap;obtain ⟨xk,X,xd,xb,xm,xv⟩:=x;simp only [chgV] at *
 go_enter Tryz.func16,Tryz.ntmps16
 go_upto_region 1 with fail
 refine wp_new3 ?_;intro w1 al a9 aa ab;have v:=lH al;have a3:=lH aa;have P:=lH ab;have ay:=lH a9;have k0:=a9.cell;have c0:=aa.cell;have S1:=ab.lt;clear al a9 aa ab;by_cases he:e=0
 ·subst he;go_upto_region 6 with (first
 | (go_at_call 32;(with_reducible refine (cA.o _ v.o).mono ?_);rintro e u ⟨o,v2,rfl,u2,rfl,O⟩;obtain ⟨ua,uc,rfl,_,_⟩:=Rf O;have f:=lH o;have aj:=lH O;have e0:=(ay.o.bel o).cell;clear o O)
 | (go_at_call 33;(with_reducible refine (cO.o _ (Bt v.o f.o)).mono ?_);rintro e c ⟨b3,v3,rfl,dv,tv,mv,iv,rfl,o3,p3,q3,r3⟩;obtain ⟨bf,bg,rfl,_,_⟩:=Rf o3;obtain ⟨ba,bb,rfl,_,_⟩:=Rf p3;obtain ⟨bj,bk,rfl,_,_⟩:=Rf q3;obtain ⟨I,s,rfl,_,_⟩:=Rf r3.read;have i:=lH b3;have ai:=lH p3;have af:=lH q3;have j:=lH r3;clear b3 o3 p3 q3 r3))
  refine qY7 ?_
  intro w4 a8 A
  have a4:=lH A
  have a0:=lH a8
  have n0:=A.cell
  have f0:=A.frozen
  have d0:=(((a3.o.bel f.o).bel i.o).bel a8).cell
  have S2:=f.o.size
  have S3:=i.o.size
  have S4:=A.lt
  clear a8 A k0 c0
  have a2:Hi (∀ z Y mn Z U ni V me di,E=(0,aq,ad,t,me,di)->FrE (w.heap.size+1+1) u z->(∀ b,u.heap.size<=b->b<c.heap.size->(Value.slice I D.length s).ownBlock≠some b->z.heap[b]?=c.heap[b]?)->c.heap.size<=z.heap.size->qKt (fun b=>w.heap.size<=b/\b<z.heap.size) z (.slice Y mn Z) me->qQa 1 qQh (fun b=>w.heap.size<=b/\b<z.heap.size) z (.slice U ni V) di->EngAns k w E (.returned (.tuple #[.agg #[.slice ua ad.length uc,.slice ba t.length bb,.slice Y mn Z,.slice U ni V],.int .i64 aq,.int .i64 0])) z):=lH fun z Y mn Z U ni V me di hE F hg hs p n=>by
   rw [hE];exact ⟨F.bel (Bt v.o f.o) (by omega),_,rfl,_,_,_,_,rfl,(aj.o.agree fun b H=>F.block b H.2 (by omega)).mono fun b H=>⟨by omega,by omega⟩,(ai.o.agree fun b H=>hg b (by omega) (by omega) H.2).mono fun b H=>⟨by omega,by omega⟩,p,n⟩
  clear aj ai
  cases r:qKp ⟨xk,X,xd,xb,xm,xv⟩ with
  | false=>
    rw [r] at C;have Q:=lH r;clear r;go_upto_region 11 with (go_at_call 34;(with_reducible refine (C.o _).mono ?_);rintro e w5 ⟨rfl,g⟩;have a:=lH (Bt a0.o g);have l:=lH (a4.o.bel g);have n2:=l.o.cell;have f2:=l.o.frozen;clear g)
    refine wp_st2 l.o ?_;intro w6 am an;have q0:=an.cell;simp only [Zf,Zg] at q0;have y:=lH (am.bel a.o (Zb _));have R:=lH (((P.o.bel f.o).bel i.o).bel y.o);have m0:=R.o.cell;have mf:=R.o.frozen;clear am an n0 f0 d0 n2 f2;go_wp2;refine qW4 rfl R.o rfl rfl rfl rfl fun z F=>a2.o _ _ _ _ _ _ _ _ _ (by have:=K.o;rw [if_pos trivial,Q.o] at this;exact this) ((FrE.of (Bt i.o y.o)).trans F) (fun b p n _=>(F.block b (by have:=y.o.size;omega) (by omega)).trans (y.o.block b n)) (Za y.o.size F.size) qQa.nil qQa.nil
  | true=>
    rw [r] at C;have Q:=lH r;have J:=lH fun W (h:Bel c W)=>qJ9 _ _ D X W (qQa.later j.o.read qQc h (Zb _));clear r;cases q:D.contains X with
    | true=>
      have a1:=lH q;rw [q] at J;clear q;go_upto_region 11 with (first
 | (go_at_call 34;(with_reducible refine (C.o _).mono ?_);rintro e w5 ⟨rfl,g⟩;have a:=lH (Bt a0.o g);have l:=lH (a4.o.bel g);have n2:=l.o.cell;have d2:=(((a3.o.bel f.o).bel i.o).bel a.o).cell;clear g)
 | (go_at_call 35;(with_reducible refine (J.o _ a.o).mono ?_);rintro e w7 ⟨rfl,rfl⟩))
      have R:=lH (((P.o.bel f.o).bel i.o).bel a.o)
      have m0:=R.o.cell
      have mf:=R.o.frozen
      clear n0 f0 d0
      go_wp2
      refine qW4 rfl R.o rfl rfl rfl rfl fun z F=>?_
      have hg:∀ b,u.heap.size<=b->b<c.heap.size->z.heap[b]?=c.heap[b]?:=fun b p n=>(F.block b (by have:=a.o.size;omega) (by omega)).trans (a.o.block b n)
      have hs:=Za a.o.size F.size
      exact a2.o _ _ _ _ _ _ _ _ _ (by have:=K.o;rw [if_pos trivial,Q.o] at this;rw [this];unfold qH2;rw [if_pos a1.o];rfl) ((FrE.of (Bt i.o a.o)).trans F) (fun b p n _=>hg b p n) hs ((af.o.agree fun b H=>hg b (by omega) (by omega)).mono fun b H=>⟨by omega,by omega⟩) ((j.o.agree (w':=z) (fun b H=>hg b (j.o.lt b H).1 (j.o.lt b H).2) fun _ _ _ h=>h).row.mono (fun b H=>⟨by have:=H.1;omega,H.2.1⟩) fun _ _ _ h=>h)
    | false=>
      have a1:=lH q;rw [q] at J;clear q;go_upto_region 9 with (first
 | (go_at_call 34;(with_reducible refine (C.o _).mono ?_);rintro e w5 ⟨rfl,g⟩;have a:=lH (Bt a0.o g);have l:=lH (a4.o.bel g);have n2:=l.o.cell;have d2:=(((a3.o.bel f.o).bel i.o).bel a.o).cell;clear g)
 | (go_at_call 35;(with_reducible refine (J.o _ a.o).mono ?_);rintro e w7 ⟨rfl,rfl⟩))
      have ax:=lH (j.o.agree (fun b H=>a.o.block b (j.o.lt b H).2) (fun _ _ _ h=>h))
      have b2:=l.o.lt
      go_upto_region 10 with (at_builtin;(refine qKo rfl _ _ _ rfl qJs (by decide) (rd:=qQh) (v:=.slice I D.length s) ?hst qK3 (base:=u.heap.size) rfl ax.o rfl rfl X ⟨rfl,rfl⟩ ?hby ?hmx ?hbs ?_;(case hst=>exact fun _ _ _ _ h=>h);(case hby=>omega);(case hmx=>omega);(case hbs=>omega);intro v8 w8 o8 g8 f8;obtain ⟨bc,bd,rfl,bl,bm⟩:=Rf o8.read;rw [show (D++[X]).length=D.length+1 by simp] at o8 f8;have ag:=lH o8;have N:=lH g8;have aw:=lH f8;have a5:=lH (l.o.of (g8.block c.heap.size b2 (fun e=>by have:=(j.o.lt _ e.symm).2;omega)));have n3:=a5.o.cell;have f3:=a5.o.frozen;clear o8 g8 f8))
      have a7:=lH fun b (H:(Value.slice bc (D.length+1) bd).ownBlock=some b)=>show b≠c.heap.size/\((Value.slice I D.length s).ownBlock=some b∨w5.heap.size<=b) by
       rcases aw.o with e | ⟨b9,e,hq⟩
       ·rw [e] at H;have:=(j.o.lt b H).2;exact ⟨by omega,.inl H⟩
       ·rw [e] at H;cases H;exact ⟨by omega,.inr hq⟩
      refine wp_st1 a5.o ?_
      intro w9 S T
      simp only [Zf,Zg] at T
      have az:=lH T
      have ah:=lH (ag.o.agree (w':=w9) (fun b H=>S.block b (ag.o.lt b H).2 (a7.o b H).1) fun _ _ _ h=>h)
      have av:=lH fun b (h:b<c.heap.size) (k:(Value.slice I D.length s).ownBlock≠some b)=>(S.block b (by have:=N.o.size;omega) (by omega)).trans ((N.o.block b (by omega) fun e=>k e.symm).trans (a.o.block b h))
      have b0:=lH (S.bel (Below.grown (Bt i.o a.o) N.o (by omega) fun k e=>(j.o.lt k e).1) S3)
      have n4:=T.cell
      have S9:=S.size
      have S8:=N.o.size
      clear T n0 f0 d0 n2 d2 n3 f3
      have cS:=lH (qBi ah.o (by simp) (by simp;omega))
      go_upto_region 11 with (go_at_call 36;(with_reducible refine cS.o.mono ?_);rintro e bn ⟨rfl,ar,G⟩;have a6:=lH ar;have ak:=lH (Below.grown b0.o G (by omega) fun k e=>(ah.o.lt k e).1);have n5:=(az.o.of (G.block c.heap.size (by omega) fun e=>(a7.o _ e.symm).1 rfl)).cell;have au:=lH fun b (h:b<c.heap.size) (k:(Value.slice I D.length s).ownBlock≠some b)=>(G.block b (by omega) fun e=>(a7.o b e.symm).2.elim k fun b9=>by omega).trans (av.o b h k);have be:=G.size;clear ar G)
      have R:=lH ((P.o.bel f.o).bel ak.o)
      have m0:=R.o.cell
      have mf:=R.o.frozen
      clear n4
      go_wp2
      refine qW4 rfl R.o rfl rfl rfl rfl fun z F=>?_
      have hg:∀ b,u.heap.size<=b->b<c.heap.size->(Value.slice I D.length s).ownBlock≠some b->z.heap[b]?=c.heap[b]?:=fun b p n h3=>(F.block b (by omega) (by omega)).trans (au.o b n h3)
      have hs:=F.size
      exact a2.o _ _ _ _ _ _ _ _ _ (by have:=K.o;rw [if_pos trivial,Q.o] at this;rw [this,show qH2 D X=_ from if_neg (by rw [a1.o];simp)];rfl) ((FrE.of ak.o).trans F) hg (by omega) ((af.o.agree fun b H=>hg b (by omega) (by omega) H.2).mono fun b H=>⟨by omega,by omega⟩) ((a6.o.agree (w':=z) (fun b H=>F.block b (a6.o.lt b H).2 (by have:=(a6.o.lt b H).1;omega)) fun _ _ _ h=>h).row.mono (fun b H=>⟨by have:=H.1;omega,H.2.1⟩) fun _ _ _ h=>h)
 ·have b4:Hi (e≠0):=lH he;go_upto_region 3 with (go_at_call 32;(with_reducible refine (cA.o _ v.o).mono ?_);rintro e u ⟨o,v2,rfl,u2,rfl,O⟩;obtain ⟨ua,uc,rfl,_,_⟩:=Rf O;have f:=lH o;clear o O)
  have R:=lH (P.o.bel f.o);have m0:=R.o.cell;have mf:=R.o.frozen;go_wp2;refine qW4 rfl R.o rfl rfl rfl rfl fun z F=>?_;rw [show E=_ from K.o,if_neg b4.o];exact ⟨F.bel (Bt v.o f.o) (by omega),_,rfl,_,_,_,_,rfl,qQa.nil,qQa.nil,qQa.nil,qQa.nil⟩
end Go.Proofs.YthbhcdbedfimhaaGreatDoor
namespace Go.Proofs.YthbhcdbedfimhaaGreatDoor
open Go.RowKit Go.WideShapes Go.ChangeShapes
def rdBool:World->List Value->Bool->Prop:=fun _ cs b=>cs=[.bool b]
abbrev BoolsAt (n:Nat) (w:World) (v:Value) (l:List Bool):Prop:=qQa 1 rdBool (·<n) w v l
end Go.Proofs.YthbhcdbedfimhaaGreatDoor
namespace Go.Proofs.YthbhcdbedfimhaaGreatDoor
open Go.RowKit
variable {B B':Nat->Prop} {dv iv mv tv:Value} {W w w':World}
structure EngV (B:Nat->Prop) (w:World) (dv tv mv iv:Value) (E:Eng):Prop where
 doc:qK7 B w dv E.doc
 told:ItsK B 100 w tv E.told
 memos:qKt B w mv E.memos
 dirty:qQa 1 qQh B w iv E.dirty
theorem EngV.agree {E:Eng} (h:EngV B w dv tv mv iv E) (ha:∀ b,B b->w'.heap[b]?=w.heap[b]?):EngV B w' dv tv mv iv E:=
 ⟨h.doc.agree ha,h.told.agree ha,h.memos.agree ha,qQa.agree h.dirty ha (fun _ _ _ h=>h)⟩
theorem EngV.mono {E:Eng} (h:EngV B w dv tv mv iv E) (H:∀ b,B b->B' b):EngV B' w dv tv mv iv E:=
 ⟨h.doc.mono H,h.told.mono H,h.memos.mono H,h.dirty.mono H (fun _ _ _ h=>h)⟩
def chgR (E:Eng) (x:Chg):Eng:=if (qQ8 E.doc x).1=0 then chgE E x else ⟨[],[],[],[]⟩
theorem zD9 {E:Eng} (h:EngV B w dv tv mv iv E) (p:∀ b,B b->b<w.heap.size) (ok:EngOk E) (x:Chg) (s:x.name.length<=9223372036854775807) (hv:x.value.length<=9223372036854775807) :
 Calls Tryz.prog 16 #[.agg #[dv,tv,mv,iv],chgV x] w (Rn w fun w' y=>∃ d n D t k T m j M i g I,y=.tuple #[.agg #[.slice d n D,.slice t k T,.slice m j M,.slice i g I],.int .i64 (if (qQ8 E.doc x).1=0 then (qQ8 E.doc x).2.1 else 0),.int .i64 (qQ8 E.doc x).1] /\
  EngV (fun b=>w.heap.size<=b/\b<w'.heap.size) w' (.slice d n D) (.slice t k T) (.slice m j M) (.slice i g I) (chgR E x)):=by
 have A:=ok.alike
 have z:=zBm ok.once ok.range
 have H:=h.mono p
 refine (qH4 x H.doc H.told H.memos H.dirty (Zb _) ok.good s hv (zXr ok.good) (by have:=A.2;omega) (by have:=ok.few;omega) (fun y u=>by have:=ok.uses y u;omega) (by omega)).mono ?_
 rintro e w' ⟨r,y,rfl,v,G,F,C,rfl,q,Q,c,f⟩
 obtain ⟨d,D,rfl,_,_⟩:=Rf q
 obtain ⟨t,T,rfl,_,_⟩:=Rf Q
 obtain ⟨m,M,rfl,_,_⟩:=Rf c
 obtain ⟨i,I,rfl,_,_⟩:=Rf f
 have l:(qKv E.doc E.told E.memos E.dirty x).2.1=if (qQ8 E.doc x).1=0 then (qQ8 E.doc x).2.1 else 0:=by
  unfold qKv;split <;> rfl
 have o:(qKv E.doc E.told E.memos E.dirty x).1=(qQ8 E.doc x).1:=by
  unfold qKv;split
  ·rename_i a;rw [a]
  ·rfl
 rw [l,o]
 refine ⟨r,_,rfl,d,_,D,t,_,T,m,_,M,i,_,I,rfl,?_⟩
 by_cases a:(qQ8 E.doc x).1=0
 ·unfold chgR chgE
  unfold qKv at *
  simp only [if_pos a] at *
  exact ⟨q,Q,c,f⟩
 ·unfold chgR
  unfold qKv at *
  simp only [if_neg a] at *
  exact ⟨q,Q,c,f⟩
theorem flush_ok {E:Eng} (h:EngV B w dv tv mv iv E) (i:∀ b,B b->b<w.heap.size) (ok:EngOk E) :
 Calls Tryz.prog 17 #[.agg #[dv,tv,mv,iv]] w (Rn w fun w' y=>∃ d g D t o T m j M a n c,y=.tuple #[.agg #[.slice d g D,.slice t o T,.slice m j M,.slice none 0 0],.slice a n c,.int .i64 (qVf E.memos E.dirty (qB2 E.doc))] /\
  EngV (fun b=>(B b∨w.heap.size<=b)/\b<w'.heap.size) w' (.slice d g D) (.slice t o T) (.slice m j M) (.slice none 0 0) (qHd E)/\OfAt w.heap.size 100 w' (.slice a n c) E.told (qZt E.doc)):=by
 have f:=h.mono i
 refine (qGv f.doc f.told h.memos i f.dirty (Zb _) ok).mono ?_
 rintro e w' ⟨H,y,rfl,p,s,r,v,rfl,q,Q,k,l⟩
 obtain ⟨d,D,rfl,_,_⟩:=Rf q
 obtain ⟨t,T,rfl,_,_⟩:=Rf Q
 obtain ⟨m,M,rfl,_,_⟩:=Rf k
 obtain ⟨a,n,c,rfl⟩:=l.form
 exact ⟨H,_,rfl,d,_,D,t,_,T,m,_,M,a,n,c,rfl,⟨q.mono (fun b H=>⟨.inr H.1,H.2⟩),Q.mono (fun b H=>⟨.inr H.1,H.2⟩),k,qQa.nil⟩,l⟩
def EngC (lo g:Nat) (W:World) (E:Eng):Prop:=∃ da dn dc ta tn tc ma mn mc ia im ic,Blk W g [.slice da dn dc,.slice ta tn tc,.slice ma mn mc,.slice ia im ic] 30/\EngV (fun b=>lo<=b/\b<W.heap.size/\b≠g) W (.slice da dn dc) (.slice ta tn tc) (.slice ma mn mc) (.slice ia im ic) E
theorem EngC.bel {l g:Nat} {c:World} {E:Eng} (h:EngC l g W E) (a:Bel W c):EngC l g c E:=by
 obtain ⟨d,n,D,t,o,T,M,k,j,i,m,I,e,f⟩:=h;exact ⟨d,n,D,t,o,T,M,k,j,i,m,I,e.bel a,(f.agree (fun b H=>a.block b H.2.1)).mono (fun b H=>⟨H.1,Zc H.2.1 a.size,H.2.2⟩)⟩
set_option maxRecDepth 100000
set_option maxHeartbeats 4000000
theorem zZn {P:Program} {f:Func} {p q:Tmp} {y u:TypeId} (h:f.results = #[.cell p y,.cell q u]) (T:Array Value) (w:World) (g G:Nat) (t b:TypeId) (cs c:Array Value) (F a:Nat×Nat) (d d':TypeDesc)
 (k:T.getD p undef=.pointer (some ⟨g,0,none⟩)) (m:T.getD q undef=.pointer (some ⟨G,0,none⟩)) (hg:w.heap[g]?=some (.cells cs t F)) (e:w.heap[G]?=some (.cells c b a))
 (o:P.underlying y=some d) (r:P.underlying u=some d') (hd:(match d with | .struct _ | .array _ _=>true | _=>false)=true) (H:(match d' with | .struct _ | .array _ _=>true | _=>false)=true)
 (i:(P.info? y).map (·.size)=some cs.size) (j:(P.info? u).map (·.size)=some c.size) :
 (results f T).run P w=.ok (.tuple #[.agg cs,.agg c]) w:=by
 have l:T[p]?.getD undef=.pointer (some ⟨g,0,none⟩):=by simpa using k
 have n:T[q]?.getD undef=.pointer (some ⟨G,0,none⟩):=by simpa using m
 simp [results,h,l,n,asAddr,run_loadVar_row w g t y cs F d hg o hd i,run_loadVar_row w G b u c a d' e r H j]
theorem rep_desc:∃ d,Tryz.prog.underlying 44=some d/\(match d with | .struct _ | .array _ _=>true | _=>false)=true:=by
 have h:(match Tryz.prog.underlying 44 with | some d=>(match d with | .struct _ | .array _ _=>true | _=>false) | none=>false)=true:=by kernel_rfl
 cases e:Tryz.prog.underlying 44 with
 | none=>rw [e] at h;cases h
 | some d=>rw [e] at h;exact ⟨d,rfl,h⟩
def rdRp (B:Nat->Prop) (w:World) (cs:List Value) (r:Rp):Prop:=∃ ev iv,cs=[.int .i64 r.err,.int .i64 r.n,.string ⟨r.text.toArray⟩,ev,iv]/\qQa 1 rdBy B w ev (evsB r.ev)/\ItsK B 100 w iv r.items
theorem rdRp.move {cs:List Value} {r:Rp} (h:rdRp B w cs r) (ha:∀ b,B b->w'.heap[b]?=w.heap[b]?/\B' b):rdRp B' w' cs r:=by
 obtain ⟨e,iv,rfl,a,c⟩:=h;exact ⟨e,iv,rfl,(a.agree (fun b H=>(ha b H).1) (fun _ _ _ h=>h)).mono (fun b H=>(ha b H).2) (fun _ _ _ h=>h),(c.agree (fun b H=>(ha b H).1)).mono (fun b H=>(ha b H).2)⟩
theorem EngV.move {E:Eng} (h:EngV B w dv tv mv iv E) (ha:∀ b,B b->w'.heap[b]?=w.heap[b]?/\B' b):EngV B' w' dv tv mv iv E:=
 (h.agree fun b H=>(ha b H).1).mono fun b H=>(ha b H).2
theorem EvsK.move {k:Nat} {v:Value} {l:List Evt} (h:EvsK B k w v l) (ha:∀ b,B b->w'.heap[b]?=w.heap[b]?/\B' b):EvsK B' k w' v l:=
 (h.agree (w':=w') (fun b H=>(ha b H).1) fun _ _ _ ⟨v,a,c⟩=>⟨v,a,c.agree fun b H=>(ha b H).1⟩).mono (fun b H=>(ha b H).2) fun _ _ _ ⟨v,a,c⟩=>⟨v,a,c.mono fun b H=>(ha b H).2⟩
theorem OfAt.evs {m:Nat} {y:Value} {a b:List It} (h:OfAt m 100 w y a b):EvsK (fun x=>m<=x/\x<w.heap.size) 100 w y (evsOf a b):=by
 unfold OfAt at h;unfold evsOf;split at h
 ·obtain ⟨n,K,g,v,rfl,rfl,d,H,f⟩:=h;rw [if_pos ‹_›];refine .inr ⟨g,0,1,rfl,by simp,by omega,fun i k=>?_⟩;obtain rfl:i=0:=by simpa using k
  exact ⟨⟨d,H.lt⟩,_,rfl,fun j u l=>by rw [Nat.zero_mul,Nat.zero_add];exact (H.cell j).trans l,v,rfl,f⟩
 ·rw [if_neg ‹_›];exact qQa.map _ (h.row.mono (fun b c=>⟨c.1,c.2.1⟩) fun _ _ _ h=>h) fun C e _ r=>⟨.slice none 0 0,r,qQa.nil⟩
def DoAns (B:Nat->Prop) (w:World) (E:Eng) (r:Rp):Ending->World->Prop:=fun e w'=>Bel w w'/\∃ da dn dc ta tn tc ma mn mc ia im ic y0 y1 y2 y3 y4,e=.returned (.tuple #[.agg #[.slice da dn dc,.slice ta tn tc,.slice ma mn mc,.slice ia im ic],.agg #[y0,y1,y2,y3,y4]]) /\
 EngV (fun b=>(B b∨w.heap.size<=b)/\b<w'.heap.size) w' (.slice da dn dc) (.slice ta tn tc) (.slice ma mn mc) (.slice ia im ic) E/\rdRp (fun b=>w.heap.size<=b/\b<w'.heap.size) w' [y0,y1,y2,y3,y4] r
theorem qFf {E:Eng} {r:Rp} {C D:List Value} {da dn dc ta tn tc ma mn mc ia im ic} {y Y c d e:Value} {a:Act} (k:∀ b,B b->b<w.heap.size) (g:Bel w W) (l:Blk W (w.heap.size+1+1) C 30) (S:Blk W (w.heap.size+1+1+1) D 44) (hC:C.length=4) (p:D.length=5)
 (m:a.tmps.getD 4 undef=.pointer (some ⟨w.heap.size+1+1,0,none⟩)) (o:a.tmps.getD 5 undef=.pointer (some ⟨w.heap.size+1+1+1,0,none⟩)) (hd:a.defers=[])
 (q:EngV (fun b=>B b∨w.heap.size+4<=b/\b<W.heap.size) W (.slice da dn dc) (.slice ta tn tc) (.slice ma mn mc) (.slice ia im ic) E) (z:rdRp (fun b=>w.heap.size+4<=b/\b<W.heap.size) W [y,Y,c,d,e] r) :
 bodyPost Tryz.prog Tryz.f10 (DoAns B w E r) .ret a (((((((((W.setCell ⟨w.heap.size+1+1,0,none⟩ (.slice da dn dc)).setCell ⟨w.heap.size+1+1,1,none⟩ (.slice ta tn tc)).setCell ⟨w.heap.size+1+1,2,none⟩ (.slice ma mn mc)).setCell ⟨w.heap.size+1+1,3,none⟩ (.slice ia im ic)).setCell ⟨w.heap.size+1+1+1,0,none⟩ y).setCell ⟨w.heap.size+1+1+1,1,none⟩ Y).setCell ⟨w.heap.size+1+1+1,2,none⟩ c).setCell ⟨w.heap.size+1+1+1,3,none⟩ d).setCell ⟨w.heap.size+1+1+1,4,none⟩ e):=by
 match C,hC with
 | [_,_,_,_],_=>
 match D,p with
 | [_,_,_,_,_],_=>
 obtain ⟨i,s,u⟩:=qHk;obtain ⟨j,v,x⟩:=rep_desc;have f:=((((FrE.refl (w.heap.size+1+1) W).set (j:=0) (.slice da dn dc)).set (j:=1) (.slice ta tn tc)).set (j:=2) (.slice ma mn mc)).set (j:=3) (.slice ia im ic);have K:=(((l.set 0 (.slice da dn dc)).set 1 (.slice ta tn tc)).set 2 (.slice ma mn mc)).set 3 (.slice ia im ic);have G:=S.of (f.block _ S.lt (by omega));generalize (((W.setCell ⟨w.heap.size+1+1,0,none⟩ (.slice da dn dc)).setCell ⟨w.heap.size+1+1,1,none⟩ (.slice ta tn tc)).setCell ⟨w.heap.size+1+1,2,none⟩ (.slice ma mn mc)).setCell ⟨w.heap.size+1+1,3,none⟩ (.slice ia im ic)=V at *
 have F:=(((((FrE.refl (w.heap.size+1+1+1) V).set (j:=0) y).set (j:=1) Y).set (j:=2) c).set (j:=3) d).set (j:=4) e;have I:=((((G.set 0 y).set 1 Y).set 2 c).set 3 d).set 4 e;have A:=K.of (F.block _ K.lt (by omega));have hg:∀ b,B b∨w.heap.size+4<=b/\b<W.heap.size->_:=fun b H=>by
  have t:b<W.heap.size:=by
   rcases H with h | h
   ·exact Zc (k b h) g.size
   ·exact h.2
  have n:b≠w.heap.size+1+1/\b≠w.heap.size+1+1+1:=by
   rcases H with h | h
   ·have:=k b h;omega
   ·omega
  exact And.intro ((F.block b (Zc t f.size) n.2).trans (f.block b t n.1)) (And.intro (H.imp id (fun h=>(by omega:w.heap.size<=b))) (Zc t (Za f.size F.size)))
 refine bodyPost_ret (zZn rfl _ _ _ _ _ _ _ _ _ _ i j m o A I s v (by revert u;cases i <;> intro h <;> exact h) (by revert x;cases j <;> intro h <;> exact h) (by kernel_rfl) (by kernel_rfl)) hd
  ⟨F.bel (f.bel g (by omega)) (by omega),_,_,_,_,_,_,_,_,_,_,_,_,_,_,_,_,_,rfl,q.move hg,z.move fun b H=>⟨(hg b (.inr H)).1,by omega,(hg b (.inr H)).2.2⟩⟩
theorem cf_kinds (args:Array Value) (w:World):(callFunc 21 args).run Tryz.prog w=.ok (.enter 21 args) w:=by kernel_rfl
theorem zFm (args:Array Value) (w:World):(callFunc 23 args).run Tryz.prog w=.ok (.enter 23 args) w:=by kernel_rfl
theorem jZi (args:Array Value) (w:World):(callFunc 22 args).run Tryz.prog w=.ok (.enter 22 args) w:=by kernel_rfl
theorem zZj (A a b c:Value) (w:World):(Instr.field 79 (.agg #[A,a,b,c]) 1).run Tryz.prog w=.ok a w:=by kernel_rfl
theorem zZe (a A b c d e f:Value) (w:World):(Instr.field 76 (.agg #[a,A,b,c,d,e,f]) 0).run Tryz.prog w=.ok a w:=by kernel_rfl
theorem zK3 {E:Eng} {J ta ma ia:Option Addr} {M K tn tc mn mc im ic:Nat} (k nd:Int) (x:Chg) (w:World) (hV:EngV B w (.slice J M K) (.slice ta tn tc) (.slice ma mn mc) (.slice ia im ic) E) (hB:∀ b,B b->b<w.heap.size) (ok:EngOk E)
 (hn : x.name.length <= 9223372036854775807) (hv : x.value.length <= 9223372036854775807) (hT : ∀ W, Bel w W -> Lib.TabIs Tryz.prog W "internal/strconv.uint64pow10" .u64 Lib.pow10Tab) :
 Calls Tryz.prog 10 #[.agg #[.slice J M K,.slice ta tn tc,.slice ma mn mc,.slice ia im ic],.agg #[.int .i64 k,.int .i64 nd,.int .i64 x.kind,.int .i64 x.node,.int .i64 x.dest,.int .i64 x.before,.string ⟨x.name.toArray⟩,.string ⟨x.value.toArray⟩]] w
  (DoAns B w (doR E ⟨k,nd,x⟩).1 (doR E ⟨k,nd,x⟩).2):=by
 have HV:=lH hV
 have j:=lH hB
 have HT:=lH hT
 obtain ⟨R,d⟩:∃ R,R=doR E ⟨k,nd,x⟩:=⟨_,rfl⟩
 rw [<- d]
 have t:=lH d
 clear hV hB hT d
 go_enter Tryz.func10,Tryz.ntmps10
 go_upto_region 1 with fail
 refine wp_new4 ?_
 intro i V ak aa ab ag ah
 have l:=lH V
 have a5:=lH ak
 have s:=lH aa
 have ad:=lH ab
 have a:=lH ag
 have c:=lH ah
 have C:=aa.cell
 have P:=ab.cell
 have aq:=lH (HV.o.agree (w':=i) fun b H=>V.block b (j.o b H))
 have a0:=lH ((HV.o.agree (fun b H=>V.block b (j.o b H))).mono (B':=(·<i.heap.size)) (fun b H=>Zc (j.o b H) V.size))
 have I:Hi (∀ W,Bel i W->EngV (fun b=>B b∨w.heap.size+4<=b/\b<W.heap.size) W (.slice J M K) (.slice ta tn tc) (.slice ma mn mc) (.slice ia im ic) E):=lH fun W h=>HV.o.move fun b H=>⟨(V.then h).block b (j.o b H),.inl H⟩
 clear V ak aa ab ag ah
 by_cases D:k=1
 ·subst D
  have cC:=lH (zD9 a0.o (fun b H=>H) ok x hn hv)
  unfold chgV at cC
  go_upto_region 5 with (go_at_call 16;(with_reducible refine cC.o.mono ?_);rintro e r ⟨z,y,rfl,pa,pn,pc,qa,qn,qc,ra,rn,rc,sa,sn,sc,rfl,v2⟩;have g:=lH z;have a7:=lH v2;clear z v2)
  refine qY7 ?_
  intro N m a2
  have o:=Bt g.o m
  have Z:=lH o
  have ac:=lH (Bt l.o o)
  have a3:=lH (a.o.bel o)
  have a4:=lH (c.o.bel o)
  have c3:=a3.o.cell
  have c4:=a4.o.cell
  have Q:=a3.o.frozen
  have S:=a4.o.frozen
  have c5:=a2.cell
  have a9:=(s.o.bel o).cell
  have a6:=lH (a7.o.move (w':=N) (B':=fun b=>B b∨w.heap.size+4<=b/\b<N.heap.size) fun b H=>⟨m.block b H.2,.inr ⟨a5.o▸H.1,Zc H.2 m.size⟩⟩)
  clear C P m a2 o
  by_cases p:(qQ8 E.doc x).1=0
  ·have d:R=(chgE E x,{ n:=(qQ8 E.doc x).2.1 }):=by rw [t.o];unfold doR;rw [if_pos rfl,if_pos p]
   have X:chgR E x=chgE E x:=by unfold chgR;rw [if_pos p]
   subst d
   rw [X] at a6
   rw [p,if_pos rfl]
   clear p X
   go_wp2
   exact qFf j.o ac.o a3.o a4.o rfl rfl rfl rfl rfl a6.o ⟨_,_,rfl,qQa.nil,qQa.nil⟩
  ·have d:R=(E,{ err:=(qQ8 E.doc x).1 }):=by rw [t.o];unfold doR chgE;rw [if_pos rfl,if_neg p,if_neg p]
   have h0:((qQ8 E.doc x).1 != 0)=true:=by simpa using p
   subst d
   rw [if_neg p]
   clear p
   go_wp2
   exact qFf j.o ac.o a3.o a4.o rfl rfl rfl rfl rfl (I.o _ Z.o) ⟨_,_,rfl,qQa.nil,qQa.nil⟩
 by_cases T:k=2
 ·subst T
  have cF:=lH (flush_ok (aq.o) (fun b H=>Zc (j.o b H) l.o.size) ok)
  obtain ⟨aj,ai⟩:=zKs ok
  have d:R=(qHd E,{ n:=qVf E.memos E.dirty (qB2 E.doc),ev:=evsOf E.told (qZt E.doc) }):=by rw [t.o];rfl
  subst d
  generalize qVf E.memos E.dirty (qB2 E.doc)=au at *
  go_upto_region 10 with (go_at_call 17;(with_reducible refine cF.o.mono ?_);rintro e r ⟨z,y,rfl,pa,pn,pc,qa,qn,qc,ra,rn,rc,ea,en,ec,rfl,v2,Y⟩;have g:=lH z;have a7:=lH v2;have ap:=lH Y;clear z v2 Y)
  refine qY7 ?_
  intro N m a2
  have ae:=lH a2
  have o:=Bt g.o m
  have Z:=lH o
  have a6:Hi (∀ W,Bel N W->EngV (fun b=>B b∨w.heap.size+4<=b/\b<W.heap.size) W (.slice pa pn pc) (.slice qa qn qc) (.slice ra rn rc) (.slice none 0 0) (qHd E)):=lH fun W h=>a7.o.move fun b H=>⟨(Bt m h).block b H.2,H.1.imp id fun D=>⟨a5.o▸D,Zc H.2 (Bt m h).size⟩⟩
  have cW:Hi (∀ W,Bel N W->Calls Tryz.prog 18 #[.slice ea en ec] W (Rn W fun w' y=>qQa 1 rdBy (fun b=>w.heap.size+4<=b/\b<w'.heap.size) w' y (evsB (evsOf E.told (qZt E.doc))))):=lH fun W h=>by
   have hW:=Bt m h;refine (zQ5 (n:=r.heap.size) (EvsK.move (B':=(·<r.heap.size)) ap.o.evs fun b H=>⟨hW.block b H.2,H.2⟩) hW.size aj (Za ai (by decide)) (HT.o W (Bt l.o (Bt g.o hW)))).mono ?_;rintro e w' ⟨v,rfl,H⟩;exact ⟨H.bel,v,rfl,H.bys.mono (fun b H=>by have:=Z.o.size;have:=h.size;have:=a5.o;omega) fun _ _ _ h=>h⟩
  clear C P m a2 o aj ai
  have c5:=ae.o.drew.cell
  have c3:=(a.o.bel Z.o).drew.cell
  have eW:∀ (af:Array Value) (w:World),(callFunc 18 af).run Tryz.prog w=.ok (.enter 18 af) w:=fun _ _=>by kernel_rfl
  go_region_law (refine qZ6 rfl 18 eW #[.tmp 45] _ rfl (vs:=#[.slice ea en ec]) ?hv (cW.o _ (Br N).drew) ?_;(case hv=>simp [Act.eval,Act.put]);rintro e w4 ⟨A,y,rfl,O⟩;refine ⟨_,rfl,?_⟩;obtain ⟨ua,uc,rfl,_,_⟩:=Rf O;have f:=lH (Bt (Br N).drew A);have HU:=lH O;clear A O;have G:=lH (Bt Z.o f.o);have ay:=(ae.o.bel f.o).cell;have c3:=(a.o.bel G.o).cell;have c4:=(c.o.bel G.o).cell;have Q:=(a.o.bel G.o).frozen;have S:=(c.o.bel G.o).frozen)
  all_goals (go_wp2_with fail;exact qFf j.o (Bt l.o G.o) (a.o.bel G.o) (c.o.bel G.o) rfl rfl rfl rfl rfl (a6.o _ f.o) ⟨_,_,rfl,HU.o,qQa.nil⟩)
 by_cases U:k=5
 ·subst U
  have d:R=(E,{ items:=E.told }):=by rw [t.o];rfl
  subst d
  go_upto_region 12 with fail
  have cO:Hi (∀ W,Bel i W->Calls Tryz.prog 13 #[.slice ta tn tc] W (Rn W fun w' y=>ItsK (fun b=>w.heap.size+4<=b/\b<w'.heap.size) 100 w' y E.told)):=lH fun W h=>by
   have hw:=l.o.size;have:=h.size;refine (qJ2 100 W.heap.size _ E.told W (((I.o W h).told).mono fun b H=>H.elim (fun H=>by have:=j.o b H;omega) (·.2)) (Zb _) (by have:=ok.alike.2;omega)).mono ?_;rintro e w' ⟨H,v,rfl,av,al⟩;exact ⟨H,v,rfl,al.its.mono fun b H=>by have:=al.lt b H;have:=a5.o;omega⟩
  clear C P
  have C:=(s.o.drew).cell
  have eO:=zZ3
  go_region_law (refine qZ6 rfl 13 eO #[.tmp 52] _ rfl (vs:=#[.slice ta tn tc]) ?hv (cO.o _ (Br i).drew) ?_;(case hv=>simp [Act.eval]);rintro e r ⟨z,y,rfl,Y⟩;refine ⟨_,rfl,?_⟩;obtain ⟨ua,uc,rfl,_,_⟩:=Rf Y;have g:=lH (Bt (Br i).drew z);have HU:=lH Y;clear z Y;have a9:=(s.o.bel g.o).cell;have c3:=(a.o.bel g.o).cell;have c4:=(c.o.bel g.o).cell;have Q:=(a.o.bel g.o).frozen;have S:=(c.o.bel g.o).frozen)
  all_goals (go_wp2_with fail;exact qFf j.o (Bt l.o g.o) (a.o.bel g.o) (c.o.bel g.o) rfl rfl rfl rfl rfl (I.o _ g.o) ⟨_,_,rfl,qQa.nil,HU.o⟩)
 by_cases a1:k=3∨k=4
 rotate_left
 ·have q:(k==1)=false/\(k==2)=false/\(k==5)=false/\(k==3)=false/\(k==4)=false:=by simp;omega
  have c3:=a.o.cell
  have c4:=c.o.cell
  have Q:=a.o.frozen
  have S:=c.o.frozen
  have d:R=(E,{ err:=1 }):=by rw [t.o];unfold doR;simp [D,T,U,not_or.1 a1]
  subst d
  clear D T U a1
  go_wp2
  exact qFf j.o l.o a.o c.o rfl rfl rfl rfl rfl (I.o _ (Br _)) ⟨_,_,rfl,qQa.nil,qQa.nil⟩
 have cI:=lH (qQ7 i.heap.size _ E.doc nd false i a0.o.doc)
 cases F:isM E.doc nd false with
 | false=>
   rw [F] at cI;have d:R=(E,{ err:=6 }):=(by rw [t.o];unfold doR;simp [D,T,U,a1,F]);subst d;have c3:=a.o.cell;have c4:=c.o.cell;have Q:=a.o.frozen;have S:=c.o.frozen;have q:(k==1)=false/\(k==2)=false/\(k==5)=false/\((k==3)=true∨(k==3)=false/\(k==4)=true):=(by simp;omega);obtain ⟨q1,q2,q3,q⟩:=q;clear D T U a1 F;rcases q with q | ⟨q4,q⟩;all_goals
    go_wp2_with (go_at_call 19;(with_reducible refine cI.o.mono ?_);rintro e r ⟨rfl,rfl⟩)
    exact qFf j.o l.o a.o c.o rfl rfl rfl rfl rfl (I.o _ (Br _)) ⟨_,_,rfl,qQa.nil,qQa.nil⟩
 | true=>
   rw [F] at cI;clear D T U;rcases a1 with rfl | rfl
   ·have d:R=(E,{ text:=(qJp E.doc (qQw E.doc) nd).name }):=(by rw [t.o];unfold doR;simp [F]);subst d;clear F;have cC:Hi (∀ W,Bel i W->Calls Tryz.prog 23 #[.slice J M K] W (Rn W fun w' y=>qQa 2 qYz (·<w'.heap.size) w' y (qQw E.doc))):=lH fun W h=>(qV0 i.heap.size _ E.doc W (a0.o.doc.agree fun b H=>h.block b H) h.size ok.good).mono fun _ w' ⟨ar,v,b,a8⟩=>⟨ar,v,b,a8.read⟩;have cN:Hi (∀ cv W,Bel i W->qQa 2 qYz (·<W.heap.size) W cv (qQw E.doc)->Calls Tryz.prog 22 #[.slice J M K,cv,.int .i64 nd] W (Rn W fun w' y=>∃ u v,y=.agg #[.int .i64 nd,.string ⟨(qJp E.doc (qQw E.doc) nd).name.toArray⟩,u,v])):=lH fun cv W h X=>by
     refine (qBk W.heap.size _ cv E.doc (qQw E.doc) nd W ((a0.o.doc.agree fun b H=>h.block b H).mono fun b H=>Zc H h.size) X (Zb _) ok.good (fun a8 X=>(qZv ok.good).2 _ ((qWx ok.good).kid a8 X).1) (Za (qBb ok.good (qWx ok.good)) (by omega))).mono ?_;rintro e w' ⟨H,v,rfl,u,rfl,_⟩;exact ⟨H,_,rfl,_,_,rfl⟩
    generalize (qJp E.doc (qQw E.doc) nd).name=nm at *
    generalize qQw E.doc=an at *
    have eC:=zFm;have eN:=jZi;have b0:=zZj;go_upto_region 20 with (go_at_call 19;(with_reducible refine cI.o.mono ?_);rintro e r ⟨rfl,rfl⟩)
    clear C P;have C:=s.o.drew.cell;have P:=ad.o.drew.cell;go_region_law (first
 | (refine qZ6 rfl 23 eC #[.tmp 84] _ rfl (vs:=#[.slice J M K]) ?hv (cC.o _ (Br i).drew) ?_;(case hv=>simp [Act.eval]);rintro e w4 ⟨A,y,rfl,O⟩;refine ⟨_,rfl,?_⟩;have f:=lH (Bt (Br i).drew A);obtain ⟨xa,xc,rfl,_,_⟩:=Rf O;have ao:=lH O;clear A O;have a9:=(s.o.bel f.o).cell;have ax:=(ad.o.bel f.o).cell)
 | (refine qZ6 rfl 22 eN #[.tmp 82,.tmp 85,.tmp 87] _ rfl (vs:=#[.slice J M K,.slice xa an.length xc,.int .i64 nd]) ?hv (cN.o _ _ f.o ao.o) ?_;(case hv=>simp [Act.eval]);rintro e w5 ⟨b5,y,rfl,u,v,rfl⟩;refine ⟨_,rfl,?_⟩;have n:=lH (Bt f.o b5);clear b5;have aw:=(s.o.bel n.o).cell;have c3:=(a.o.bel n.o).cell;have c4:=(c.o.bel n.o).cell;have Q:=(a.o.bel n.o).frozen;have S:=(c.o.bel n.o).frozen))
    all_goals (go_wp2_with fail;exact qFf j.o (Bt l.o n.o) (a.o.bel n.o) (c.o.bel n.o) rfl rfl rfl rfl rfl (I.o _ n.o) ⟨_,_,rfl,qQa.nil,qQa.nil⟩)
   ·have d:R=(E,{ n:=qQd E.doc nd,text:=(kOf (qQd E.doc nd)).name }):=by rw [t.o];unfold doR;simp [F]
    subst d
    clear F
    have cR:=lH (qKg i.heap.size _ E.doc nd i a0.o.doc (Zb _) ok.good)
    generalize qQd E.doc nd=am at *
    have cK:=lH (qKu am)
    have eK:=cf_kinds
    have az:=zZe
    go_upto_region 19 with (first
 | (go_at_call 19;(with_reducible refine cI.o.mono ?_);rintro e r ⟨rfl,rfl⟩)
 | (go_at_call 20;(with_reducible refine qJ6 cR.o fun r g=>?_)))
    clear C P
    have C:=(s.o.bel g.o).drew.cell
    go_region_law (first
 | (refine qZ6 rfl 21 eK #[.tmp 76] _ rfl (vs:=#[.int .i64 am]) ?hv (cK.o _) ?_;(case hv=>simp [Act.eval,Act.put]);rintro e w4 ⟨rfl,A⟩;refine ⟨_,rfl,?_⟩;have f:=lH (Bt g.o (Bt (Br r).drew A));clear A;have a9:=(s.o.bel f.o).cell;have c3:=(a.o.bel f.o).cell;have c4:=(c.o.bel f.o).cell;have Q:=(a.o.bel f.o).frozen;have S:=(c.o.bel f.o).frozen))
    all_goals (go_wp2_with fail;exact qFf j.o (Bt l.o f.o) (a.o.bel f.o) (c.o.bel f.o) rfl rfl rfl rfl rfl (I.o _ f.o) ⟨_,_,rfl,qQa.nil,qQa.nil⟩)

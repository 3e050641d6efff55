/- Bools that a law is given: a slice of them read as a list. -/
import Derived.Test.YtkhkbifdakikcaaGreatDoorEngChange
namespace Go.Proofs.YtkhkbifdakikcaaGreatDoor
open Go.RowKit Go.WideShapes Go.ChangeShapes
def rdBool:World->List Value->Bool->Prop:=fun _ cs b=>cs=[.bool b]
abbrev BoolsAt (n:Nat) (w:World) (v:Value) (l:List Bool):Prop:=qQa 1 rdBool (·<n) w v l
end Go.Proofs.YtkhkbifdakikcaaGreatDoor
namespace Go.Proofs.YtkhkbifdakikcaaGreatDoor
open Go.RowKit
variable {a:Act} {c1:Array Value} {c:Code} {Q:Exit->Act->World->Prop} {B B':Nat->Prop} {P:Program} {e1:TypeId} {dv iv mv tv:Value} {W w w':World}
structure EngV (B:Nat->Prop) (w:World) (dv tv mv iv:Value) (E:Eng):Prop where
 doc:qKc B w dv E.doc
 told:ItsK B 100 w tv E.told
 memos:qKb B w mv E.memos
 dirty:qQa 1 qQf B w iv E.dirty
theorem EngV.agree {E:Eng} (h:EngV B w dv tv mv iv E) (ha:∀ b,B b->w'.heap[b]?=w.heap[b]?):EngV B w' dv tv mv iv E:=
 ⟨h.doc.agree ha,h.told.agree ha,h.memos.agree ha,qQa.agree h.dirty ha (fun _ _ _ h=>h)⟩
theorem EngV.mono {E:Eng} (h:EngV B w dv tv mv iv E) (H:∀ b,B b->B' b):EngV B' w dv tv mv iv E:=
 ⟨h.doc.mono H,h.told.mono H,h.memos.mono H,h.dirty.mono H (fun _ _ _ h=>h)⟩
def chgR (E:Eng) (x:Chg):Eng:=if (qQ7 E.doc x).1=0 then chgE E x else ⟨[],[],[],[]⟩
theorem zG6 {E:Eng} (h:EngV B w dv tv mv iv E) (s:∀ b,B b->b<w.heap.size) (ok:EngOk E) (x:Chg) (v:x.name.length<=9223372036854775807) (hv:x.value.length<=9223372036854775807) :
 Calls Tryz.prog 9 #[.agg #[dv,tv,mv,iv],chgV x] w (Rn w fun w' y=>∃ d n D t p T m o M i l I,y=.tuple #[.agg #[.slice d n D,.slice t p T,.slice m o M,.slice i l I],.int .i64 (if (qQ7 E.doc x).1=0 then (qQ7 E.doc x).2.1 else 0),.int .i64 (qQ7 E.doc x).1] /\
  EngV (fun b=>w.heap.size<=b/\b<w'.heap.size) w' (.slice d n D) (.slice t p T) (.slice m o M) (.slice i l I) (chgR E x)):=by
 have A:=ok.alike
 have F:=zWa ok.once ok.range
 have H:=h.mono s
 refine (qHj x H.doc H.told H.memos H.dirty (Zb _) ok.good v hv (zKu ok.good) (by have:=A.2;omega) (by have:=ok.few;omega) (fun y z=>by have:=ok.uses y z;omega) (by omega)).mono ?_
 rintro e w' ⟨u,y,rfl,C,K,J,G,rfl,q,g,j,k⟩
 obtain ⟨d,D,rfl,_,_⟩:=Rf q
 obtain ⟨t,T,rfl,_,_⟩:=Rf g
 obtain ⟨m,M,rfl,_,_⟩:=Rf j
 obtain ⟨i,I,rfl,_,_⟩:=Rf k
 have e1:(qKu E.doc E.told E.memos E.dirty x).2.1=if (qQ7 E.doc x).1=0 then (qQ7 E.doc x).2.1 else 0:=by
  unfold qKu;split <;> rfl
 have r:(qKu E.doc E.told E.memos E.dirty x).1=(qQ7 E.doc x).1:=by
  unfold qKu;split
  ·rename_i f;rw [f]
  ·rfl
 rw [e1,r]
 refine ⟨u,_,rfl,d,_,D,t,_,T,m,_,M,i,_,I,rfl,?_⟩
 by_cases f:(qQ7 E.doc x).1=0
 ·unfold chgR chgE
  unfold qKu at *
  simp only [if_pos f] at *
  exact ⟨q,g,j,k⟩
 ·unfold chgR
  unfold qKu at *
  simp only [if_neg f] at *
  exact ⟨q,g,j,k⟩
theorem flush_ok {E:Eng} (h:EngV B w dv tv mv iv E) (k:∀ b,B b->b<w.heap.size) (ok:EngOk E) :
 Calls Tryz.prog 10 #[.agg #[dv,tv,mv,iv]] w (Rn w fun w' y=>∃ d j D t s T m l M f n g,y=.tuple #[.agg #[.slice d j D,.slice t s T,.slice m l M,.slice none 0 0],.slice f n g,.int .i64 (qY2 E.memos E.dirty (qBp E.doc))] /\
  EngV (fun b=>(B b∨w.heap.size<=b)/\b<w'.heap.size) w' (.slice d j D) (.slice t s T) (.slice m l M) (.slice none 0 0) (qGf E)/\OfAt w.heap.size 100 w' (.slice f n g) E.told (qJ0 E.doc)):=by
 have i:=h.mono k
 refine (qGb i.doc i.told h.memos k i.dirty (Zb _) ok).mono ?_
 rintro e w' ⟨H,y,rfl,u,z,x,v,rfl,q,o,p,r⟩
 obtain ⟨d,D,rfl,_,_⟩:=Rf q
 obtain ⟨t,T,rfl,_,_⟩:=Rf o
 obtain ⟨m,M,rfl,_,_⟩:=Rf p
 obtain ⟨f,n,g,rfl⟩:=r.form
 exact ⟨H,_,rfl,d,_,D,t,_,T,m,_,M,f,n,g,rfl,⟨q.mono (fun b H=>⟨.inr H.1,H.2⟩),o.mono (fun b H=>⟨.inr H.1,H.2⟩),p,qQa.nil⟩,r⟩
def EngC (lo g:Nat) (W:World) (E:Eng):Prop:=∃ da dn dc ta tn tc ma mn mc ia im ic,Blk W g [.slice da dn dc,.slice ta tn tc,.slice ma mn mc,.slice ia im ic] 30/\EngV (fun b=>lo<=b/\b<W.heap.size/\b≠g) W (.slice da dn dc) (.slice ta tn tc) (.slice ma mn mc) (.slice ia im ic) E
theorem EngC.bel {l g:Nat} {e:World} {E:Eng} (h:EngC l g W E) (d:Bel W e):EngC l g e E:=by
 obtain ⟨D,n,f,t,q,T,M,p,o,I,m,k,i,j⟩:=h;exact ⟨D,n,f,t,q,T,M,p,o,I,m,k,i.bel d,(j.agree (fun b H=>d.block b H.2.1)).mono (fun b H=>⟨H.1,Zc H.2.1 d.size,H.2.2⟩)⟩
set_option maxRecDepth 100000
set_option maxHeartbeats 4000000
theorem zQ0 {f:Func} {p q:Tmp} {y u:TypeId} (h:f.results = #[.cell p y,.cell q u]) (T:Array Value) (w:World) (g G:Nat) (t e:TypeId) (cs C:Array Value) (F b:Nat×Nat) (d d':TypeDesc)
 (l:T.getD p undef=.pointer (some ⟨g,0,none⟩)) (n:T.getD q undef=.pointer (some ⟨G,0,none⟩)) (hg:w.heap[g]?=some (.cells cs t F)) (i:w.heap[G]?=some (.cells C e b))
 (r:P.underlying y=some d) (s:P.underlying u=some d') (hd:(match d with | .struct _ | .array _ _=>true | _=>false)=true) (H:(match d' with | .struct _ | .array _ _=>true | _=>false)=true)
 (j:(P.info? y).map (·.size)=some cs.size) (k:(P.info? u).map (·.size)=some C.size) :
 (results f T).run P w=.ok (.tuple #[.agg cs,.agg C]) w:=by
 have m:T[p]?.getD undef=.pointer (some ⟨g,0,none⟩):=by simpa using l
 have o:T[q]?.getD undef=.pointer (some ⟨G,0,none⟩):=by simpa using n
 simp [results,h,m,o,asAddr,run_loadVar_row w g t y cs F d hg r hd j,run_loadVar_row w G e u C b d' i s H k]
theorem rep_desc:∃ d,Tryz.prog.underlying 41=some d/\(match d with | .struct _ | .array _ _=>true | _=>false)=true:=by
 have h:(match Tryz.prog.underlying 41 with | some d=>(match d with | .struct _ | .array _ _=>true | _=>false) | none=>false)=true:=by kernel_rfl
 cases e:Tryz.prog.underlying 41 with
 | none=>rw [e] at h;cases h
 | some d=>rw [e] at h;exact ⟨d,rfl,h⟩
def rdRp (B:Nat->Prop) (w:World) (cs:List Value) (r:Rp):Prop:=∃ ev iv,cs=[.int .i64 r.err,.int .i64 r.n,.string ⟨r.text.toArray⟩,ev,iv]/\qQa 1 rdBy B w ev (evsB r.ev)/\ItsK B 100 w iv r.items
theorem rdRp.move {cs:List Value} {r:Rp} (h:rdRp B w cs r) (ha:∀ b,B b->w'.heap[b]?=w.heap[b]?/\B' b):rdRp B' w' cs r:=by
 obtain ⟨e,iv,rfl,d,f⟩:=h;exact ⟨e,iv,rfl,(d.agree (fun b H=>(ha b H).1) (fun _ _ _ h=>h)).mono (fun b H=>(ha b H).2) (fun _ _ _ h=>h),(f.agree (fun b H=>(ha b H).1)).mono (fun b H=>(ha b H).2)⟩
theorem EngV.move {E:Eng} (h:EngV B w dv tv mv iv E) (ha:∀ b,B b->w'.heap[b]?=w.heap[b]?/\B' b):EngV B' w' dv tv mv iv E:=
 (h.agree fun b H=>(ha b H).1).mono fun b H=>(ha b H).2
theorem EvsK.move {k:Nat} {v:Value} {l:List Evt} (h:EvsK B k w v l) (ha:∀ b,B b->w'.heap[b]?=w.heap[b]?/\B' b):EvsK B' k w' v l:=
 (h.agree (w':=w') (fun b H=>(ha b H).1) fun _ _ _ ⟨v,d,e⟩=>⟨v,d,e.agree fun b H=>(ha b H).1⟩).mono (fun b H=>(ha b H).2) fun _ _ _ ⟨v,d,e⟩=>⟨v,d,e.mono fun b H=>(ha b H).2⟩
theorem OfAt.evs {m:Nat} {y:Value} {a b:List It} (h:OfAt m 100 w y a b):EvsK (fun x=>m<=x/\x<w.heap.size) 100 w y (evsOf a b):=by
 unfold OfAt at h;unfold evsOf;split at h
 ·obtain ⟨o,K,g,v,rfl,rfl,f,H,k⟩:=h;rw [if_pos ‹_›];refine .inr ⟨g,0,1,rfl,by simp,by omega,fun i l=>?_⟩;obtain rfl:i=0:=by simpa using l
  exact ⟨⟨f,H.lt⟩,_,rfl,fun j u n=>by rw [Nat.zero_mul,Nat.zero_add];exact (H.cell j).trans n,v,rfl,k⟩
 ·rw [if_neg ‹_›];exact qQa.map _ (h.row.mono (fun b d=>⟨d.1,d.2.1⟩) fun _ _ _ h=>h) fun C e _ r=>⟨.slice none 0 0,r,qQa.nil⟩
def DoAns (B:Nat->Prop) (w:World) (E:Eng) (r:Rp):Ending->World->Prop:=fun e w'=>Bel w w'/\∃ da dn dc ta tn tc ma mn mc ia im ic y0 y1 y2 y3 y4,e=.returned (.tuple #[.agg #[.slice da dn dc,.slice ta tn tc,.slice ma mn mc,.slice ia im ic],.agg #[y0,y1,y2,y3,y4]]) /\
 EngV (fun b=>(B b∨w.heap.size<=b)/\b<w'.heap.size) w' (.slice da dn dc) (.slice ta tn tc) (.slice ma mn mc) (.slice ia im ic) E/\rdRp (fun b=>w.heap.size<=b/\b<w'.heap.size) w' [y0,y1,y2,y3,y4] r
theorem qGv {E:Eng} {r:Rp} {C D:List Value} {da dn dc ta tn tc ma mn mc ia im ic} {y Y d e g:Value} (l:∀ b,B b->b<w.heap.size) (i:Bel w W) (m:Blk W (w.heap.size+1+1) C 30) (S:Blk W (w.heap.size+1+1+1) D 41) (hC:C.length=4) (q:D.length=5)
 (o:a.tmps.getD 4 undef=.pointer (some ⟨w.heap.size+1+1,0,none⟩)) (p:a.tmps.getD 5 undef=.pointer (some ⟨w.heap.size+1+1+1,0,none⟩)) (hd:a.defers=[])
 (s:EngV (fun b=>B b∨w.heap.size+4<=b/\b<W.heap.size) W (.slice da dn dc) (.slice ta tn tc) (.slice ma mn mc) (.slice ia im ic) E) (A:rdRp (fun b=>w.heap.size+4<=b/\b<W.heap.size) W [y,Y,d,e,g] r) :
 bodyPost Tryz.prog Tryz.f7 (DoAns B w E r) .ret a (((((((((W.setCell ⟨w.heap.size+1+1,0,none⟩ (.slice da dn dc)).setCell ⟨w.heap.size+1+1,1,none⟩ (.slice ta tn tc)).setCell ⟨w.heap.size+1+1,2,none⟩ (.slice ma mn mc)).setCell ⟨w.heap.size+1+1,3,none⟩ (.slice ia im ic)).setCell ⟨w.heap.size+1+1+1,0,none⟩ y).setCell ⟨w.heap.size+1+1+1,1,none⟩ Y).setCell ⟨w.heap.size+1+1+1,2,none⟩ d).setCell ⟨w.heap.size+1+1+1,3,none⟩ e).setCell ⟨w.heap.size+1+1+1,4,none⟩ g):=by
 match C,hC with
 | [_,_,_,_],_=>
 match D,q with
 | [_,_,_,_,_],_=>
 obtain ⟨j,u,v⟩:=qXr;obtain ⟨k,x,z⟩:=rep_desc;have f:=((((FrE.refl (w.heap.size+1+1) W).set (j:=0) (.slice da dn dc)).set (j:=1) (.slice ta tn tc)).set (j:=2) (.slice ma mn mc)).set (j:=3) (.slice ia im ic);have K:=(((m.set 0 (.slice da dn dc)).set 1 (.slice ta tn tc)).set 2 (.slice ma mn mc)).set 3 (.slice ia im ic);have I:=S.of (f.block _ S.lt (by omega));generalize (((W.setCell ⟨w.heap.size+1+1,0,none⟩ (.slice da dn dc)).setCell ⟨w.heap.size+1+1,1,none⟩ (.slice ta tn tc)).setCell ⟨w.heap.size+1+1,2,none⟩ (.slice ma mn mc)).setCell ⟨w.heap.size+1+1,3,none⟩ (.slice ia im ic)=V at *
 have F:=(((((FrE.refl (w.heap.size+1+1+1) V).set (j:=0) y).set (j:=1) Y).set (j:=2) d).set (j:=3) e).set (j:=4) g;have J:=((((I.set 0 y).set 1 Y).set 2 d).set 3 e).set 4 g;have G:=K.of (F.block _ K.lt (by omega));have hg:∀ b,B b∨w.heap.size+4<=b/\b<W.heap.size->_:=fun b H=>by
  have t:b<W.heap.size:=by
   rcases H with h | h
   ·exact Zc (l b h) i.size
   ·exact h.2
  have n:b≠w.heap.size+1+1/\b≠w.heap.size+1+1+1:=by
   rcases H with h | h
   ·have:=l b h;omega
   ·omega
  exact And.intro ((F.block b (Zc t f.size) n.2).trans (f.block b t n.1)) (And.intro (H.imp id (fun h=>(by omega:w.heap.size<=b))) (Zc t (Za f.size F.size)))
 refine bodyPost_ret (zQ0 rfl _ _ _ _ _ _ _ _ _ _ j k o p G J u x (by revert v;cases j <;> intro h <;> exact h) (by revert z;cases k <;> intro h <;> exact h) (by kernel_rfl) (by kernel_rfl)) hd
  ⟨F.bel (f.bel i (by omega)) (by omega),_,_,_,_,_,_,_,_,_,_,_,_,_,_,_,_,_,rfl,s.move hg,A.move fun b H=>⟨(hg b (.inr H)).1,by omega,(hg b (.inr H)).2.2⟩⟩
theorem wp_new4 {C c3 c4:Array Value} {e E f:TypeId} 
 (h:∀ W,Bel w W->W.heap.size=w.heap.size+4->Blk W w.heap.size c1.toList e1->Blk W (w.heap.size+1) C.toList e->Blk W (w.heap.size+1+1) c3.toList E->Blk W (w.heap.size+1+1+1) c4.toList f->c.wp P Q a W) :
 c.wp P Q a ((((w.alloc (.cells c1 e1)).alloc (.cells C e)).alloc (.cells c3 E)).alloc (.cells c4 f)):=by
 have i:=(Br w).alloc (.cells c1 e1);have g:=(Br (w.alloc (.cells c1 e1))).alloc (.cells C e);have d:=(Br ((w.alloc (.cells c1 e1)).alloc (.cells C e))).alloc (.cells c3 E);have b:=(Br (((w.alloc (.cells c1 e1)).alloc (.cells C e)).alloc (.cells c3 E))).alloc (.cells c4 f);exact h _ (i.then (g.then (d.then b))) (by simp) ((Blk.new' _ _ rfl _ _).bel (g.then (d.then b))) ((Blk.new' _ _ (by simp) _ _).bel (d.then b)) ((Blk.new' _ _ (by simp) _ _).bel b) (Blk.new' _ _ (by simp) _ _)
theorem qBb (h:∀ W,Bel w W->Blk W w.heap.size c1.toList e1->c.wp P Q a W):c.wp P Q a (w.alloc (.cells c1 e1)):=
 h _ ((Br w).alloc _) (Blk.new' _ _ rfl _ _)
theorem cf_kinds (args:Array Value) (w:World):(callFunc 15 args).run Tryz.prog w=.ok (.enter 15 args) w:=by kernel_rfl
theorem zHt (args:Array Value) (w:World):(callFunc 17 args).run Tryz.prog w=.ok (.enter 17 args) w:=by kernel_rfl
theorem zDd (args:Array Value) (w:World):(callFunc 16 args).run Tryz.prog w=.ok (.enter 16 args) w:=by kernel_rfl
theorem zQw (b A d e:Value) (w:World):(Instr.field 60 (.agg #[b,A,d,e]) 1).run Tryz.prog w=.ok A w:=by kernel_rfl
theorem zQs (A b d e f g h:Value) (w:World):(Instr.field 57 (.agg #[A,b,d,e,f,g,h]) 0).run Tryz.prog w=.ok A w:=by kernel_rfl
theorem zJ8 {E:Eng} {J ta ma ia:Option Addr} {M K tn tc mn mc im ic:Nat} (k nd:Int) (x:Chg) (w:World) (hV:EngV B w (.slice J M K) (.slice ta tn tc) (.slice ma mn mc) (.slice ia im ic) E) (hB:∀ b,B b->b<w.heap.size) (ok:EngOk E)
 (hn : x.name.length <= 9223372036854775807) (hv : x.value.length <= 9223372036854775807) (hT : ∀ W, Bel w W -> Lib.TabIs Tryz.prog W "internal/strconv.uint64pow10" .u64 Lib.pow10Tab) :
 Calls Tryz.prog 7 #[.agg #[.slice J M K,.slice ta tn tc,.slice ma mn mc,.slice ia im ic],.agg #[.int .i64 k,.int .i64 nd,.int .i64 x.kind,.int .i64 x.node,.int .i64 x.dest,.int .i64 x.before,.string ⟨x.name.toArray⟩,.string ⟨x.value.toArray⟩]] w
  (DoAns B w (doR E ⟨k,nd,x⟩).1 (doR E ⟨k,nd,x⟩).2):=by
 have HV:=lH hV
 have m:=lH hB
 have HT:=lH hT
 obtain ⟨R,g⟩:∃ R,R=doR E ⟨k,nd,x⟩:=⟨_,rfl⟩
 rw [<- g]
 have z:=lH g
 clear hV hB hT g
 go_enter Tryz.func7,Tryz.ntmps7
 go_upto_region 1 with fail
 refine wp_new4 ?_
 intro l Y al ab ac ah ai
 have n:=lH Y
 have a7:=lH al
 have t:=lH ab
 have ae:=lH ac
 have d:=lH ah
 have f:=lH ai
 have c1:=ab.cell
 have S:=ac.cell
 have ar:=lH (HV.o.agree (w':=l) fun b H=>Y.block b (m.o b H))
 have a2:=lH ((HV.o.agree (fun b H=>Y.block b (m.o b H))).mono (B':=(·<l.heap.size)) (fun b H=>Zc (m.o b H) Y.size))
 have I:Hi (∀ W,Bel l W->EngV (fun b=>B b∨w.heap.size+4<=b/\b<W.heap.size) W (.slice J M K) (.slice ta tn tc) (.slice ma mn mc) (.slice ia im ic) E):=lH fun W h=>HV.o.move fun b H=>⟨(Y.then h).block b (m.o b H),.inl H⟩
 clear Y al ab ac ah ai
 by_cases D:k=1
 ·subst D
  have cC:=lH (zG6 a2.o (fun b H=>H) ok x hn hv)
  unfold chgV at cC
  go_upto_region 5 with (go_at_call 9;(with_reducible refine cC.o.mono ?_);rintro e s ⟨A,y,rfl,pa,pn,pc,qa,qn,qc,ra,rn,rc,sa,sn,sc,rfl,v2⟩;have j:=lH A;have a9:=lH v2;clear A v2)
  refine qBb ?_
  intro N o a4
  have q:=Bt j.o o
  have a1:=lH q
  have ad:=lH (Bt n.o q)
  have a5:=lH (d.o.bel q)
  have a6:=lH (f.o.bel q)
  have c3:=a5.o.cell
  have c4:=a6.o.cell
  have T:=a5.o.frozen
  have U:=a6.o.frozen
  have c5:=a4.cell
  have aa:=(t.o.bel q).cell
  have a8:=lH (a9.o.move (w':=N) (B':=fun b=>B b∨w.heap.size+4<=b/\b<N.heap.size) fun b H=>⟨o.block b H.2,.inr ⟨a7.o▸H.1,Zc H.2 o.size⟩⟩)
  clear c1 S o a4 q
  by_cases r:(qQ7 E.doc x).1=0
  ·have g:R=(chgE E x,{ n:=(qQ7 E.doc x).2.1 }):=by rw [z.o];unfold doR;rw [if_pos rfl,if_pos r]
   have Z:chgR E x=chgE E x:=by unfold chgR;rw [if_pos r]
   subst g
   rw [Z] at a8
   rw [r,if_pos rfl]
   clear r Z
   go_wp2
   exact qGv m.o ad.o a5.o a6.o rfl rfl rfl rfl rfl a8.o ⟨_,_,rfl,qQa.nil,qQa.nil⟩
  ·have g:R=(E,{ err:=(qQ7 E.doc x).1 }):=by rw [z.o];unfold doR chgE;rw [if_pos rfl,if_neg r,if_neg r]
   have h0:((qQ7 E.doc x).1 != 0)=true:=by simpa using r
   subst g
   rw [if_neg r]
   clear r
   go_wp2
   exact qGv m.o ad.o a5.o a6.o rfl rfl rfl rfl rfl (I.o _ a1.o) ⟨_,_,rfl,qQa.nil,qQa.nil⟩
 by_cases V:k=2
 ·subst V
  have cF:=lH (flush_ok (ar.o) (fun b H=>Zc (m.o b H) n.o.size) ok)
  obtain ⟨ak,aj⟩:=evs_fine ok
  have g:R=(qGf E,{ n:=qY2 E.memos E.dirty (qBp E.doc),ev:=evsOf E.told (qJ0 E.doc) }):=by rw [z.o];rfl
  subst g
  generalize qY2 E.memos E.dirty (qBp E.doc)=au at *
  go_upto_region 10 with (go_at_call 10;(with_reducible refine cF.o.mono ?_);rintro e s ⟨A,y,rfl,pa,pn,pc,qa,qn,qc,ra,rn,rc,ea,en,ec,rfl,v2,o2⟩;have j:=lH A;have a9:=lH v2;have aq:=lH o2;clear A v2 o2)
  refine qBb ?_
  intro N o a4
  have af:=lH a4
  have q:=Bt j.o o
  have a1:=lH q
  have a8:Hi (∀ W,Bel N W->EngV (fun b=>B b∨w.heap.size+4<=b/\b<W.heap.size) W (.slice pa pn pc) (.slice qa qn qc) (.slice ra rn rc) (.slice none 0 0) (qGf E)):=lH fun W h=>a9.o.move fun b H=>⟨(Bt o h).block b H.2,H.1.imp id fun D=>⟨a7.o▸D,Zc H.2 (Bt o h).size⟩⟩
  have cW:Hi (∀ W,Bel N W->Calls Tryz.prog 11 #[.slice ea en ec] W (Rn W fun w' y=>qQa 1 rdBy (fun b=>w.heap.size+4<=b/\b<w'.heap.size) w' y (evsB (evsOf E.told (qJ0 E.doc))))):=lH fun W h=>by
   have hW:=Bt o h;refine (zQj (n:=s.heap.size) (EvsK.move (B':=(·<s.heap.size)) aq.o.evs fun b H=>⟨hW.block b H.2,H.2⟩) hW.size ak aj (HT.o W (Bt n.o (Bt j.o hW)))).mono ?_;rintro e w' ⟨v,rfl,H⟩;exact ⟨H.bel,v,rfl,H.bys.mono (fun b H=>by have:=a1.o.size;have:=h.size;have:=a7.o;omega) fun _ _ _ h=>h⟩
  clear c1 S o a4 q ak aj
  have c5:=af.o.drew.cell
  have c3:=(d.o.bel a1.o).drew.cell
  have eW:∀ (ag:Array Value) (w:World),(callFunc 11 ag).run Tryz.prog w=.ok (.enter 11 ag) w:=fun _ _=>by kernel_rfl
  go_region_law (refine qZ6 rfl 11 eW #[.tmp 45] _ rfl (vs:=#[.slice ea en ec]) ?hv (cW.o _ (Br N).drew) ?_;(case hv=>simp [Act.eval,Act.put]);rintro e w4 ⟨C,y,rfl,O⟩;refine ⟨_,rfl,?_⟩;obtain ⟨ua,uc,rfl,_,_⟩:=Rf O;have i:=lH (Bt (Br N).drew C);have HU:=lH O;clear C O;have G:=lH (Bt a1.o i.o);have ay:=(af.o.bel i.o).cell;have c3:=(d.o.bel G.o).cell;have c4:=(f.o.bel G.o).cell;have T:=(d.o.bel G.o).frozen;have U:=(f.o.bel G.o).frozen)
  all_goals (go_wp2_with fail;exact qGv m.o (Bt n.o G.o) (d.o.bel G.o) (f.o.bel G.o) rfl rfl rfl rfl rfl (a8.o _ i.o) ⟨_,_,rfl,HU.o,qQa.nil⟩)
 by_cases X:k=5
 ·subst X
  have g:R=(E,{ items:=E.told }):=by rw [z.o];rfl
  subst g
  go_upto_region 12 with fail
  have cO:Hi (∀ W,Bel l W->Calls Tryz.prog 12 #[.slice ta tn tc] W (Rn W fun w' y=>ItsK (fun b=>w.heap.size+4<=b/\b<w'.heap.size) 100 w' y E.told)):=lH fun W h=>by
   have hw:=n.o.size;have:=h.size;refine (qXq 100 W.heap.size _ E.told W (((I.o W h).told).mono fun b H=>H.elim (fun H=>by have:=m.o b H;omega) (·.2)) (Zb _) (by have:=ok.alike.2;omega)).mono ?_;rintro e w' ⟨H,v,rfl,av,am⟩;exact ⟨H,v,rfl,am.its.mono fun b H=>by have:=am.lt b H;have:=a7.o;omega⟩
  clear c1 S
  have c1:=(t.o.drew).cell
  have eO:=zZi
  go_region_law (refine qZ6 rfl 12 eO #[.tmp 52] _ rfl (vs:=#[.slice ta tn tc]) ?hv (cO.o _ (Br l).drew) ?_;(case hv=>simp [Act.eval]);rintro e s ⟨A,y,rfl,o2⟩;refine ⟨_,rfl,?_⟩;obtain ⟨ua,uc,rfl,_,_⟩:=Rf o2;have j:=lH (Bt (Br l).drew A);have HU:=lH o2;clear A o2;have aa:=(t.o.bel j.o).cell;have c3:=(d.o.bel j.o).cell;have c4:=(f.o.bel j.o).cell;have T:=(d.o.bel j.o).frozen;have U:=(f.o.bel j.o).frozen)
  all_goals (go_wp2_with fail;exact qGv m.o (Bt n.o j.o) (d.o.bel j.o) (f.o.bel j.o) rfl rfl rfl rfl rfl (I.o _ j.o) ⟨_,_,rfl,qQa.nil,HU.o⟩)
 by_cases a3:k=3∨k=4
 rotate_left
 ·have a0:(k==1)=false/\(k==2)=false/\(k==5)=false/\(k==3)=false/\(k==4)=false:=by simp;omega
  have c3:=d.o.cell
  have c4:=f.o.cell
  have T:=d.o.frozen
  have U:=f.o.frozen
  have g:R=(E,{ err:=1 }):=by rw [z.o];unfold doR;simp [D,V,X,not_or.1 a3]
  subst g
  clear D V X a3
  go_wp2
  exact qGv m.o n.o d.o f.o rfl rfl rfl rfl rfl (I.o _ (Br _)) ⟨_,_,rfl,qQa.nil,qQa.nil⟩
 have cI:=lH (qQ5 l.heap.size _ E.doc nd false l a2.o.doc)
 cases F:isM E.doc nd false with
 | false=>
   rw [F] at cI;have g:R=(E,{ err:=6 }):=(by rw [z.o];unfold doR;simp [D,V,X,a3,F]);subst g;have c3:=d.o.cell;have c4:=f.o.cell;have T:=d.o.frozen;have U:=f.o.frozen;have a0:(k==1)=false/\(k==2)=false/\(k==5)=false/\((k==3)=true∨(k==3)=false/\(k==4)=true):=(by simp;omega);obtain ⟨q1,q2,q3,a0⟩:=a0;clear D V X a3 F;rcases a0 with a0 | ⟨q4,a0⟩;all_goals
    go_wp2_with (go_at_call 13;(with_reducible refine cI.o.mono ?_);rintro e s ⟨rfl,rfl⟩)
    exact qGv m.o n.o d.o f.o rfl rfl rfl rfl rfl (I.o _ (Br _)) ⟨_,_,rfl,qQa.nil,qQa.nil⟩
 | true=>
   rw [F] at cI;clear D V X;rcases a3 with rfl | rfl
   ·have g:R=(E,{ text:=(qJn E.doc (qQv E.doc) nd).name }):=(by rw [z.o];unfold doR;simp [F]);subst g;clear F;have cC:Hi (∀ W,Bel l W->Calls Tryz.prog 17 #[.slice J M K] W (Rn W fun w' y=>qQa 2 qYr (·<w'.heap.size) w' y (qQv E.doc))):=lH fun W h=>(qVo l.heap.size _ E.doc W (a2.o.doc.agree fun b H=>h.block b H) h.size ok.good).mono fun _ w' ⟨a,v,b,c⟩=>⟨a,v,b,c.read⟩;have cN:Hi (∀ cv W,Bel l W->qQa 2 qYr (·<W.heap.size) W cv (qQv E.doc)->Calls Tryz.prog 16 #[.slice J M K,cv,.int .i64 nd] W (Rn W fun w' y=>∃ u v,y=.agg #[.int .i64 nd,.string ⟨(qJn E.doc (qQv E.doc) nd).name.toArray⟩,u,v])):=lH fun cv W h Z=>by
     refine (qW9 W.heap.size _ cv E.doc (qQv E.doc) nd W ((a2.o.doc.agree fun b H=>h.block b H).mono fun b H=>Zc H h.size) Z (Zb _) ok.good (fun c Z=>(qZs ok.good).2 _ ((qWk ok.good).kid c Z).1) (Za (qWy ok.good (qWk ok.good)) (by omega))).mono ?_;rintro e w' ⟨H,v,rfl,u,rfl,_⟩;exact ⟨H,_,rfl,_,_,rfl⟩
    generalize (qJn E.doc (qQv E.doc) nd).name=nm at *
    generalize qQv E.doc=ao at *
    have eC:=zHt;have eN:=zDd;have b0:=zQw;go_upto_region 20 with (go_at_call 13;(with_reducible refine cI.o.mono ?_);rintro e s ⟨rfl,rfl⟩)
    clear c1 S;have c1:=t.o.drew.cell;have S:=ae.o.drew.cell;go_region_law (first
 | (refine qZ6 rfl 17 eC #[.tmp 84] _ rfl (vs:=#[.slice J M K]) ?hv (cC.o _ (Br l).drew) ?_;(case hv=>simp [Act.eval]);rintro e w4 ⟨C,y,rfl,O⟩;refine ⟨_,rfl,?_⟩;have i:=lH (Bt (Br l).drew C);obtain ⟨xa,xc,rfl,_,_⟩:=Rf O;have ap:=lH O;clear C O;have aa:=(t.o.bel i.o).cell;have ax:=(ae.o.bel i.o).cell)
 | (refine qZ6 rfl 16 eN #[.tmp 82,.tmp 85,.tmp 87] _ rfl (vs:=#[.slice J M K,.slice xa ao.length xc,.int .i64 nd]) ?hv (cN.o _ _ i.o ap.o) ?_;(case hv=>simp [Act.eval]);rintro e w5 ⟨b5,y,rfl,u,v,rfl⟩;refine ⟨_,rfl,?_⟩;have p:=lH (Bt i.o b5);clear b5;have aw:=(t.o.bel p.o).cell;have c3:=(d.o.bel p.o).cell;have c4:=(f.o.bel p.o).cell;have T:=(d.o.bel p.o).frozen;have U:=(f.o.bel p.o).frozen))
    all_goals (go_wp2_with fail;exact qGv m.o (Bt n.o p.o) (d.o.bel p.o) (f.o.bel p.o) rfl rfl rfl rfl rfl (I.o _ p.o) ⟨_,_,rfl,qQa.nil,qQa.nil⟩)
   ·have g:R=(E,{ n:=qQd E.doc nd,text:=(kOf (qQd E.doc nd)).name }):=by rw [z.o];unfold doR;simp [F]
    subst g
    clear F
    have cR:=lH (qKa l.heap.size _ E.doc nd l a2.o.doc (Zb _) ok.good)
    generalize qQd E.doc nd=an at *
    have cK:=lH (qKt an)
    have eK:=cf_kinds
    have az:=zQs
    go_upto_region 19 with (first
 | (go_at_call 13;(with_reducible refine cI.o.mono ?_);rintro e s ⟨rfl,rfl⟩)
 | (go_at_call 14;(with_reducible refine qJ7 cR.o fun s j=>?_)))
    clear c1 S
    have c1:=(t.o.bel j.o).drew.cell
    go_region_law (first
 | (refine qZ6 rfl 15 eK #[.tmp 76] _ rfl (vs:=#[.int .i64 an]) ?hv (cK.o _) ?_;(case hv=>simp [Act.eval,Act.put]);rintro e w4 ⟨rfl,C⟩;refine ⟨_,rfl,?_⟩;have i:=lH (Bt j.o (Bt (Br s).drew C));clear C;have aa:=(t.o.bel i.o).cell;have c3:=(d.o.bel i.o).cell;have c4:=(f.o.bel i.o).cell;have T:=(d.o.bel i.o).frozen;have U:=(f.o.bel i.o).frozen))
    all_goals (go_wp2_with fail;exact qGv m.o (Bt n.o i.o) (d.o.bel i.o) (f.o.bel i.o) rfl rfl rfl rfl rfl (I.o _ i.o) ⟨_,_,rfl,qQa.nil,qQa.nil⟩)

/- What is told of a node (tree.builder.items): walked, over any function that tells names. -/
import Derived.Test.YtkhkbifdakikcaaGreatDoorTreeFn
import Derived.Outline
set_option maxRecDepth 100000
set_option maxHeartbeats 4000000
namespace Go.Proofs.YtkhkbifdakikcaaGreatDoor
open Go.RowKit
variable {d:Dc} {C:List Clm} {m q:Nat} {o:Oper} {ρ:Operand->Value} {P:Program} {t:TypeId} {cv dv fv:Value} {R:Value->World->Prop} {w w':World}
structure Bs (m q:Nat) (dv cv fv:Value) (d:Dc) (C:List Clm) (w:World):Prop where
 doc:qZh m w dv d
 clm:qQa 2 qYr (·<m) w cv C
 size:m<=w.heap.size
 c0:w.cell? ⟨q,0,none⟩=some dv
 c1:w.cell? ⟨q,1,none⟩=some cv
 c2:w.cell? ⟨q,2,none⟩=some fv
theorem Bs.kp {K:Nat->Prop} (h:Bs m q dv cv fv d C w) (k:Kp K w w') (hm:∀ b,b<m->K b) (e:K q):Bs m q dv cv fv d C w':=by
 have H:qZt (·<m) w w':=k.agree (fun b c=>⟨Zc c h.size,hm b c⟩);have a:w'.heap[q]?=w.heap[q]?:=k.block q (World.block_lt_of_cell? w _ h.c0) e;exact ⟨h.doc.agree H (fun _ _ _ r=>qDj.agree (B:=(·<m)) r H),h.clm.agree H (fun _ _ _ r=>r),Za h.size k.size,(World.cell?_of_block a).trans h.c0,(World.cell?_of_block a).trans h.c1,(World.cell?_of_block a).trans h.c2⟩
theorem Bs.bel (h:Bs m q dv cv fv d C w) (H:Bel w w'):Bs m q dv cv fv d C w':=h.kp (K:=fun _=>True) (Kp.of_bel H) (fun _ _=>trivial) trivial
structure NameOk (lim m:Nat) (d:Dc) (memo:Int->Mm) (fid:Nat) (caps:Array Value) (Inv:List Int->(Nat->Prop)->World->Prop):Prop where
 enter:∀ (args:Array Value) (w:World),(callFunc fid args).run Tryz.prog w=.ok (.enter fid args) w
 lt:∀ L X W,Inv L X W->∀ b,X b->b<W.heap.size
 keep:∀ L X W W',Inv L X W->Kp (fun b=>b<m∨X b) W W'->Inv L X W'
 call:∀ L X W n,Inv L X W->n∈shownR d->L.length+1<=lim->Calls Tryz.prog fid (#[.int .i64 n]++caps) W (fun e w'=>∃ ua un uc X',e=.returned (.agg #[.int .i64 n,.string ⟨(memo n).name.toArray⟩,.string ⟨(memo n).about.toArray⟩,.slice ua un uc])/\Inv (L++[n]) X' w'/\Kp (fun b=>¬ X b) W w'/\∀ b,X' b->X b∨W.heap.size<=b)
def ItsR (d:Dc) (C:List Clm) (memo:Int->Mm) (Inv:List Int->(Nat->Prop)->World->Prop) (L:List Int) (X:Nat->Prop) (W:World) (f:Nat) (n:Int):Ending->World->Prop:=fun e w'=>
 ∃ y X',e=.returned y/\Inv (L++qXt d C f n) X' w'/\Kp (fun b=>¬ X b) W w'/\(∀ b,X' b->X b∨W.heap.size<=b)/\ItsK (fun b=>W.heap.size<=b/\b<w'.heap.size/\¬ X' b) f w' y (itemsF d C memo f n)
def KidJ (Inv:List Int->(Nat->Prop)->World->Prop) (L:List Int) (X:Nat->Prop) (W w5:World) (f:Nat) (v:Value) (KL:List It) (wx:World):Prop:=
 ∃ X1,Inv L X1 wx/\Kp (fun b=>¬ X b) w5 wx/\(∀ b,X1 b->X b∨w5.heap.size<=b)/\KidR W X1 f wx v KL
theorem qHe {w:World} {f:Nat} {O:Array Operand} {T:Array TypeId} (b:o.op=.call {callee:=.value (.func f),args:=O,argTypes:=T } ) (a:ρ (.func f)=.func (.func f) #[] #[]) {args:Array Value} (ha:O.map ρ=args) (H:∀ (args:Array Value) (w:World),(callFunc f args).run P w=.ok (.enter f args) w)
 (h:Calls P f args w (fun e w'=>∃ v,e=.returned v/\R v w')):qW0 P R ((execOp ρ o).run P w):=by
 have e:(execOp ρ o).run P w=.ok (.enter f args) w:=by
  unfold execOp;simp [b,resolve,ha,a,go_sem,H]
 rw [e];exact h
theorem ends_len {y:Operand} (H:o.op=.call {callee:=.builtin .len,args:=#[y],argTypes:=#[t] } ) {E:TypeId} (b:P.underlying t=some (.slice E)) {a:Option Addr} {n c:Nat} (f:ρ y=.slice a n c)
 (h:R (.int .i64 (n:Int)) w):qW0 P R ((execOp ρ o).run P w):=by
 have e:(execOp ρ o).run P w=.ok (.value (.int .i64 (n:Int))) w:=by
  unfold execOp;simp [H,resolve,f,go_sem,Builtin.len_,run_underlying b]
 rw [e];exact h
theorem zJ3 (w:World):(Instr.alloc 82 true (.tuple #[])).run Tryz.prog w=.ok (.pointer (some ⟨w.heap.size,0,none⟩)) (w.alloc (.cells #[.int .i64 0,.int .i64 0,.string ⟨#[]⟩,.string ⟨#[]⟩,.int .i64 0,.int .i64 0,.bool false,.slice none 0 0] 82)):=by kernel_rfl
theorem zZq (H:o.op=.alloc t) {v:Value} (r:(Instr.alloc t true (.tuple #[])).run P w=.ok v w')
 (h:R v w'):qW0 P R ((execOp ρ o).run P w):=by
 have e:(execOp ρ o).run P w=.ok (.value v) w':=by
  unfold execOp;simp [H,r]
 rw [e];exact h
theorem cf_kids (args:Array Value) (w:World):(callFunc 103 args).run Tryz.prog w=.ok (.enter 103 args) w:=by kernel_rfl
theorem qF0 {ba:Nat} {M:Int->Mm} {Q:Nat} {J:Array Value} {Inv:List Int->(Nat->Prop)->World->Prop} (N:NameOk ba m d M Q J Inv) (g:Good d) (hC:ClmOk d C) (es:C.length<=1000)
 {μ:Int->Nat} (F:Falls (qY9 d C) μ d.length):∀ (f:Nat) (n:Int) (L:List Int) (X:Nat->Prop) (W:World),n∈shownR d->d.length<μ n+f->Inv L X W->Bs m q dv cv (.func (.func Q) #[] J) d C W->¬ X q->(∀ b,X b->m<=b)->L.length+(qXt d C f n).length<=ba ->
 Calls Tryz.prog 53 #[.pointer (some ⟨q,0,none⟩),.int .i64 n] W (ItsR d C M Inv L X W f n):=by
 intro f;induction f with
 | zero=>intro n L X W _ hf;have:=F.top n;omega
 | succ f ih=>
 intro n L X W hn hf hI hB hq cf b7;obtain ⟨p,hp,rfl,-⟩:=qQy.1 ((qZs g).2 n hn);have a2:=N.lt L X W hI;have af:Hi (∀ a,Bs m q dv cv (.func (.func Q) #[] J) d C a->Calls Tryz.prog 72 #[dv,.int .i64 (p:Int)] a (Rb (.bool (qZa d (p:Int))) a)):=lH (fun a h=>qVn m dv d (p:Int) a h.doc h.size g);have b5:Hi (∀ a,Bs m q dv cv (.func (.func Q) #[] J) d C a->Calls Tryz.prog 14 #[dv,.int .i64 (p:Int)] a (Rb (.int .i64 (qQd d (p:Int))) a)):=lH (fun a h=>qKa m dv d (p:Int) a h.doc h.size g);have b0:=lH (qKt (qQd d (p:Int)));have e3:(nd d (p:Int)).text.length<=60:=by
  obtain ⟨fw,g0⟩:=g.tree;exact (g0.ok (p:Int)).short.1
 have db:=lH (fun W=>qJf (nd d (p:Int)).text W (by omega));have s:=lH hB;have aa:=lH hI;cases hh:qZa d (p:Int) with
 | true=>
   have HR:Hi (qXt d C (f+1) (p:Int)=[]/\itemsF d C M (f+1) (p:Int)=[]):=lH (by rw [zJs,qYc,if_pos hh,if_pos hh];exact ⟨rfl,rfl⟩);rw [hh] at af;have e:=hB.c0;clear hB hI hh e3 a2 b7;go_enter Tryz.func53,Tryz.ntmps53
   go_wp2_with (go_at_call 72;(with_reducible refine qJ7 (af.o _ s.o) fun w1 B=>?_))
   go_ret;refine ⟨_,X,rfl,?_,Kp.of_bel B.o,fun b H=>.inl H,?_⟩
   ·rw [HR.o.1,List.append_nil];exact N.keep _ _ _ _ aa.o (Kp.of_bel B.o)
   ·rw [HR.o.2];exact qQa.nil
 | false=>
 rw [hh] at af;have ci:=hB.doc;obtain ⟨b,O,v,av,fu,sv,rfl,v1,v2,fa,-⟩:=ci.node p hp;have d4:Hi (∀ a,Bs m q (.slice (some ⟨b,O,none⟩) d.length v) cv (.func (.func Q) #[] J) d C a->a.cell? ⟨b,O+p*9+2,none⟩=some (.string ⟨(nd d (p:Int)).text.toArray⟩)):=lH (fun a h=>by rw [qQ2 hp];exact zH4 h.doc hp);have fg:(p:Int)<(d.length:Int):=by omega
 obtain ⟨ca,cc,rfl,dc,dd⟩:=Rf hB.clm;have e:=hB.c0;have hz:m<=W.heap.size:=hB.size;have fj:q<W.heap.size:=World.block_lt_of_cell? _ _ e;by_cases r:qQd d (p:Int)=10
 ·have HA:Hi (qXt d C (f+1) (p:Int)=[]):=lH (by rw [zJs,if_neg (by rw [hh];simp),if_pos r]);have cz:Hi (itemsF d C M (f+1) (p:Int)=if qQn (nd d (p:Int)).text=[] then [] else [.mk { node:=(p:Int),role:=10,name:=qQn (nd d (p:Int)).text } []]):=lH (by rw [qYc,if_neg (by rw [hh];simp),if_pos r]);rw [r] at b5 b0;clear hB hI hh e3 a2 ci r dc dd b7;generalize f3:qQn (nd d (p:Int)).text=sx at *
  clear f3;generalize (nd d (p:Int)).text=tx at *
  by_cases hs:sx=[]
  ·subst hs;have a0:Hi (itemsF d C M (f+1) (p:Int)=[]):=lH (by rw [cz.o,if_pos rfl]);go_enter Tryz.func53,Tryz.ntmps53
   go_wp2_with (first
 | (go_at_call 72;(with_reducible refine (af.o _ s.o).mono ?_);rintro E w1 ⟨rfl,b1⟩;have B:=lH b1;have e:=(s.o.bel B.o).c0;clear b1)
 | (go_at_call 14;(with_reducible refine (b5.o _ (s.o.bel B.o)).mono ?_);rintro E w2 ⟨rfl,b2⟩;have B:=lH (Bt B.o b2);have e:=(s.o.bel B.o).c0;clear b2)
 | (go_at_call 15;(with_reducible refine (b0.o _).mono ?_);rintro E w3 ⟨rfl,b3⟩;have B:=lH (Bt B.o b3);have e:=(s.o.bel B.o).c0;have t2:=d4.o _ (s.o.bel B.o);have q3:=World.block_lt_of_cell? _ _ e;have q4:=World.block_lt_of_cell? _ _ t2;clear b3)
 | (go_at_call 68;(with_reducible refine (db.o _).mono ?_);rintro E w4 ⟨rfl,b4⟩;have B:=lH (Bt (B.o.alloc _) b4);clear b4))
   go_ret
   refine ⟨_,X,rfl,?_,Kp.of_bel B.o,fun b H=>.inl H,?_⟩
   ·rw [HA.o,List.append_nil]
    exact N.keep _ _ _ _ aa.o (Kp.of_bel B.o)
   ·rw [a0.o]
    exact qQa.nil
  ·have fm:sx.isEmpty=false:=by cases sx <;> simp_all
   have fp:(({ data:=sx.toArray }:ByteArray)=={ data:=#[] })=false:=by
    have:=qFv sx [];rw [show (({ data:=#[] }:ByteArray))=⟨([]:List UInt8).toArray⟩ from rfl,this];simpa using hs
   have fq:(sx==[])=false:=by simpa using hs
   have a0:Hi (itemsF d C M (f+1) (p:Int)=[.mk { node:=(p:Int),role:=10,name:=sx } []]):=lH (by rw [cz.o,if_neg hs])
   go_enter Tryz.func53,Tryz.ntmps53
   go_wp2_with (first
 | (go_at_call 72;(with_reducible refine (af.o _ s.o).mono ?_);rintro E w1 ⟨rfl,b1⟩;have B:=lH b1;have e:=(s.o.bel B.o).c0;clear b1)
 | (go_at_call 14;(with_reducible refine (b5.o _ (s.o.bel B.o)).mono ?_);rintro E w2 ⟨rfl,b2⟩;have B:=lH (Bt B.o b2);have e:=(s.o.bel B.o).c0;clear b2)
 | (go_at_call 15;(with_reducible refine (b0.o _).mono ?_);rintro E w3 ⟨rfl,b3⟩;have B:=lH (Bt B.o b3);have e:=(s.o.bel B.o).c0;have t2:=d4.o _ (s.o.bel B.o);have q3:=World.block_lt_of_cell? _ _ e;have q4:=World.block_lt_of_cell? _ _ t2;clear b3)
 | (go_at_call 68;(with_reducible refine (db.o _).mono ?_);rintro E w4 ⟨rfl,b4⟩;have B:=lH (Bt (B.o.alloc _) b4);clear b4))
   go_ret
   have dh:=B.o.alloc (.cells #[.int .i64 (p:Int),.int .i64 10,.string ⟨sx.toArray⟩,.string ⟨#[]⟩,.int .i64 0,.int .i64 0,.bool false,.slice none 0 0] 82)
   refine ⟨_,X,rfl,?_,Kp.of_bel dh,fun b H=>.inl H,?_⟩
   ·rw [HA.o,List.append_nil]
    exact N.keep _ _ _ _ aa.o (Kp.of_bel dh)
   ·rw [a0.o]
    refine zVe (kv:=.slice none 0 0) qQa.nil w4.heap.size ⟨B.o.size,by simp,fun c=>?_⟩ (Blk.new' w4 _ rfl _ _)
    have:=N.lt _ _ _ aa.o _ c
    have:=B.o.size
    omega
 have fk:(qQd d (p:Int)==10)=false:=by simpa using r
 have cy:=lH ih;have be:=zGa g hC M F hn hf;have c5:Hi (∀ a,Bs m q (.slice (some ⟨b,O,none⟩) d.length v) (.slice ca C.length cc) (.func (.func Q) #[] J) d C a->Calls Tryz.prog 103 #[.slice (some ⟨b,O,none⟩) d.length v,.slice ca C.length cc,.int .i64 (p:Int)] a (Rn a fun w' cl=>qQb 1 qQf a.heap.size 3 w' cl (qQp d C (p:Int)))):=lH (fun a h=>qBd m _ _ d C (p:Int) a h.doc h.clm h.size g es);have c0:Hi (∀ bl∈qQp d C (p:Int),bl∈shownR d/\d.length<μ bl+f):=lH (fun bl hk=>⟨qX8 g hC hn hk,by have:=F.down (p:Int) bl (by rw [zJe hn];exact hk);omega⟩);obtain ⟨AL,bh⟩:∃ x,x=if qBi d (p:Int) then [] else (qQp d C (p:Int)).flatMap (qXt d C f):=⟨_,rfl⟩
 obtain ⟨K,bk⟩:∃ x,x=if qBi d (p:Int) then [] else (qQp d C (p:Int)).flatMap (itemsF d C M f):=⟨_,rfl⟩
 have ap:Hi (qXt d C (f+1) (p:Int)=AL++(if (qQd d (p:Int)=0∨qQd d (p:Int)=18)/\(p:Int)≠0 then [] else if (kOf (qQd d (p:Int))).named then [(p:Int)] else [])):=lH (by rw [zJs,if_neg (by rw [hh];simp),if_neg r,bh]);have bw:Hi (itemsF d C M (f+1) (p:Int)=if (qQd d (p:Int)=0∨qQd d (p:Int)=18)/\(p:Int)≠0 then K else [.mk (zX5 d C M (p:Int)) K]):=lH (by rw [qYc,if_neg (by rw [hh];simp),if_neg r,bk]);have bf:=lH (show L.length+(AL.length+(if (qQd d (p:Int)=0∨qQd d (p:Int)=18)/\(p:Int)≠0 then [] else if (kOf (qQd d (p:Int))).named then [(p:Int)] else []).length)<=ba by rw [ap.o,Zj] at b7;exact b7);clear b7;unfold qBi at bh bk;have a8:=lH bh;have a4:=lH bk;clear bh bk ih hB hI ci dc dd;have d6:Hi (∀ b,X b->b<W.heap.size):=lH a2;clear a2;generalize e0:kOf (qQd d (p:Int))=kk at *
 have ef:=lH e0;clear e0;obtain ⟨bp,bn,b9,bo,bm,a5,bq⟩:=kk;simp only at a8 a4 ap bf;obtain ⟨T,dn⟩:∃ x,x=qQp d C (p:Int):=⟨_,rfl⟩;rw [<- dn] at c0 c5 a8 a4 be;clear dn;go_enter Tryz.func53,Tryz.ntmps53
 go_upto_if 49 with (first
 | (go_at_call 72;(with_reducible refine (af.o _ s.o).mono ?_);rintro E w1 ⟨rfl,b1⟩;have B:=lH b1;have e:=(s.o.bel B.o).c0;clear b1)
 | (go_at_call 14;(with_reducible refine (b5.o _ (s.o.bel B.o)).mono ?_);rintro E w2 ⟨rfl,b2⟩;have B:=lH (Bt B.o b2);have e:=(s.o.bel B.o).c0;clear b2)
 | (go_at_call 15;(with_reducible refine qQe (b0.o _) B fun w3 B=>?_)))
 have dl:=Blk.new' w3 w3.heap.size rfl #[.string ⟨bp.toArray⟩,.bool bn,.bool b9,.bool bo,.bool bm,.bool a5,.int .i64 bq] 57;have aj:Hi (Bel W (w3.alloc (.cells #[.string ⟨bp.toArray⟩,.bool bn,.bool b9,.bool bo,.bool bm,.bool a5,.int .i64 bq] 57))):=lH (B.o.alloc _);have eb:Hi (W.heap.size<=w3.heap.size):=lH B.o.size;clear af b5 b0;generalize (w3.alloc (.cells #[.string ⟨bp.toArray⟩,.bool bn,.bool b9,.bool bo,.bool bm,.bool a5,.int .i64 bq] 57))=w5 at *
 generalize w3.heap.size=g6 at *
 have ax:=lH dl;have ae:=lH (s.o.bel aj.o);clear dl B e;go_cut [8] from 50 to 70 (fun bb wx=>KidJ Inv (L++AL) X W w5 f bb K wx)
 case first=>
  cases b9 with
  | true=>
    rw [if_pos rfl] at a8 a4;go_wp2;go_meet
    refine ⟨X,?_,Kp.refl _ _,fun b H=>.inl H,?_⟩
    ·rw [a8.o,List.append_nil];exact N.keep _ _ _ _ aa.o (Kp.of_bel aj.o)
    ·rw [a4.o];exact KidR.nil _ _ _ _
  | false=>
    rw [if_neg (by simp)] at a8 a4;obtain rfl:=a8.o;obtain rfl:=a4.o;clear a8 a4;go_upto_region 12 with (fail)
    refine qQ6 [0,1,2,3,4,5,6,7,8,11] [(9,some 59,[]),(10,some 60,[9])] [] (fun x w=>Bel w5 w/\(∀ u,x 9=some u->qQb 1 qQf w5.heap.size 3 w u T)/\∀ u,x 10=some u->u=.int .i64 (T.length:Int)) (by kernel_rfl) (by kernel_rfl) ⟨(Br w5).drew,(fun u h=>by cases h),(fun u h=>by cases h)⟩ ?_;simp only [pickL,List.map_cons,List.map_nil,List.filterMap_cons,List.filterMap_nil,Zd,Ze];iterate 10 (refine qZp.cons (v:=?_) (fun _=>Says.plain ?_ ?_) ?_;rotate_left;rfl;(intro w' S;have e:=(ae.o.bel S.1).c0;have c1:=(ae.o.bel S.1).c1;clear S;go_simp;with_reducible rfl);simp only [Act.put,Zh,Zf,Zg])
    refine qZp.nil ⟨by simp,⟨?_,?_,trivial⟩,?_⟩
    ·intro x ρ w c hn r i;refine qHe rfl (r.1 _ (fun _ _ _ _ h=>by cases h)) (args:=#[.slice (some ⟨b,O,none⟩) d.length v,.slice ca C.length cc,.int .i64 (p:Int)]) ?_ cf_kids ((c5.o w (ae.o.bel i.1)).mono ?_)
     ·simp only [List.map_toArray,List.map_cons,List.map_nil];rw [r.1 (.tmp 53) (by simp),r.1 (.tmp 57) (by simp),r.1 (.tmp 58) (by simp)];rfl
     ·rintro a1 w' ⟨H,bb,rfl,ho⟩;exact ⟨bb,rfl,Bt i.1 H,(fun u l=>by rw [qQj] at l;cases l;exact ho.base_le i.1.size),fun u l=>i.2.2 u (by rw [qQm _ (by decide)] at l;exact l)⟩
    ·intro x ρ w c hn r i;obtain ⟨u,l⟩:=hn 9 (by simp);have hO:=i.2.1 u l;obtain ⟨ta,tc,rfl,_,_⟩:=Rf hO.read;refine ends_len rfl qJg.und (r.2 (9,some 59,[]) (by simp) 59 _ rfl l) ⟨i.1,(fun u b8=>i.2.1 u (by rw [qQm _ (by decide)] at b8;exact b8)),fun u b8=>by rw [qQj] at b8;cases b8;rfl⟩
    ·intro az w6 i;obtain ⟨dg,hU,dq⟩:=i;have hO:=hU (az 9) rfl;have e1:az 10=.int .i64 (T.length:Int):=dq _ rfl;simp only [List.foldl_cons,List.foldl_nil,Zh,Zf,Zg];rw [e1];clear hU dq e1;generalize az 9=tv at *
     obtain ⟨ta,tc,rfl,t1,t2⟩:=Rf hO.read;have aq:=lH dg;have HT:=lH hO;clear dg hO;go_wp2;have f6:=lH (ax.o.bel aq.o);have ea:=lH (ae.o.bel aq.o);have ed:Hi (Inv L X w6):=lH (N.keep _ _ _ _ aa.o (Kp.of_bel (Bt aj.o aq.o)));have fr:=aq.o.size;have f0:=aj.o.size;clear ax ae s aa;go_loopw [61,8] (fun ag bb wr=>∃ (j:Nat) (Xj:Nat->Prop),j<=T.length/\ag=.int .i64 j/\Inv (L++(T.take j).flatMap (qXt d C f)) Xj wr/\Kp (fun b=>¬ X b) w6 wr/\(∀ b,Xj b->X b∨w6.heap.size<=b)/\KidR w6 Xj f wr bb ((T.take j).flatMap (itemsF d C M f))) (fun ag _ _=>T.length - (intOf ag).toNat)
     case atStart=>exact ⟨0,X,by omega,rfl,by simpa using ed.o,Kp.refl _ _,fun b H=>.inl H,by simpa using KidR.nil _ _ _ _⟩
     case round=>
      obtain ⟨j,Xj,hj,rfl,dk,cd,dr,cb⟩:=hrel;have bv:=lH dk;have bd:=lH cd;have ay:=lH dr;have ab:=lH cb;obtain ⟨va,vc,rfl,v3,v4⟩:=Rf cb.own.row;generalize ((T.take j).flatMap (itemsF d C M f)).length=vn at *
      have ft:=cd.size;clear dk cd dr cb;by_cases a2:j<T.length
      ·have ce:qQa 1 qQf (fun _=>True) wr (.slice ta T.length tc) T:=(HT.o.row.agree (bd.o.agree (fun b H=>⟨H.2.1,fun c=>by have:=d6.o b c;have:=H.1;omega⟩)) (fun _ _ _ h=>h)).mono (fun _ _=>trivial) (fun _ _ _ h=>h);obtain ⟨tb,g1,fy,_,E,_,_,_,_⟩:=qQa.elem ce j a2;simp at E;obtain ⟨rfl,rfl⟩:=E;have cx:=ce.int_cell j a2;obtain ⟨ks,kf⟩:=c0.o T[j] (Zl a2);have co:=lH (zKr (qXt d C f) T a2);have cp:=lH (zKr (itemsF d C M f) T a2);have er:Bs m q (.slice (some ⟨b,O,none⟩) d.length v) (.slice ca C.length cc) (.func (.func Q) #[] J) d C wr:=ea.o.kp bd.o (fun b H c=>by have:=cf b c;omega) hq;have e2:(L++(T.take j).flatMap (qXt d C f)).length+(qXt d C f T[j]).length<=ba:=by
        have h1:=bf.o;have h2:=qGc (qXt d C f) T (j+1);rw [co.o,Zj] at h2;rw [Zj];omega
       have en:=lH (cy.o T[j] _ Xj wr ks kf bv.o er (fun c=>(ay.o q c).elim hq (fun h=>by omega)) (fun b H=>(ay.o b H).elim (cf b) (fun h=>by omega)) e2);clear e2;have ey:((T.take (j+1)).flatMap (itemsF d C M f)).length<=60:=Za (qGc _ _ _) be;rw [cp.o,Zj] at ey;clear ce ks kf;generalize et:itemsF d C M f T[j]=IX at *
       generalize ep:qXt d C f T[j]=AX at *
       generalize (T.take j).flatMap (itemsF d C M f)=IL at *
       generalize (T.take j).flatMap (qXt d C f)=f4 at *
       go_wp2_with (first
 | (go_at_call 53;(with_reducible refine en.o.mono ?_);rintro e7 w7 ⟨y7,X7,rfl,i7,k7,x7,r7⟩;rw [et] at r7;rw [ep] at i7;obtain ⟨ya,yc,rfl,y1,y2⟩:=Rf r7;have cw:=lH i7;have ee:=lH k7;have em:=lH x7;have ek:=lH r7;have bc:=lH (ab.o.kp k7 x7);have fs:=k7.size;clear i7 k7 x7 r7)
 | (at_builtin;go_must (refine qZe rfl _ _ _ rfl qB4 (by decide) rfl bc.o.own rfl (KidR.src ek.o (fun b H=>(ab.o.own.lt b H).2) (by omega)) (fun cs cl _ h=>h.one) ?hby ?hmx (by omega) (fun w' hg cs cl _ r=>KidR.keep hg r) ?_);(case hby=>omega);(case hmx=>omega);intro v8 w8 o8 g8 _ f8;have eg:=lH (bc.o.more (N.lt _ _ _ cw.o) o8 g8 f8);have cq:=lH g8;clear o8 g8 f8))
       have ei:=lH bc.o.off
       have d1:=lH bc.o.own.lt
       go_roundw
       case rel=>
        refine ⟨j+1,X7,by omega,by go_num,?_,?_,?_,?_⟩
        ·rw [co.o,<- List.append_assoc];exact N.keep _ _ _ _ cw.o (Kp.of_grown cq.o (fun b H hK a1=>by
          rcases hK with h | h
          ·have:=(d1.o b a1.symm).1;omega
          ·exact ei.o b a1.symm h))
        ·refine (bd.o.trans ee.o (fun b H c hj=>(ay.o b hj).elim c (fun h=>by omega))).trans (Kp.of_grown (K:=fun b=>b<w6.heap.size) cq.o (fun b _ hK a1=>by have:=(d1.o b a1.symm).1;omega)) (fun b H _=>H)
        ·intro b H;rcases em.o b H with h | h
         ·exact ay.o b h
         ·exact .inr (by omega)
        ·rw [cp.o];exact eg.o
       case measure=>simp [intOf];omega
      ·have dp:T.take j=T:=Zn (by omega)
       rw [dp] at bv ab
       clear dp
       go_wp2
       go_meet
       exact ⟨Xj,bv.o,(Kp.of_bel aq.o).trans bd.o (fun _ _ h=>h),fun b H=>(ay.o b H).imp id (fun h=>by omega),ab.o.base (wy:=W) (by omega)⟩
 case rest=>
 obtain ⟨X1,c7,b6,e4,cg⟩:=hcut;have fe:=b6.size;have f0:=aj.o.size;have bt:=lH c7;have aw:Hi (Kp (fun b=>¬ X b) W wc):=lH ((Kp.of_bel aj.o).trans b6 (fun _ _ h=>h));have bg:Hi (∀ b,X1 b->X b∨W.heap.size<=b):=lH (fun b H=>(e4 b H).imp id (fun h=>by omega));have ab:=lH cg;have ew:g6<w5.heap.size:=ax.o.lt;have d0:Hi (Blk wc g6 [.string ⟨bp.toArray⟩,.bool bn,.bool b9,.bool bo,.bool bm,.bool a5,.int .i64 bq] 57):=lH (ax.o.of (b6.block g6 ew (fun c=>by have:=d6.o _ c;have:=eb.o;omega)));have ak:Hi (Bs m q (.slice (some ⟨b,O,none⟩) d.length v) (.slice ca C.length cc) (.func (.func Q) #[] J) d C wc):=lH (ae.o.kp b6 (fun b H c=>by have:=cf b c;omega) hq);have d5:Hi (∀ b,X1 b->b<wc.heap.size):=lH (N.lt _ _ _ c7);obtain ⟨va,vc,rfl,g2,g3⟩:=Rf cg.own.row;have f7:Hi (K.length<=60):=lH (by rw [a4.o];split;exact Nat.zero_le _;exact be);clear c7 b6 e4 cg ax ae aa a8 a4 c0 cy c5 be s;generalize wc=w9 at *
 by_cases y:(qQd d (p:Int)=0∨qQd d (p:Int)=18)/\(p:Int)≠0
 ·have ah:Hi (qXt d C (f+1) (p:Int)=AL):=lH (by rw [ap.o,if_pos y,List.append_nil]);have a0:Hi (itemsF d C M (f+1) (p:Int)=K):=lH (by rw [bw.o,if_pos y]);obtain ⟨U | U,k⟩:=y;all_goals
   have an:((p:Int)==0)=false:=by simpa using k
   have fh:decide ((p:Int)=0)=false:=by simpa using k
   rw [U]
   go_wp2
   go_ret
   refine ⟨_,X1,rfl,ah.o▸bt.o,aw.o,bg.o,?_⟩
   rw [a0.o]
   exact ab.o.its.le (Nat.le_succ _)
 ·have ah:Hi (qXt d C (f+1) (p:Int)=AL++(if a5 then [(p:Int)] else [])):=lH (by rw [ap.o,if_neg y]);have eh:Hi (L.length+(AL.length+(if a5 then [(p:Int)] else []).length)<=ba):=lH (by have:=bf.o;rw [if_neg y] at this;exact this);clear bf;have a0:Hi (itemsF d C M (f+1) (p:Int)=[.mk (zX5 d C M (p:Int)) K]):=lH (by rw [bw.o,if_neg y]);obtain ⟨Z,ao⟩:∃ x,x=if qQd d (p:Int)=0∨qQd d (p:Int)=18 then 2 else qQd d (p:Int):=⟨_,rfl⟩
  have au:Hi (zX5 d C M (p:Int)={ node:=(p:Int),role:=Z,name:=if a5 then (M (p:Int)).name else [],about:=if a5 then (M (p:Int)).about else [],level:=qBe d C (p:Int),checked:=qK8 d (p:Int),off:=decide (qKd (sq d (p:Int) qVq)=qGx) }):=lH (by unfold zX5;rw [ef.o,ao]);clear ap bw;have d7:Hi (∀ a,Bs m q (.slice (some ⟨b,O,none⟩) d.length v) (.slice ca C.length cc) (.func (.func Q) #[] J) d C a->Calls Tryz.prog 39 #[.slice (some ⟨b,O,none⟩) d.length v,.int .i64 (p:Int),.string ⟨#[97,114,105,97,45,100,105,115,97,98,108,101,100]⟩] a (Rb (.tuple #[.string ⟨(said d (p:Int) qVq).toArray⟩,.bool (hasA d (p:Int) qVq)]) a)):=lH (fun a h=>qZv m _ d (p:Int) qVq a h.doc h.size);have da:Hi (∀ a,Bs m q (.slice (some ⟨b,O,none⟩) d.length v) (.slice ca C.length cc) (.func (.func Q) #[] J) d C a->Calls Tryz.prog 104 #[.slice (some ⟨b,O,none⟩) d.length v,.slice ca C.length cc,.int .i64 (p:Int)] a (Rb (.int .i64 (qBe d C (p:Int))) a)):=lH (fun a h=>qDk m _ _ d C (p:Int) a h.doc h.clm h.size g hC);have d8:Hi (∀ a,Bs m q (.slice (some ⟨b,O,none⟩) d.length v) (.slice ca C.length cc) (.func (.func Q) #[] J) d C a->Calls Tryz.prog 105 #[.slice (some ⟨b,O,none⟩) d.length v,.int .i64 (p:Int)] a (Rb (.int .i64 (qK8 d (p:Int))) a)):=lH (fun a h=>qH2 m _ d (p:Int) a h.doc h.size g);have f1:=qJp g (p:Int) qVq;have c6:=lH (fun W=>qJf (said d (p:Int) qVq) W (by omega));have f2:=zG0 g (p:Int) qVq;have d9:=lH (fun W=>qBh (sq d (p:Int) qVq) W (by omega));have d3:Hi (qQn (said d (p:Int) qVq)=sq d (p:Int) qVq):=lH rfl;rw [d3.o] at c6;clear d3 f1 f2;go_upto_region 17 with fail
  go_cut [80] from 71 to 79 (fun ag wx=>ag=.bool (decide ((p:Int)=0/\(qQd d (p:Int)=0∨qQd d (p:Int)=18)))/\wx=w9)
  case first=>
   by_cases k:(p:Int)=0
   ·have an:((p:Int)==0)=true:=(by simpa using k);have hb1:decide ((p:Int)=0)=true:=(by simpa using k);have d2:=lH k;clear k y;by_cases U:qQd d (p:Int)=0
    ·have ds:(qQd d (p:Int)==0)=true:=(by simpa using U);have dt:decide (qQd d (p:Int)=0)=true:=(by simpa using U);have HV:Hi (decide ((p:Int)=0/\(qQd d (p:Int)=0∨qQd d (p:Int)=18))=true):=lH (decide_eq_true ⟨d2.o,.inl U⟩);clear U;go_wp2;go_meet
     exact ⟨congrArg Value.bool HV.o.symm,rfl⟩
    ·have ds:(qQd d (p:Int)==0)=false:=(by simpa using U);have dt:decide (qQd d (p:Int)=0)=false:=(by simpa using U);have HV:Hi (decide ((p:Int)=0/\(qQd d (p:Int)=0∨qQd d (p:Int)=18))=(qQd d (p:Int)==18)):=lH (Bool.eq_iff_iff.2 (by simp only [decide_eq_true_eq,beq_iff_eq];exact ⟨fun h=>h.2.resolve_left U,fun h=>⟨d2.o,.inr h⟩⟩));clear U;go_wp2;go_meet
     exact ⟨congrArg Value.bool HV.o.symm,rfl⟩
   ·have an:((p:Int)==0)=false:=(by simpa using k);have hb1:decide ((p:Int)=0)=false:=(by simpa using k);have HV:Hi (decide ((p:Int)=0/\(qQd d (p:Int)=0∨qQd d (p:Int)=18))=false):=lH (decide_eq_false (fun h=>k h.1));clear k y;go_wp2;go_meet
    exact ⟨congrArg Value.bool HV.o.symm,rfl⟩
  case rest=>
  obtain ⟨rfl,rfl⟩:=hcut;go_upto_if 80 with fail
  go_cut [5,80] from 81 to 86 (fun ag _ wx=>ag=.int .i64 Z/\wx=wc)
  case first=>
   by_cases Y:qQd d (p:Int)=0∨qQd d (p:Int)=18
   ·rw [if_pos Y] at ao;have k:(p:Int)=0:=Classical.byContradiction (fun h=>y ⟨Y,h⟩);have an:decide ((p:Int)=0/\(qQd d (p:Int)=0∨qQd d (p:Int)=18))=true:=decide_eq_true ⟨k,Y⟩;subst ao;clear y k Y;rw [an];go_wp2;go_meet
    exact ⟨rfl,rfl⟩
   ·rw [if_neg Y] at ao;have an:decide ((p:Int)=0/\(qQd d (p:Int)=0∨qQd d (p:Int)=18))=false:=decide_eq_false (fun h=>Y h.2);subst ao;have ds:(qQd d (p:Int)==0)=false:=(by simpa using fun h=>Y (.inl h));have fb:(qQd d (p:Int)==18)=false:=(by simpa using fun h=>Y (.inr h));have dt:decide (qQd d (p:Int)=0)=false:=(by simpa using fun h=>Y (.inl h));have fc:decide (qQd d (p:Int)=18)=false:=(by simpa using fun h=>Y (.inr h));clear y Y;rw [an];go_wp2;go_meet
    exact ⟨rfl,rfl⟩
  case rest=>
  obtain ⟨rfl,rfl⟩:=hcut;clear y ao;have fi:q<wc.heap.size:=World.block_lt_of_cell? _ _ ak.o.c0;have e:=ak.o.c0;go_upto_region 22 with (go_at_call 39;(with_reducible refine (d7.o _ ak.o).mono ?_);rintro E ck ⟨rfl,c4⟩;have bs:=lH c4;have ar:=lH (ak.o.bel c4);clear c4)
  generalize sq d (p:Int) qVq=cj at *
  generalize said d (p:Int) qVq=fx at *
  generalize hasA d (p:Int) qVq=f9 at *
  generalize qBe d C (p:Int)=a6 at *
  generalize qK8 d (p:Int)=chk at *
  obtain ⟨a3,ch⟩:∃ x,x=decide (qKd cj=qGx):=⟨_,rfl⟩;have ej:Hi ((qKd cj==[116,114,117,101])=a3):=lH (by rw [ch,Bool.eq_iff_iff,beq_iff_eq,decide_eq_true_eq];rfl);rw [<- ch] at au;clear ch;generalize qKd cj=lw at *
  clear e;refine qQ6 [0,1,2,3,4,5,6,7,8,9,10,11,12,13,14,15,16,17,18,19,20,21,22,23] [(24,some 13,[])] [25] (fun x w=>Bel ck w/\∀ u,x 24=some u->∃ G,u=.pointer (some ⟨G,0,none⟩)/\ck.heap.size<=G/\Blk w G [.int .i64 0,.int .i64 0,.string ⟨#[]⟩,.string ⟨#[]⟩,.int .i64 0,.int .i64 0,.bool false,.slice none 0 0] 82) (by kernel_rfl) (by kernel_rfl) ⟨(Br ck).drew,fun u h=>by cases h⟩ ?_;simp only [pickL,List.map_cons,List.map_nil,List.filterMap_cons,List.filterMap_nil,Zd,Ze];iterate 24 (first
 | (refine qZp.cons (v:=?_) (fun _=>Says.plain ?_ ?_) ?_;rotate_left;rfl;(intro w' S;have e:=(ar.o.bel S.1).c0;have c1:=(ar.o.bel S.1).c1;have ff:=ej.o;clear S;go_simp;with_reducible rfl);simp only [Act.put,Zh,Zf,Zg])
 | (refine qZp.cons (v:=?_) (fun _=>Says.call (f:=?_) (args:=?_) ?_ ?_ ?_) ?_;rotate_left 3;rfl;(intro w';go_simp;constructor <;> with_reducible rfl);(intro w' S;(first | (with_reducible refine Calls.mono (da.o _ (ar.o.bel S.1)) ?_) | (with_reducible refine Calls.mono (d8.o _ (ar.o.bel S.1)) ?_) | (with_reducible refine Calls.mono (c6.o _) ?_) | (with_reducible refine Calls.mono (d9.o _) ?_));rintro a1 g4 ⟨rfl,H⟩;refine ⟨?_,Bt S.1 H,fun u l=>?_⟩;(with_reducible rfl);(obtain ⟨G,h1,h2,h3⟩:=S.2 u l;exact ⟨G,h1,h2,h3.bel H⟩));simp only [Act.put,Zh,Zf,Zg]))
  refine qZp.nil ⟨by simp,⟨?_,trivial⟩,?_⟩
  ·intro x ρ w c hn r i
   refine zZq rfl (zJ3 w) ⟨i.1.alloc _,fun u l=>?_⟩
   rw [qQj] at l
   cases l
   exact ⟨_,rfl,i.1.size,Blk.new' w _ rfl _ _⟩
  ·intro az a7 i
   obtain ⟨df,hU⟩:=i
   obtain ⟨G,de,dy,V⟩:=hU (az 24) rfl
   clear hU
   simp only [List.foldl_cons,List.foldl_nil,Zh,Zf,Zg]
   rw [de]
   clear de
   have n0:a7.cell? ⟨G,0,none⟩=some (.int .i64 0):=V.cell 0
   have n1:a7.cell? ⟨G,1,none⟩=some (.int .i64 0):=V.cell 1
   have n2:a7.cell? ⟨G,2,none⟩=some (.string ⟨#[]⟩):=V.cell 2
   have n3:a7.cell? ⟨G,3,none⟩=some (.string ⟨#[]⟩):=V.cell 3
   have n4:a7.cell? ⟨G,4,none⟩=some (.int .i64 0):=V.cell 4
   have n5:a7.cell? ⟨G,5,none⟩=some (.int .i64 0):=V.cell 5
   have n6:a7.cell? ⟨G,6,none⟩=some (.bool false):=V.cell 6
   have n7:a7.cell? ⟨G,7,none⟩=some (.slice none 0 0):=V.cell 7
   have fz:∀ j,a7.frozen? ⟨G,j,none⟩=false:=fun j=>V.frozen j
   have cr:=lH V
   have cm:=lH (Bt bs.o df)
   have ac:wc.heap.size<=G:=Za bs.o.size dy
   clear V df dy
   go_upto_region 23 with fail
   refine qQt (E:=fun a=>Blk a G (qQi ⟨(p:Int),Z,[],[],a6,chk,a3⟩ (.slice va K.length vc)) 82/\Bel wc a) ⟨(((((((cr.o.set 0 _).set 1 _).set 2 _).set 3 _).set 4 _).set 5 _).set 6 _).set 7 _,((((((((cm.o.setCell G 0 _ ac).setCell G 1 _ ac).setCell G 2 _ ac).setCell G 3 _ ac).setCell G 4 _ ac).setCell G 5 _ ac).setCell G 6 _ ac).setCell G 7 _ ac)⟩ ?_
   clear n0 n1 n2 n3 n4 n5 n6 n7 fz cr cm bs ar d7 da d8 c6 d9
   rintro z ⟨di,bi⟩
   have I:=lH di
   have ai:=lH bi
   have n5:=(d0.o.bel bi).cell 5
   simp at n5
   have cn:=lH (ak.o.bel bi)
   clear di bi d0 ak
   have m0:z.cell? ⟨G,0,none⟩=some (.int .i64 (p:Int)):=I.o.cell 0
   have m1:z.cell? ⟨G,1,none⟩=some (.int .i64 Z):=I.o.cell 1
   have m2:z.cell? ⟨G,2,none⟩=some (.string ⟨([]:Txt).toArray⟩):=I.o.cell 2
   have m3:z.cell? ⟨G,3,none⟩=some (.string ⟨([]:Txt).toArray⟩):=I.o.cell 3
   have m4:z.cell? ⟨G,4,none⟩=some (.int .i64 a6):=I.o.cell 4
   have m5:z.cell? ⟨G,5,none⟩=some (.int .i64 chk):=I.o.cell 5
   have m6:z.cell? ⟨G,6,none⟩=some (.bool a3):=I.o.cell 6
   have m7:z.cell? ⟨G,7,none⟩=some (.slice va K.length vc):=I.o.cell 7
   cases a5 with
   | false=>
     have br:Hi (qXt d C (f+1) (p:Int)=AL):=lH (by rw [ah.o,if_neg (by simp),List.append_nil]);have bu:Hi (itemsF d C M (f+1) (p:Int)=[.mk ⟨(p:Int),Z,[],[],a6,chk,a3⟩ K]):=lH (by rw [a0.o,au.o,if_neg (by simp),if_neg (by simp)]);clear ah a0 au;go_wp2;go_ret;have am:=ai.o.alloc (.cells #[.int .i64 (p:Int),.int .i64 Z,.string ⟨([]:Txt).toArray⟩,.string ⟨([]:Txt).toArray⟩,.int .i64 a6,.int .i64 chk,.bool a3,.slice va K.length vc] 82);refine ⟨_,X1,rfl,?_,aw.o.trans (Kp.of_bel (K:=fun b=>¬ X b) am) (fun _ _ h=>h),bg.o,?_⟩
     ·rw [br.o];exact N.keep _ _ _ _ bt.o (Kp.of_bel am)
     ·rw [bu.o];refine zVe ((ab.o.its.agree (fun b H=>am.block b H.2.1)).mono (fun b H=>⟨H.1,Zc H.2.1 am.size,H.2.2⟩)) z.heap.size ⟨?_,by simp,fun c=>?_⟩ (Blk.new' z _ rfl _ _)
      ·have:=ai.o.size;have:=aw.o.size;omega
      ·have:=d5.o _ c;have:=ai.o.size;omega
   | true=>
     have c2:=cn.o.c2;have ec:Hi (Inv (L++AL) X1 z):=lH (N.keep _ _ _ _ bt.o (Kp.of_bel ai.o));have ev:=N.enter;have br:Hi (qXt d C (f+1) (p:Int)=AL++[(p:Int)]):=lH (by rw [ah.o,if_pos rfl]);have bu:Hi (itemsF d C M (f+1) (p:Int)=[.mk ⟨(p:Int),Z,(M (p:Int)).name,(M (p:Int)).about,a6,chk,a3⟩ K]):=lH (by rw [a0.o,au.o,if_pos rfl,if_pos rfl]);have eo:=lH (N.call _ _ _ (p:Int) ec.o hn (by have:=eh.o;rw [if_pos rfl,List.length_singleton] at this;rw [Zj];omega));clear ah a0 au;generalize (M (p:Int)).name=mn at *
     generalize (M (p:Int)).about=ma at *
     go_upto_region 25 with ((with_reducible refine eo.o.mono ?_);rintro E A ⟨ua,un,uc,X2,rfl,e5,e6,e8⟩;have cu:=lH e5;have bx:=lH e6;have c3:=lH e8;clear e5 e6 e8)
     have ex:G<z.heap.size:=I.o.lt;have dw:¬ X1 G:=fun c=>by have:=d5.o _ c;omega
     have bj:Blk A G (qQi ⟨(p:Int),Z,[],[],a6,chk,a3⟩ (.slice va K.length vc)) 82:=I.o.of (bx.o.block G ex dw);have fo:=bx.o.size;have al:=lH (bj.below (Below.alloc (Below.refl A.heap.size A) (Zb _) (.cells #[.int .i64 (p:Int),.string ⟨mn.toArray⟩,.string ⟨ma.toArray⟩,.slice ua un uc] 60)) bj.lt);have bz:=lH (Blk.new' A A.heap.size rfl #[.int .i64 (p:Int),.string ⟨mn.toArray⟩,.string ⟨ma.toArray⟩,.slice ua un uc] 60);have e9:=lH ((Br A).alloc (.cells #[.int .i64 (p:Int),.string ⟨mn.toArray⟩,.string ⟨ma.toArray⟩,.slice ua un uc] 60));have dx:(A.alloc (.cells #[.int .i64 (p:Int),.string ⟨mn.toArray⟩,.string ⟨ma.toArray⟩,.slice ua un uc] 60)).heap.size=A.heap.size+1:=(by simp);have fd:G<A.heap.size:=bj.lt;clear bj ev m0 m1 m2 m3 m4 m5 m6 m7 c2 n5 cn;generalize (A.alloc (.cells #[.int .i64 (p:Int),.string ⟨mn.toArray⟩,.string ⟨ma.toArray⟩,.slice ua un uc] 60))=ad at *
     generalize dz:A.heap.size=gm at *
     have k1:ad.cell? ⟨gm,1,none⟩=some (.string ⟨mn.toArray⟩):=bz.o.cell 1;have k2:ad.cell? ⟨gm,2,none⟩=some (.string ⟨ma.toArray⟩):=bz.o.cell 2;have s2:ad.cell? ⟨G,2,none⟩=some (.string ⟨#[]⟩):=al.o.cell 2;have s3:ad.cell? ⟨G,3,none⟩=some (.string ⟨#[]⟩):=al.o.cell 3;have z2:ad.frozen? ⟨G,2,none⟩=false:=al.o.frozen 2;have z3:ad.frozen? ⟨G,3,none⟩=false:=al.o.frozen 3;have ez:G≠gm:=(by omega);have ct:=lH dz;have f5:=lH dx;clear dz dx;go_region
     refine qKh (E:=fun a=>Blk a G (qQi ⟨(p:Int),Z,mn,ma,a6,chk,a3⟩ (.slice va K.length vc)) 82/\ad.grownBy a (some G)) ⟨(((al.o.set 2 (.string ⟨mn.toArray⟩)).set 3 (.string ⟨ma.toArray⟩)):Blk _ G _ _),zX8 (qQl (qDu ad G 2 _) (qDu _ G 3 _))⟩ ?_;clear k1 k2 s2 s3 z2 z3 ez bz al I;rintro D ⟨dj,du⟩;have a9:=lH dj;have el:=lH du;clear dj du;have m0:D.cell? ⟨G,0,none⟩=some (.int .i64 (p:Int)):=a9.o.cell 0;have m1:D.cell? ⟨G,1,none⟩=some (.int .i64 Z):=a9.o.cell 1;have m2:D.cell? ⟨G,2,none⟩=some (.string ⟨mn.toArray⟩):=a9.o.cell 2;have m3:D.cell? ⟨G,3,none⟩=some (.string ⟨ma.toArray⟩):=a9.o.cell 3;have m4:D.cell? ⟨G,4,none⟩=some (.int .i64 a6):=a9.o.cell 4;have m5:D.cell? ⟨G,5,none⟩=some (.int .i64 chk):=a9.o.cell 5;have m6:D.cell? ⟨G,6,none⟩=some (.bool a3):=a9.o.cell 6;have m7:D.cell? ⟨G,7,none⟩=some (.slice va K.length vc):=a9.o.cell 7;go_wp2;go_ret;have am:=(Br D).alloc (.cells #[.int .i64 (p:Int),.int .i64 Z,.string ⟨mn.toArray⟩,.string ⟨ma.toArray⟩,.int .i64 a6,.int .i64 chk,.bool a3,.slice va K.length vc] 82);have fn:=ai.o.size;have fl:=aw.o.size;have c8:Kp (fun b=>b≠G) A D:=(Kp.of_bel (K:=fun b=>b≠G) e9.o).trans (Kp.of_grown (K:=fun b=>b≠G) el.o (fun b _ H a1=>H (by cases a1;rfl))) (fun _ _ h=>h);have dm:=c8.trans (Kp.of_bel (K:=fun b=>b≠G) am) (fun _ _ h=>h);have c9:Kp (fun b=>¬ X1 b/\b≠G) wc _:=((Kp.of_bel (K:=fun b=>¬ X1 b/\b≠G) ai.o).trans bx.o (fun _ _ h=>h.1)).trans dm (fun _ _ h=>h.2);have eu:∀ b,b<wc.heap.size->¬ X1 b->¬ X2 b:=fun b H h1 h2=>(c3.o b h2).elim h1 (fun h=>by omega);refine ⟨_,X2,rfl,?_,aw.o.trans c9 (fun b H h=>⟨fun h1=>(bg.o b h1).elim h (fun h=>by omega),by omega⟩),fun b H=>(c3.o b H).elim (bg.o b) (fun h=>.inr (by omega)),?_⟩
     ·rw [br.o,<- List.append_assoc];refine N.keep _ _ _ _ cu.o (dm.mono (fun b _ H a1=>?_));subst a1;rcases H with h | h
      ·omega
      ·exact (c3.o _ h).elim dw (fun h=>by omega)
     ·rw [bu.o];refine zVe ((ab.o.its.agree (c9.agree (fun b H=>⟨H.2.1,H.2.2,by omega⟩))).mono (fun b H=>⟨H.1,Zc H.2.1 c9.size,eu b H.2.1 H.2.2⟩)) D.heap.size ⟨?_,by simp,fun c=>?_⟩ (Blk.new' D _ rfl _ _)
      ·have:=c8.size;have:=ct.o;omega
      ·have h1:=N.lt _ _ _ cu.o _ c;have:=c8.size;have:=ct.o;omega

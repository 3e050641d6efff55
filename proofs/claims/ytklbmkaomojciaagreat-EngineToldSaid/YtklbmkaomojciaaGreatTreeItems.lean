/- What is told of a node (tree.builder.items): walked, over any function that tells names. -/
import Derived.Test.YtklbmkaomojciaaGreatTreeFn
import Derived.Outline
set_option maxRecDepth 100000
set_option maxHeartbeats 4000000
namespace Go.Proofs.YtklbmkaomojciaaGreat
open Go.RowKit
structure Bs (m q:Nat) (dv cv fv:Value) (d:Dc) (C:List Clm) (w:World):Prop where
 doc:qZb m w dv d
 clm:qQa 2 qVh (·<m) w cv C
 size:m<=w.heap.size
 c0:w.cell? ⟨q,0,none⟩=some dv
 c1:w.cell? ⟨q,1,none⟩=some cv
 c2:w.cell? ⟨q,2,none⟩=some fv
theorem Bs.kp {m q:Nat} {dv cv fv:Value} {d:Dc} {C:List Clm} {K:Nat->Prop} {w w':World} (h:Bs m q dv cv fv d C w) (hk:Kp K w w') (hm:∀ b,b<m->K b) (hq:K q):Bs m q dv cv fv d C w':=by
 have ha:qZs (·<m) w w':=hk.agree (fun b hb=>⟨Zc hb h.size,hm b hb⟩)
 have hqb:w'.heap[q]?=w.heap[q]?:=hk.block q (World.block_lt_of_cell? w _ h.c0) hq
 exact ⟨h.doc.agree ha (fun _ _ _ hr=>qF7.agree (B:=(·<m)) hr ha),h.clm.agree ha (fun _ _ _ hr=>hr),Za h.size hk.size,(World.cell?_of_block hqb).trans h.c0,(World.cell?_of_block hqb).trans h.c1,(World.cell?_of_block hqb).trans h.c2⟩
theorem Bs.bel {m q:Nat} {dv cv fv:Value} {d:Dc} {C:List Clm} {w w':World} (h:Bs m q dv cv fv d C w) (hb:Bel w w'):Bs m q dv cv fv d C w':=h.kp (K:=fun _=>True) (Kp.of_bel hb) (fun _ _=>trivial) trivial
structure NameOk (lim m:Nat) (d:Dc) (memo:Int->Mm) (fid:Nat) (caps:Array Value) (Inv:List Int->(Nat->Prop)->World->Prop):Prop where
 enter:∀ (args:Array Value) (w:World),(callFunc fid args).run Tryz.prog w=.ok (.enter fid args) w
 lt:∀ L X W,Inv L X W->∀ b,X b->b<W.heap.size
 keep:∀ L X W W',Inv L X W->Kp (fun b=>b<m∨X b) W W'->Inv L X W'
 call:∀ L X W n,Inv L X W->n∈shownR d->L.length+1<=lim->Calls Tryz.prog fid (#[.int .i64 n]++caps) W (fun e w'=>∃ ua un uc X',e=.returned (.agg #[.int .i64 n,.string ⟨(memo n).name.toArray⟩,.string ⟨(memo n).about.toArray⟩,.slice ua un uc])/\Inv (L++[n]) X' w'/\Kp (fun b=>¬ X b) W w'/\∀ b,X' b->X b∨W.heap.size<=b)
def ItsR (d:Dc) (C:List Clm) (memo:Int->Mm) (Inv:List Int->(Nat->Prop)->World->Prop) (L:List Int) (X:Nat->Prop) (W:World) (f:Nat) (n:Int):Ending->World->Prop:=fun e w'=>
 ∃ y X',e=.returned y/\Inv (L++qXj d C f n) X' w'/\Kp (fun b=>¬ X b) W w'/\(∀ b,X' b->X b∨W.heap.size<=b)/\ItsK (fun b=>W.heap.size<=b/\b<w'.heap.size/\¬ X' b) f w' y (itemsF d C memo f n)
def KidJ (Inv:List Int->(Nat->Prop)->World->Prop) (L:List Int) (X:Nat->Prop) (W w5:World) (f:Nat) (v:Value) (KL:List It) (wx:World):Prop:=
 ∃ X1,Inv L X1 wx/\Kp (fun b=>¬ X b) w5 wx/\(∀ b,X1 b->X b∨w5.heap.size<=b)/\KidR W X1 f wx v KL
theorem qBn {P:Program} {w:World} {ρ:Operand->Value} {o:Oper} {f:Nat} {ops:Array Operand} {ts:Array TypeId} (ho:o.op=.call { callee:=.value (.func f),args:=ops,argTypes:=ts }) (hf:ρ (.func f)=.func (.func f) #[] #[]) {args:Array Value} (ha:ops.map ρ=args) (he:∀ (args:Array Value) (w:World),(callFunc f args).run P w=.ok (.enter f args) w)
 {R:Value->World->Prop} (hc:Calls P f args w (fun e w'=>∃ v,e=.returned v/\R v w')):qBd P R ((execOp ρ o).run P w):=by
 have e:(execOp ρ o).run P w=.ok (.enter f args) w:=by
  unfold execOp
  simp [ho,resolve,ha,hf,go_sem,he]
 rw [e]
 exact hc
theorem ends_len {P:Program} {w:World} {ρ:Operand->Value} {o:Oper} {y:Operand} {t:TypeId} (ho:o.op=.call { callee:=.builtin .len,args:=#[y],argTypes:=#[t] }) {el:TypeId} (ht:P.underlying t=some (.slice el)) {a:Option Addr} {n c:Nat} (hy:ρ y=.slice a n c)
 {R:Value->World->Prop} (hR:R (.int .i64 (n:Int)) w):qBd P R ((execOp ρ o).run P w):=by
 have e:(execOp ρ o).run P w=.ok (.value (.int .i64 (n:Int))) w:=by
  unfold execOp
  simp [ho,resolve,hy,go_sem,Builtin.len_,run_underlying ht]
 rw [e]
 exact hR
theorem zZz (w:World):(Instr.alloc 111 true (.tuple #[])).run Tryz.prog w=.ok (.pointer (some ⟨w.heap.size,0,none⟩)) (w.alloc (.cells #[.int .i64 0,.int .i64 0,.string ⟨#[]⟩,.string ⟨#[]⟩,.int .i64 0,.int .i64 0,.bool false,.slice none 0 0] 111)):=by kernel_rfl
theorem zQy {P:Program} {w w':World} {ρ:Operand->Value} {o:Oper} {t:TypeId} (ho:o.op=.alloc t) {v:Value} (hr:(Instr.alloc t true (.tuple #[])).run P w=.ok v w')
 {R:Value->World->Prop} (hR:R v w'):qBd P R ((execOp ρ o).run P w):=by
 have e:(execOp ρ o).run P w=.ok (.value v) w':=by
  unfold execOp
  simp [ho,hr]
 rw [e]
 exact hR
theorem cf_kids (args:Array Value) (w:World):(callFunc 152 args).run Tryz.prog w=.ok (.enter 152 args) w:=by kernel_rfl
theorem qFq {lim m q:Nat} {dv cv:Value} {d:Dc} {C:List Clm} {memo:Int->Mm} {fid:Nat} {caps:Array Value} {Inv:List Int->(Nat->Prop)->World->Prop} (N:NameOk lim m d memo fid caps Inv) (g:Good d) (hC:ClmOk d C) (hCl:C.length<=1000)
 {μ:Int->Nat} (F:Falls (qY2 d C) μ d.length):∀ (f:Nat) (n:Int) (L:List Int) (X:Nat->Prop) (W:World),n∈shownR d->d.length<μ n+f->Inv L X W->Bs m q dv cv (.func (.func fid) #[] caps) d C W->¬ X q->(∀ b,X b->m<=b)->L.length+(qXj d C f n).length<=lim ->
 Calls Tryz.prog 124 #[.pointer (some ⟨q,0,none⟩),.int .i64 n] W (ItsR d C memo Inv L X W f n):=by
 intro f
 induction f with
 | zero=>intro n L X W _ hf;have:=F.top n;omega
 | succ f ih=>
 intro n L X W hn hf hI hB hq hXm hlim
 obtain ⟨p,hp,rfl,-⟩:=qQz.1 ((qZ8 g).2 n hn)
 have hlt:=N.lt L X W hI
 have cHid:Hi (∀ W',Bs m q dv cv (.func (.func fid) #[] caps) d C W'->Calls Tryz.prog 100 #[dv,.int .i64 (p:Int)] W' (Rb (.bool (qZd d (p:Int))) W')):=lH (fun W' h=>qVi m dv d (p:Int) W' h.doc h.size g)
 have cOf:Hi (∀ W',Bs m q dv cv (.func (.func fid) #[] caps) d C W'->Calls Tryz.prog 59 #[dv,.int .i64 (p:Int)] W' (Rb (.int .i64 (qQd d (p:Int))) W')):=lH (fun W' h=>qKq m dv d (p:Int) W' h.doc h.size g)
 have cKi:=lH (qXc (qQd d (p:Int)))
 have hsl:(nd d (p:Int)).text.length<=60:=by
  obtain ⟨r,g0⟩:=g.tree
  exact (g0.ok (p:Int)).short.1
 have cSq:=lH (fun W=>qJa (nd d (p:Int)).text W (by omega))
 have HBs:=lH hB
 have HI0:=lH hI
 cases hh:qZd d (p:Int) with
 | true=>
   have HR:Hi (qXj d C (f+1) (p:Int)=[]/\itemsF d C memo (f+1) (p:Int)=[]):=lH (by rw [zJd,qWq,if_pos hh,if_pos hh];exact ⟨rfl,rfl⟩)
   rw [hh] at cHid
   have c0:=hB.c0
   clear hB hI hh hsl hlt hlim
   go_enter Tryz.func124,Tryz.ntmps124
   go_wp2_with (go_at_call 100;(with_reducible refine qKb (cHid.o _ HBs.o) fun w1 HB=>?_))
   go_ret
   refine ⟨_,X,rfl,?_,Kp.of_bel HB.o,fun b hb=>.inl hb,?_⟩
   ·rw [HR.o.1,List.append_nil]
    exact N.keep _ _ _ _ HI0.o (Kp.of_bel HB.o)
   ·rw [HR.o.2]
    exact qQa.nil
 | false=>
 rw [hh] at cHid
 have hvd:=hB.doc
 obtain ⟨b,off,cap,av,kv0,sv,rfl,v1,v2,hbb,-⟩:=hvd.node p hp
 have HT2:Hi (∀ W',Bs m q (.slice (some ⟨b,off,none⟩) d.length cap) cv (.func (.func fid) #[] caps) d C W'->W'.cell? ⟨b,off+p*9+2,none⟩=some (.string ⟨(nd d (p:Int)).text.toArray⟩)):=lH (fun W' h=>by rw [qQ2 hp];exact zBo h.doc hp)
 have hpz:(p:Int)<(d.length:Int):=by omega
 obtain ⟨ca,cc,rfl,cl1,cl2⟩:=Rf hB.clm
 have c0:=hB.c0
 have hz:m<=W.heap.size:=hB.size
 have hqW:q<W.heap.size:=World.block_lt_of_cell? _ _ c0
 by_cases hr:qQd d (p:Int)=10
 ·have HA:Hi (qXj d C (f+1) (p:Int)=[]):=lH (by rw [zJd,if_neg (by rw [hh];simp),if_pos hr])
  have HIt:Hi (itemsF d C memo (f+1) (p:Int)=if qQm (nd d (p:Int)).text=[] then [] else [.mk { node:=(p:Int),role:=10,name:=qQm (nd d (p:Int)).text } []]):=lH (by rw [qWq,if_neg (by rw [hh];simp),if_pos hr])
  rw [hr] at cOf cKi
  clear hB hI hh hsl hlt hvd hr cl1 cl2 hlim
  generalize hsx:qQm (nd d (p:Int)).text=sx at *
  clear hsx
  generalize (nd d (p:Int)).text=tx at *
  by_cases hs:sx=[]
  ·subst hs
   have HI2:Hi (itemsF d C memo (f+1) (p:Int)=[]):=lH (by rw [HIt.o,if_pos rfl])
   go_enter Tryz.func124,Tryz.ntmps124
   go_wp2_with (first
 | (go_at_call 100;(with_reducible refine (cHid.o _ HBs.o).mono ?_);rintro e1 w1 ⟨rfl,b1⟩;have HB:=lH b1;have c0:=(HBs.o.bel HB.o).c0;clear b1)
 | (go_at_call 59;(with_reducible refine (cOf.o _ (HBs.o.bel HB.o)).mono ?_);rintro e1 w2 ⟨rfl,b2⟩;have HB:=lH (Bt HB.o b2);have c0:=(HBs.o.bel HB.o).c0;clear b2)
 | (go_at_call 58;(with_reducible refine (cKi.o _).mono ?_);rintro e1 w3 ⟨rfl,b3⟩;have HB:=lH (Bt HB.o b3);have c0:=(HBs.o.bel HB.o).c0;have t2:=HT2.o _ (HBs.o.bel HB.o);have q3:=World.block_lt_of_cell? _ _ c0;have q4:=World.block_lt_of_cell? _ _ t2;clear b3)
 | (go_at_call 81;(with_reducible refine (cSq.o _).mono ?_);rintro e1 w4 ⟨rfl,b4⟩;have HB:=lH (Bt (HB.o.alloc _) b4);clear b4))
   go_ret
   refine ⟨_,X,rfl,?_,Kp.of_bel HB.o,fun b hb=>.inl hb,?_⟩
   ·rw [HA.o,List.append_nil]
    exact N.keep _ _ _ _ HI0.o (Kp.of_bel HB.o)
   ·rw [HI2.o]
    exact qQa.nil
  ·have hs1:sx.isEmpty=false:=by cases sx <;> simp_all
   have hs2:(({ data:=sx.toArray }:ByteArray)=={ data:=#[] })=false:=by
    have:=qDi sx []
    rw [show (({ data:=#[] }:ByteArray))=⟨([]:List UInt8).toArray⟩ from rfl,this]
    simpa using hs
   have hs3:(sx==[])=false:=by simpa using hs
   have HI2:Hi (itemsF d C memo (f+1) (p:Int)=[.mk { node:=(p:Int),role:=10,name:=sx } []]):=lH (by rw [HIt.o,if_neg hs])
   go_enter Tryz.func124,Tryz.ntmps124
   go_wp2_with (first
 | (go_at_call 100;(with_reducible refine (cHid.o _ HBs.o).mono ?_);rintro e1 w1 ⟨rfl,b1⟩;have HB:=lH b1;have c0:=(HBs.o.bel HB.o).c0;clear b1)
 | (go_at_call 59;(with_reducible refine (cOf.o _ (HBs.o.bel HB.o)).mono ?_);rintro e1 w2 ⟨rfl,b2⟩;have HB:=lH (Bt HB.o b2);have c0:=(HBs.o.bel HB.o).c0;clear b2)
 | (go_at_call 58;(with_reducible refine (cKi.o _).mono ?_);rintro e1 w3 ⟨rfl,b3⟩;have HB:=lH (Bt HB.o b3);have c0:=(HBs.o.bel HB.o).c0;have t2:=HT2.o _ (HBs.o.bel HB.o);have q3:=World.block_lt_of_cell? _ _ c0;have q4:=World.block_lt_of_cell? _ _ t2;clear b3)
 | (go_at_call 81;(with_reducible refine (cSq.o _).mono ?_);rintro e1 w4 ⟨rfl,b4⟩;have HB:=lH (Bt (HB.o.alloc _) b4);clear b4))
   go_ret
   have hBa:=HB.o.alloc (.cells #[.int .i64 (p:Int),.int .i64 10,.string ⟨sx.toArray⟩,.string ⟨#[]⟩,.int .i64 0,.int .i64 0,.bool false,.slice none 0 0] 111)
   refine ⟨_,X,rfl,?_,Kp.of_bel hBa,fun b hb=>.inl hb,?_⟩
   ·rw [HA.o,List.append_nil]
    exact N.keep _ _ _ _ HI0.o (Kp.of_bel hBa)
   ·rw [HI2.o]
    refine zXv (kv:=.slice none 0 0) qQa.nil w4.heap.size ⟨HB.o.size,by simp,fun hx=>?_⟩ (Blk.new' w4 _ rfl _ _)
    have:=N.lt _ _ _ HI0.o _ hx
    have:=HB.o.size
    omega
 have hr10:(qQd d (p:Int)==10)=false:=by simpa using hr
 have HIH:=lH ih
 have HLEN:=zG3 g hC memo F hn hf
 have cKd:Hi (∀ W',Bs m q (.slice (some ⟨b,off,none⟩) d.length cap) (.slice ca C.length cc) (.func (.func fid) #[] caps) d C W'->Calls Tryz.prog 152 #[.slice (some ⟨b,off,none⟩) d.length cap,.slice ca C.length cc,.int .i64 (p:Int)] W' (Rn W' fun w' y=>qQb 1 qQf W'.heap.size 3 w' y (qQs d C (p:Int)))):=lH (fun W' h=>qW0 m _ _ d C (p:Int) W' h.doc h.clm h.size g hCl)
 have HSh:Hi (∀ k∈qQs d C (p:Int),k∈shownR d/\d.length<μ k+f):=lH (fun k hk=>⟨qX6 g hC hn hk,by have:=F.down (p:Int) k (by rw [zZ7 hn];exact hk);omega⟩)
 obtain ⟨AL,hAL⟩:∃ x,x=if qB7 d (p:Int) then [] else (qQs d C (p:Int)).flatMap (qXj d C f):=⟨_,rfl⟩
 obtain ⟨KL,hKL⟩:∃ x,x=if qB7 d (p:Int) then [] else (qQs d C (p:Int)).flatMap (itemsF d C memo f):=⟨_,rfl⟩
 have HAs:Hi (qXj d C (f+1) (p:Int)=AL++(if (qQd d (p:Int)=0∨qQd d (p:Int)=18)/\(p:Int)≠0 then [] else if (kOf (qQd d (p:Int))).named then [(p:Int)] else [])):=lH (by rw [zJd,if_neg (by rw [hh];simp),if_neg hr,hAL])
 have HIs:Hi (itemsF d C memo (f+1) (p:Int)=if (qQd d (p:Int)=0∨qQd d (p:Int)=18)/\(p:Int)≠0 then KL else [.mk (zW2 d C memo (p:Int)) KL]):=lH (by rw [qWq,if_neg (by rw [hh];simp),if_neg hr,hKL])
 have HLim:=lH (show L.length+(AL.length+(if (qQd d (p:Int)=0∨qQd d (p:Int)=18)/\(p:Int)≠0 then [] else if (kOf (qQd d (p:Int))).named then [(p:Int)] else []).length)<=lim by rw [HAs.o,Zj] at hlim;exact hlim)
 clear hlim
 unfold qB7 at hAL hKL
 have HAL:=lH hAL
 have HKL:=lH hKL
 clear hAL hKL ih hB hI hvd cl1 cl2
 have HXW:Hi (∀ b,X b->b<W.heap.size):=lH hlt
 clear hlt
 generalize hkk:kOf (qQd d (p:Int))=kk at *
 have HKK:=lH hkk
 clear hkk
 obtain ⟨kname,kcont,kleaf,klev,kchk,knam,kneed⟩:=kk
 simp only at HAL HKL HAs HLim
 obtain ⟨T,hTd⟩:∃ x,x=qQs d C (p:Int):=⟨_,rfl⟩
 rw [<- hTd] at HSh cKd HAL HKL HLEN
 clear hTd
 go_enter Tryz.func124,Tryz.ntmps124
 go_upto_if 49 with (first
 | (go_at_call 100;(with_reducible refine (cHid.o _ HBs.o).mono ?_);rintro e1 w1 ⟨rfl,b1⟩;have HB:=lH b1;have c0:=(HBs.o.bel HB.o).c0;clear b1)
 | (go_at_call 59;(with_reducible refine (cOf.o _ (HBs.o.bel HB.o)).mono ?_);rintro e1 w2 ⟨rfl,b2⟩;have HB:=lH (Bt HB.o b2);have c0:=(HBs.o.bel HB.o).c0;clear b2)
 | (go_at_call 58;(with_reducible refine qQe (cKi.o _) HB fun w3 HB=>?_)))
 have hK5:=Blk.new' w3 w3.heap.size rfl #[.string ⟨kname.toArray⟩,.bool kcont,.bool kleaf,.bool klev,.bool kchk,.bool knam,.int .i64 kneed] 45
 have HB5:Hi (Bel W (w3.alloc (.cells #[.string ⟨kname.toArray⟩,.bool kcont,.bool kleaf,.bool klev,.bool kchk,.bool knam,.int .i64 kneed] 45))):=lH (HB.o.alloc _)
 have HG6:Hi (W.heap.size<=w3.heap.size):=lH HB.o.size
 clear cHid cOf cKi
 generalize (w3.alloc (.cells #[.string ⟨kname.toArray⟩,.bool kcont,.bool kleaf,.bool klev,.bool kchk,.bool knam,.int .i64 kneed] 45))=w5 at *
 generalize w3.heap.size=g6 at *
 have HK5:=lH hK5
 have HBs5:=lH (HBs.o.bel HB5.o)
 clear hK5 HB c0
 go_cut [8] from 50 to 70 (fun v wx=>KidJ Inv (L++AL) X W w5 f v KL wx)
 case first=>
  cases kleaf with
  | true=>
    rw [if_pos rfl] at HAL HKL
    go_wp2
    go_meet
    refine ⟨X,?_,Kp.refl _ _,fun b hb=>.inl hb,?_⟩
    ·rw [HAL.o,List.append_nil]
     exact N.keep _ _ _ _ HI0.o (Kp.of_bel HB5.o)
    ·rw [HKL.o]
     exact KidR.nil _ _ _ _
  | false=>
    rw [if_neg (by simp)] at HAL HKL
    obtain rfl:=HAL.o
    obtain rfl:=HKL.o
    clear HAL HKL
    go_upto_region 12 with (fail)
    refine qZf [0,1,2,3,4,5,6,7,8,11] [(9,some 59,[]),(10,some 60,[9])] [] (fun x w=>Bel w5 w/\(∀ u,x 9=some u->qQb 1 qQf w5.heap.size 3 w u T)/\∀ u,x 10=some u->u=.int .i64 (T.length:Int)) (by kernel_rfl) (by kernel_rfl) ⟨(Br w5).drew,(fun u h=>by cases h),(fun u h=>by cases h)⟩ ?_
    simp only [pickL,List.map_cons,List.map_nil,List.filterMap_cons,List.filterMap_nil,Zd,Ze]
    iterate 10 (refine qZt.cons (v:=?_) (fun _=>Says.plain ?_ ?_) ?_;rotate_left;rfl;(intro w' hS;have c0:=(HBs5.o.bel hS.1).c0;have c1:=(HBs5.o.bel hS.1).c1;clear hS;go_simp;with_reducible rfl);simp only [Act.put,Zh,Zf,Zg])
    refine qZt.nil ⟨by simp,⟨?_,?_,trivial⟩,?_⟩
    ·intro x ρ w hx hn hr hT
     refine qBn rfl (hr.1 _ (fun _ _ _ _ h=>by cases h)) (args:=#[.slice (some ⟨b,off,none⟩) d.length cap,.slice ca C.length cc,.int .i64 (p:Int)]) ?_ cf_kids ((cKd.o w (HBs5.o.bel hT.1)).mono ?_)
     ·simp only [List.map_toArray,List.map_cons,List.map_nil]
      rw [hr.1 (.tmp 53) (by simp),hr.1 (.tmp 57) (by simp),hr.1 (.tmp 58) (by simp)]
      rfl
     ·rintro e w' ⟨hb,v,rfl,ho⟩
      exact ⟨v,rfl,Bt hT.1 hb,(fun u hu=>by rw [qQl] at hu;cases hu;exact ho.base_le hT.1.size),fun u hu=>hT.2.2 u (by rw [qQn _ (by decide)] at hu;exact hu)⟩
    ·intro x ρ w hx hn hr hT
     obtain ⟨u,hu⟩:=hn 9 (by simp)
     have hO:=hT.2.1 u hu
     obtain ⟨ta,tc,rfl,_,_⟩:=Rf hO.read
     refine ends_len rfl qJm.und (hr.2 (9,some 59,[]) (by simp) 59 _ rfl hu) ⟨hT.1,(fun u hu'=>hT.2.1 u (by rw [qQn _ (by decide)] at hu';exact hu')),fun u hu'=>by rw [qQl] at hu';cases hu';rfl⟩
    ·intro U w6 hT
     obtain ⟨hB6,hU,hU2⟩:=hT
     have hO:=hU (U 9) rfl
     have hl10:U 10=.int .i64 (T.length:Int):=hU2 _ rfl
     simp only [List.foldl_cons,List.foldl_nil,Zh,Zf,Zg]
     rw [hl10]
     clear hU hU2 hl10
     generalize U 9=tv at *
     obtain ⟨ta,tc,rfl,t1,t2⟩:=Rf hO.read
     have HB6:=lH hB6
     have HT:=lH hO
     clear hB6 hO
     go_wp2
     have HK6:=lH (HK5.o.bel HB6.o)
     have HBs6:=lH (HBs5.o.bel HB6.o)
     have HI6:Hi (Inv L X w6):=lH (N.keep _ _ _ _ HI0.o (Kp.of_bel (Bt HB5.o HB6.o)))
     have hs56:=HB6.o.size
     have hs05:=HB5.o.size
     clear HK5 HBs5 HBs HI0
     go_loopw [61,8] (fun z v wr=>∃ (j:Nat) (Xj:Nat->Prop),j<=T.length/\z=.int .i64 j/\Inv (L++(T.take j).flatMap (qXj d C f)) Xj wr/\Kp (fun b=>¬ X b) w6 wr/\(∀ b,Xj b->X b∨w6.heap.size<=b)/\KidR w6 Xj f wr v ((T.take j).flatMap (itemsF d C memo f))) (fun z _ _=>T.length - (intOf z).toNat)
     case atStart=>exact ⟨0,X,by omega,rfl,by simpa using HI6.o,Kp.refl _ _,fun b hb=>.inl hb,by simpa using KidR.nil _ _ _ _⟩
     case round=>
      obtain ⟨j,Xj,hj,rfl,hIj,hKp,hXj,hKd⟩:=hrel
      have HIj:=lH hIj
      have HKp:=lH hKp
      have HXj:=lH hXj
      have HKd:=lH hKd
      obtain ⟨va,vc,rfl,v3,v4⟩:=Rf hKd.own.row
      generalize ((T.take j).flatMap (itemsF d C memo f)).length=vn at *
      have hsr:=hKp.size
      clear hIj hKp hXj hKd
      by_cases hlt:j<T.length
      ·have hTr:qQa 1 qQf (fun _=>True) wr (.slice ta T.length tc) T:=(HT.o.row.agree (HKp.o.agree (fun b hb=>⟨hb.2.1,fun hx=>by have:=HXW.o b hx;have:=hb.1;omega⟩)) (fun _ _ _ h=>h)).mono (fun _ _=>trivial) (fun _ _ _ h=>h)
       obtain ⟨tb,toff,tcap,_,e1,_,_,_,_⟩:=qQa.elem hTr j hlt
       simp at e1
       obtain ⟨rfl,rfl⟩:=e1
       have cx:=hTr.int_cell j hlt
       obtain ⟨ks,kf⟩:=HSh.o T[j] (Zl hlt)
       have HFA:=lH (zJy (qXj d C f) T hlt)
       have HFI:=lH (zJy (itemsF d C memo f) T hlt)
       have hBr:Bs m q (.slice (some ⟨b,off,none⟩) d.length cap) (.slice ca C.length cc) (.func (.func fid) #[] caps) d C wr:=HBs6.o.kp HKp.o (fun b hb hx=>by have:=hXm b hx;omega) hq
       have hlj:(L++(T.take j).flatMap (qXj d C f)).length+(qXj d C f T[j]).length<=lim:=by
        have h1:=HLim.o
        have h2:=qGf (qXj d C f) T (j+1)
        rw [HFA.o,Zj] at h2
        rw [Zj]
        omega
       have cIt:=lH (HIH.o T[j] _ Xj wr ks kf HIj.o hBr (fun hx=>(HXj.o q hx).elim hq (fun h=>by omega)) (fun b hb=>(HXj.o b hb).elim (hXm b) (fun h=>by omega)) hlj)
       clear hlj
       have hln:((T.take (j+1)).flatMap (itemsF d C memo f)).length<=60:=Za (qGf _ _ _) HLEN
       rw [HFI.o,Zj] at hln
       clear hTr ks kf
       generalize hIx:itemsF d C memo f T[j]=IX at *
       generalize hAx:qXj d C f T[j]=AX at *
       generalize (T.take j).flatMap (itemsF d C memo f)=IL at *
       generalize (T.take j).flatMap (qXj d C f)=AsL at *
       go_wp2_with (first
 | (go_at_call 124;(with_reducible refine cIt.o.mono ?_);rintro e7 w7 ⟨y7,X7,rfl,i7,k7,x7,r7⟩;rw [hIx] at r7;rw [hAx] at i7;obtain ⟨ya,yc,rfl,y1,y2⟩:=Rf r7;have HI7:=lH i7;have HK7:=lH k7;have HX7:=lH x7;have HR7:=lH r7;have HKd7:=lH (HKd.o.kp k7 x7);have hs7:=k7.size;clear i7 k7 x7 r7)
 | (at_builtin;go_must (refine qZa rfl _ _ _ rfl qB2 (by decide) rfl HKd7.o.own rfl (KidR.src HR7.o (fun b hb=>(HKd.o.own.lt b hb).2) (by omega)) (fun cs y _ h=>h.one) ?hby ?hmx (by omega) (fun w' hg cs y _ hr=>KidR.keep hg hr) ?_);(case hby=>omega);(case hmx=>omega);intro v8 w8 o8 g8 _ f8;have HKd8:=lH (HKd7.o.more (N.lt _ _ _ HI7.o) o8 g8 f8);have HG8:=lH g8;clear o8 g8 f8))
       have HOF:=lH HKd7.o.off
       have HOL:=lH HKd7.o.own.lt
       go_roundw
       case rel=>
        refine ⟨j+1,X7,by omega,by go_num,?_,?_,?_,?_⟩
        ·rw [HFA.o,<- List.append_assoc]
         exact N.keep _ _ _ _ HI7.o (Kp.of_grown HG8.o (fun b hb hK e=>by
          rcases hK with h | h
          ·have:=(HOL.o b e.symm).1;omega
          ·exact HOF.o b e.symm h))
        ·refine (HKp.o.trans HK7.o (fun b hb hx hj=>(HXj.o b hj).elim hx (fun h=>by omega))).trans (Kp.of_grown (K:=fun b=>b<w6.heap.size) HG8.o (fun b _ hK e=>by have:=(HOL.o b e.symm).1;omega)) (fun b hb _=>hb)
        ·intro b hb
         rcases HX7.o b hb with h | h
         ·exact HXj.o b h
         ·exact .inr (by omega)
        ·rw [HFI.o]
         exact HKd8.o
       case measure=>simp [intOf];omega
      ·have hTt:T.take j=T:=Zn (by omega)
       rw [hTt] at HIj HKd
       clear hTt
       go_wp2
       go_meet
       exact ⟨Xj,HIj.o,(Kp.of_bel HB6.o).trans HKp.o (fun _ _ h=>h),fun b hb=>(HXj.o b hb).imp id (fun h=>by omega),HKd.o.base (wy:=W) (by omega)⟩
 case rest=>
 obtain ⟨X1,hI1,hk1,hx1,hkd⟩:=hcut
 have hk15:=hk1.size
 have hs05:=HB5.o.size
 have HI1:=lH hI1
 have HK1:Hi (Kp (fun b=>¬ X b) W wc):=lH ((Kp.of_bel HB5.o).trans hk1 (fun _ _ h=>h))
 have HX1:Hi (∀ b,X1 b->X b∨W.heap.size<=b):=lH (fun b hb=>(hx1 b hb).imp id (fun h=>by omega))
 have HKd:=lH hkd
 have hg6:g6<w5.heap.size:=HK5.o.lt
 have HK9:Hi (Blk wc g6 [.string ⟨kname.toArray⟩,.bool kcont,.bool kleaf,.bool klev,.bool kchk,.bool knam,.int .i64 kneed] 45):=lH (HK5.o.of (hk1.block g6 hg6 (fun hx=>by have:=HXW.o _ hx;have:=HG6.o;omega)))
 have HBs9:Hi (Bs m q (.slice (some ⟨b,off,none⟩) d.length cap) (.slice ca C.length cc) (.func (.func fid) #[] caps) d C wc):=lH (HBs5.o.kp hk1 (fun b hb hx=>by have:=hXm b hx;omega) hq)
 have HX9:Hi (∀ b,X1 b->b<wc.heap.size):=lH (N.lt _ _ _ hI1)
 obtain ⟨va,vc,rfl,vl1,vl2⟩:=Rf hkd.own.row
 have HKL60:Hi (KL.length<=60):=lH (by rw [HKL.o];split;exact Nat.zero_le _;exact HLEN)
 clear hI1 hk1 hx1 hkd HK5 HBs5 HI0 HAL HKL HSh HIH cKd HLEN HBs
 generalize wc=w9 at *
 by_cases hgen:(qQd d (p:Int)=0∨qQd d (p:Int)=18)/\(p:Int)≠0
 ·have HA2:Hi (qXj d C (f+1) (p:Int)=AL):=lH (by rw [HAs.o,if_pos hgen,List.append_nil])
  have HI2:Hi (itemsF d C memo (f+1) (p:Int)=KL):=lH (by rw [HIs.o,if_pos hgen])
  obtain ⟨h0 | h0,hp0⟩:=hgen
  all_goals
   have hb0:((p:Int)==0)=false:=by simpa using hp0
   have hpz2:decide ((p:Int)=0)=false:=by simpa using hp0
   rw [h0]
   go_wp2
   go_ret
   refine ⟨_,X1,rfl,HA2.o▸HI1.o,HK1.o,HX1.o,?_⟩
   rw [HI2.o]
   exact HKd.o.its.le (Nat.le_succ _)
 ·have HA2:Hi (qXj d C (f+1) (p:Int)=AL++(if knam then [(p:Int)] else [])):=lH (by rw [HAs.o,if_neg hgen])
  have HLM0:Hi (L.length+(AL.length+(if knam then [(p:Int)] else []).length)<=lim):=lH (by have:=HLim.o;rw [if_neg hgen] at this;exact this)
  clear HLim
  have HI2:Hi (itemsF d C memo (f+1) (p:Int)=[.mk (zW2 d C memo (p:Int)) KL]):=lH (by rw [HIs.o,if_neg hgen])
  obtain ⟨rr,hrr⟩:∃ x,x=if qQd d (p:Int)=0∨qQd d (p:Int)=18 then 2 else qQd d (p:Int):=⟨_,rfl⟩
  have HHD:Hi (zW2 d C memo (p:Int)={ node:=(p:Int),role:=rr,name:=if knam then (memo (p:Int)).name else [],about:=if knam then (memo (p:Int)).about else [],level:=qDa d C (p:Int),checked:=qVd d (p:Int),off:=decide (qJ5 (sq d (p:Int) qVo)=qGk) }):=lH (by unfold zW2;rw [HKK.o,hrr])
  clear HAs HIs
  have cAt:Hi (∀ W',Bs m q (.slice (some ⟨b,off,none⟩) d.length cap) (.slice ca C.length cc) (.func (.func fid) #[] caps) d C W'->Calls Tryz.prog 76 #[.slice (some ⟨b,off,none⟩) d.length cap,.int .i64 (p:Int),.string ⟨#[97,114,105,97,45,100,105,115,97,98,108,101,100]⟩] W' (Rb (.tuple #[.string ⟨(said d (p:Int) qVo).toArray⟩,.bool (hasA d (p:Int) qVo)]) W')):=lH (fun W' h=>qZo m _ d (p:Int) qVo W' h.doc h.size)
  have cLv:Hi (∀ W',Bs m q (.slice (some ⟨b,off,none⟩) d.length cap) (.slice ca C.length cc) (.func (.func fid) #[] caps) d C W'->Calls Tryz.prog 36 #[.slice (some ⟨b,off,none⟩) d.length cap,.slice ca C.length cc,.int .i64 (p:Int)] W' (Rb (.int .i64 (qDa d C (p:Int))) W')):=lH (fun W' h=>qDg m _ _ d C (p:Int) W' h.doc h.clm h.size g hC)
  have cCk:Hi (∀ W',Bs m q (.slice (some ⟨b,off,none⟩) d.length cap) (.slice ca C.length cc) (.func (.func fid) #[] caps) d C W'->Calls Tryz.prog 38 #[.slice (some ⟨b,off,none⟩) d.length cap,.int .i64 (p:Int)] W' (Rb (.int .i64 (qVd d (p:Int))) W')):=lH (fun W' h=>qHr m _ d (p:Int) W' h.doc h.size g)
  have hsd:=qJn g (p:Int) qVo
  have cS2:=lH (fun W=>qJa (said d (p:Int) qVo) W (by omega))
  have hsq:=zHw g (p:Int) qVo
  have cLo:=lH (fun W=>qBj (sq d (p:Int) qVo) W (by omega))
  have HSQ:Hi (qQm (said d (p:Int) qVo)=sq d (p:Int) qVo):=lH rfl
  rw [HSQ.o] at cS2
  clear HSQ hsd hsq
  go_upto_region 17 with fail
  go_cut [80] from 71 to 79 (fun z wx=>z=.bool (decide ((p:Int)=0/\(qQd d (p:Int)=0∨qQd d (p:Int)=18)))/\wx=w9)
  case first=>
   by_cases hp0:(p:Int)=0
   ·have hb0:((p:Int)==0)=true:=by simpa using hp0
    have hb1:decide ((p:Int)=0)=true:=by simpa using hp0
    have HPZ:=lH hp0
    clear hp0 hgen
    by_cases h0:qQd d (p:Int)=0
    ·have hc1:(qQd d (p:Int)==0)=true:=by simpa using h0
     have hd1:decide (qQd d (p:Int)=0)=true:=by simpa using h0
     have HV:Hi (decide ((p:Int)=0/\(qQd d (p:Int)=0∨qQd d (p:Int)=18))=true):=lH (decide_eq_true ⟨HPZ.o,.inl h0⟩)
     clear h0
     go_wp2
     go_meet
     exact ⟨congrArg Value.bool HV.o.symm,rfl⟩
    ·have hc1:(qQd d (p:Int)==0)=false:=by simpa using h0
     have hd1:decide (qQd d (p:Int)=0)=false:=by simpa using h0
     have HV:Hi (decide ((p:Int)=0/\(qQd d (p:Int)=0∨qQd d (p:Int)=18))=(qQd d (p:Int)==18)):=lH (Bool.eq_iff_iff.2 (by simp only [decide_eq_true_eq,beq_iff_eq];exact ⟨fun h=>h.2.resolve_left h0,fun h=>⟨HPZ.o,.inr h⟩⟩))
     clear h0
     go_wp2
     go_meet
     exact ⟨congrArg Value.bool HV.o.symm,rfl⟩
   ·have hb0:((p:Int)==0)=false:=by simpa using hp0
    have hb1:decide ((p:Int)=0)=false:=by simpa using hp0
    have HV:Hi (decide ((p:Int)=0/\(qQd d (p:Int)=0∨qQd d (p:Int)=18))=false):=lH (decide_eq_false (fun h=>hp0 h.1))
    clear hp0 hgen
    go_wp2
    go_meet
    exact ⟨congrArg Value.bool HV.o.symm,rfl⟩
  case rest=>
  obtain ⟨rfl,rfl⟩:=hcut
  go_upto_if 80 with fail
  go_cut [5,80] from 81 to 86 (fun z _ wx=>z=.int .i64 rr/\wx=wc)
  case first=>
   by_cases hg2:qQd d (p:Int)=0∨qQd d (p:Int)=18
   ·rw [if_pos hg2] at hrr
    have hp0:(p:Int)=0:=Classical.byContradiction (fun h=>hgen ⟨hg2,h⟩)
    have hb0:decide ((p:Int)=0/\(qQd d (p:Int)=0∨qQd d (p:Int)=18))=true:=decide_eq_true ⟨hp0,hg2⟩
    subst hrr
    clear hgen hp0 hg2
    rw [hb0]
    go_wp2
    go_meet
    exact ⟨rfl,rfl⟩
   ·rw [if_neg hg2] at hrr
    have hb0:decide ((p:Int)=0/\(qQd d (p:Int)=0∨qQd d (p:Int)=18))=false:=decide_eq_false (fun h=>hg2 h.2)
    subst hrr
    have hc1:(qQd d (p:Int)==0)=false:=by simpa using fun h=>hg2 (.inl h)
    have hc2:(qQd d (p:Int)==18)=false:=by simpa using fun h=>hg2 (.inr h)
    have hd1:decide (qQd d (p:Int)=0)=false:=by simpa using fun h=>hg2 (.inl h)
    have hd2:decide (qQd d (p:Int)=18)=false:=by simpa using fun h=>hg2 (.inr h)
    clear hgen hg2
    rw [hb0]
    go_wp2
    go_meet
    exact ⟨rfl,rfl⟩
  case rest=>
  obtain ⟨rfl,rfl⟩:=hcut
  clear hgen hrr
  have hq9:q<wc.heap.size:=World.block_lt_of_cell? _ _ HBs9.o.c0
  have c0:=HBs9.o.c0
  go_upto_region 22 with (go_at_call 76;(with_reducible refine (cAt.o _ HBs9.o).mono ?_);rintro e1 w10 ⟨rfl,b10⟩;have HB10:=lH b10;have HBs10:=lH (HBs9.o.bel b10);clear b10)
  generalize sq d (p:Int) qVo=sqd at *
  generalize said d (p:Int) qVo=sdd at *
  generalize hasA d (p:Int) qVo=had at *
  generalize qDa d C (p:Int)=lvl at *
  generalize qVd d (p:Int)=chk at *
  obtain ⟨off1,hoff1⟩:∃ x,x=decide (qJ5 sqd=qGk):=⟨_,rfl⟩
  have HOF1:Hi ((qJ5 sqd==[116,114,117,101])=off1):=lH (by rw [hoff1,Bool.eq_iff_iff,beq_iff_eq,decide_eq_true_eq];rfl)
  rw [<- hoff1] at HHD
  clear hoff1
  generalize qJ5 sqd=lw at *
  clear c0
  refine qZf [0,1,2,3,4,5,6,7,8,9,10,11,12,13,14,15,16,17,18,19,20,21,22,23] [(24,some 13,[])] [25] (fun x w=>Bel w10 w/\∀ u,x 24=some u->∃ gg,u=.pointer (some ⟨gg,0,none⟩)/\w10.heap.size<=gg/\Blk w gg [.int .i64 0,.int .i64 0,.string ⟨#[]⟩,.string ⟨#[]⟩,.int .i64 0,.int .i64 0,.bool false,.slice none 0 0] 111) (by kernel_rfl) (by kernel_rfl) ⟨(Br w10).drew,fun u h=>by cases h⟩ ?_
  simp only [pickL,List.map_cons,List.map_nil,List.filterMap_cons,List.filterMap_nil,Zd,Ze]
  iterate 24 (first
 | (refine qZt.cons (v:=?_) (fun _=>Says.plain ?_ ?_) ?_;rotate_left;rfl;(intro w' hS;have c0:=(HBs10.o.bel hS.1).c0;have c1:=(HBs10.o.bel hS.1).c1;have hof:=HOF1.o;clear hS;go_simp;with_reducible rfl);simp only [Act.put,Zh,Zf,Zg])
 | (refine qZt.cons (v:=?_) (fun _=>Says.call (f:=?_) (args:=?_) ?_ ?_ ?_) ?_;rotate_left 3;rfl;(intro w';go_simp;constructor <;> with_reducible rfl);(intro w' hS;(first | (with_reducible refine Calls.mono (cLv.o _ (HBs10.o.bel hS.1)) ?_) | (with_reducible refine Calls.mono (cCk.o _ (HBs10.o.bel hS.1)) ?_) | (with_reducible refine Calls.mono (cS2.o _) ?_) | (with_reducible refine Calls.mono (cLo.o _) ?_));rintro e w'' ⟨rfl,hb⟩;refine ⟨?_,Bt hS.1 hb,fun u hu=>?_⟩;(with_reducible rfl);(obtain ⟨gg,h1,h2,h3⟩:=hS.2 u hu;exact ⟨gg,h1,h2,h3.bel hb⟩));simp only [Act.put,Zh,Zf,Zg]))
  refine qZt.nil ⟨by simp,⟨?_,trivial⟩,?_⟩
  ·intro x ρ w hx hn hr hT
   refine zQy rfl (zZz w) ⟨hT.1.alloc _,fun u hu=>?_⟩
   rw [qQl] at hu
   cases hu
   exact ⟨_,rfl,hT.1.size,Blk.new' w _ rfl _ _⟩
  ·intro U w11 hT
   obtain ⟨hB11,hU⟩:=hT
   obtain ⟨gg,e24,hgg,hGG⟩:=hU (U 24) rfl
   clear hU
   simp only [List.foldl_cons,List.foldl_nil,Zh,Zf,Zg]
   rw [e24]
   clear e24
   have n0:w11.cell? ⟨gg,0,none⟩=some (.int .i64 0):=hGG.cell 0
   have n1:w11.cell? ⟨gg,1,none⟩=some (.int .i64 0):=hGG.cell 1
   have n2:w11.cell? ⟨gg,2,none⟩=some (.string ⟨#[]⟩):=hGG.cell 2
   have n3:w11.cell? ⟨gg,3,none⟩=some (.string ⟨#[]⟩):=hGG.cell 3
   have n4:w11.cell? ⟨gg,4,none⟩=some (.int .i64 0):=hGG.cell 4
   have n5:w11.cell? ⟨gg,5,none⟩=some (.int .i64 0):=hGG.cell 5
   have n6:w11.cell? ⟨gg,6,none⟩=some (.bool false):=hGG.cell 6
   have n7:w11.cell? ⟨gg,7,none⟩=some (.slice none 0 0):=hGG.cell 7
   have fz:∀ j,w11.frozen? ⟨gg,j,none⟩=false:=fun j=>hGG.frozen j
   have HGG:=lH hGG
   have HB11:=lH (Bt HB10.o hB11)
   have hg9:wc.heap.size<=gg:=Za HB10.o.size hgg
   clear hGG hB11 hgg
   go_upto_region 23 with fail
   refine qQq (E:=fun W'=>Blk W' gg (qQi ⟨(p:Int),rr,[],[],lvl,chk,off1⟩ (.slice va KL.length vc)) 111/\Bel wc W') ⟨(((((((HGG.o.set 0 _).set 1 _).set 2 _).set 3 _).set 4 _).set 5 _).set 6 _).set 7 _,((((((((HB11.o.setCell gg 0 _ hg9).setCell gg 1 _ hg9).setCell gg 2 _ hg9).setCell gg 3 _ hg9).setCell gg 4 _ hg9).setCell gg 5 _ hg9).setCell gg 6 _ hg9).setCell gg 7 _ hg9)⟩ ?_
   clear n0 n1 n2 n3 n4 n5 n6 n7 fz HGG HB11 HB10 HBs10 cAt cLv cCk cS2 cLo
   rintro w12 ⟨hG12,hB12⟩
   have HG12:=lH hG12
   have HB12:=lH hB12
   have n5:=(HK9.o.bel hB12).cell 5
   simp at n5
   have HBs12:=lH (HBs9.o.bel hB12)
   clear hG12 hB12 HK9 HBs9
   have m0:w12.cell? ⟨gg,0,none⟩=some (.int .i64 (p:Int)):=HG12.o.cell 0
   have m1:w12.cell? ⟨gg,1,none⟩=some (.int .i64 rr):=HG12.o.cell 1
   have m2:w12.cell? ⟨gg,2,none⟩=some (.string ⟨([]:Txt).toArray⟩):=HG12.o.cell 2
   have m3:w12.cell? ⟨gg,3,none⟩=some (.string ⟨([]:Txt).toArray⟩):=HG12.o.cell 3
   have m4:w12.cell? ⟨gg,4,none⟩=some (.int .i64 lvl):=HG12.o.cell 4
   have m5:w12.cell? ⟨gg,5,none⟩=some (.int .i64 chk):=HG12.o.cell 5
   have m6:w12.cell? ⟨gg,6,none⟩=some (.bool off1):=HG12.o.cell 6
   have m7:w12.cell? ⟨gg,7,none⟩=some (.slice va KL.length vc):=HG12.o.cell 7
   cases knam with
   | false=>
     have HAE:Hi (qXj d C (f+1) (p:Int)=AL):=lH (by rw [HA2.o,if_neg (by simp),List.append_nil])
     have HIE:Hi (itemsF d C memo (f+1) (p:Int)=[.mk ⟨(p:Int),rr,[],[],lvl,chk,off1⟩ KL]):=lH (by rw [HI2.o,HHD.o,if_neg (by simp),if_neg (by simp)])
     clear HA2 HI2 HHD
     go_wp2
     go_ret
     have hBE:=HB12.o.alloc (.cells #[.int .i64 (p:Int),.int .i64 rr,.string ⟨([]:Txt).toArray⟩,.string ⟨([]:Txt).toArray⟩,.int .i64 lvl,.int .i64 chk,.bool off1,.slice va KL.length vc] 111)
     refine ⟨_,X1,rfl,?_,HK1.o.trans (Kp.of_bel (K:=fun b=>¬ X b) hBE) (fun _ _ h=>h),HX1.o,?_⟩
     ·rw [HAE.o]
      exact N.keep _ _ _ _ HI1.o (Kp.of_bel hBE)
     ·rw [HIE.o]
      refine zXv ((HKd.o.its.agree (fun b hb=>hBE.block b hb.2.1)).mono (fun b hb=>⟨hb.1,Zc hb.2.1 hBE.size,hb.2.2⟩)) w12.heap.size ⟨?_,by simp,fun hx=>?_⟩ (Blk.new' w12 _ rfl _ _)
      ·have:=HB12.o.size;have:=HK1.o.size;omega
      ·have:=HX9.o _ hx;have:=HB12.o.size;omega
   | true=>
     have c2:=HBs12.o.c2
     have HI12:Hi (Inv (L++AL) X1 w12):=lH (N.keep _ _ _ _ HI1.o (Kp.of_bel HB12.o))
     have hcf:=N.enter
     have HAE:Hi (qXj d C (f+1) (p:Int)=AL++[(p:Int)]):=lH (by rw [HA2.o,if_pos rfl])
     have HIE:Hi (itemsF d C memo (f+1) (p:Int)=[.mk ⟨(p:Int),rr,(memo (p:Int)).name,(memo (p:Int)).about,lvl,chk,off1⟩ KL]):=lH (by rw [HI2.o,HHD.o,if_pos rfl,if_pos rfl])
     have cNm:=lH (N.call _ _ _ (p:Int) HI12.o hn (by have:=HLM0.o;rw [if_pos rfl,List.length_singleton] at this;rw [Zj];omega))
     clear HA2 HI2 HHD
     generalize (memo (p:Int)).name=mn at *
     generalize (memo (p:Int)).about=ma at *
     go_upto_region 25 with ((with_reducible refine cNm.o.mono ?_);rintro e1 w13 ⟨ua,un,uc,X2,rfl,i13,k13,x13⟩;have HI13:=lH i13;have HK13:=lH k13;have HX13:=lH x13;clear i13 k13 x13)
     have hgw:gg<w12.heap.size:=HG12.o.lt
     have hgX:¬ X1 gg:=fun hx=>by have:=HX9.o _ hx;omega
     have hG13:Blk w13 gg (qQi ⟨(p:Int),rr,[],[],lvl,chk,off1⟩ (.slice va KL.length vc)) 111:=HG12.o.of (HK13.o.block gg hgw hgX)
     have hs13:=HK13.o.size
     have HG14:=lH (hG13.below (Below.alloc (Below.refl w13.heap.size w13) (Zb _) (.cells #[.int .i64 (p:Int),.string ⟨mn.toArray⟩,.string ⟨ma.toArray⟩,.slice ua un uc] 31)) hG13.lt)
     have HM14:=lH (Blk.new' w13 w13.heap.size rfl #[.int .i64 (p:Int),.string ⟨mn.toArray⟩,.string ⟨ma.toArray⟩,.slice ua un uc] 31)
     have HB14:=lH ((Br w13).alloc (.cells #[.int .i64 (p:Int),.string ⟨mn.toArray⟩,.string ⟨ma.toArray⟩,.slice ua un uc] 31))
     have hge:(w13.alloc (.cells #[.int .i64 (p:Int),.string ⟨mn.toArray⟩,.string ⟨ma.toArray⟩,.slice ua un uc] 31)).heap.size=w13.heap.size+1:=by simp
     have hgg13:gg<w13.heap.size:=hG13.lt
     clear hG13 hcf m0 m1 m2 m3 m4 m5 m6 m7 c2 n5 HBs12
     generalize (w13.alloc (.cells #[.int .i64 (p:Int),.string ⟨mn.toArray⟩,.string ⟨ma.toArray⟩,.slice ua un uc] 31))=w14 at *
     generalize hgm:w13.heap.size=gm at *
     have k1:w14.cell? ⟨gm,1,none⟩=some (.string ⟨mn.toArray⟩):=HM14.o.cell 1
     have k2:w14.cell? ⟨gm,2,none⟩=some (.string ⟨ma.toArray⟩):=HM14.o.cell 2
     have s2:w14.cell? ⟨gg,2,none⟩=some (.string ⟨#[]⟩):=HG14.o.cell 2
     have s3:w14.cell? ⟨gg,3,none⟩=some (.string ⟨#[]⟩):=HG14.o.cell 3
     have z2:w14.frozen? ⟨gg,2,none⟩=false:=HG14.o.frozen 2
     have z3:w14.frozen? ⟨gg,3,none⟩=false:=HG14.o.frozen 3
     have hne:gg≠gm:=by omega
     have HGM:=lH hgm
     have HGE:=lH hge
     clear hgm hge
     go_region
     refine qJg (E:=fun W'=>Blk W' gg (qQi ⟨(p:Int),rr,mn,ma,lvl,chk,off1⟩ (.slice va KL.length vc)) 111/\w14.grownBy W' (some gg)) ⟨(((HG14.o.set 2 (.string ⟨mn.toArray⟩)).set 3 (.string ⟨ma.toArray⟩)):Blk _ gg _ _),zYk (qQj (qFl w14 gg 2 _) (qFl _ gg 3 _))⟩ ?_
     clear k1 k2 s2 s3 z2 z3 hne HM14 HG14 HG12
     rintro w15 ⟨hG15,hg15⟩
     have HG15:=lH hG15
     have HW15:=lH hg15
     clear hG15 hg15
     have m0:w15.cell? ⟨gg,0,none⟩=some (.int .i64 (p:Int)):=HG15.o.cell 0
     have m1:w15.cell? ⟨gg,1,none⟩=some (.int .i64 rr):=HG15.o.cell 1
     have m2:w15.cell? ⟨gg,2,none⟩=some (.string ⟨mn.toArray⟩):=HG15.o.cell 2
     have m3:w15.cell? ⟨gg,3,none⟩=some (.string ⟨ma.toArray⟩):=HG15.o.cell 3
     have m4:w15.cell? ⟨gg,4,none⟩=some (.int .i64 lvl):=HG15.o.cell 4
     have m5:w15.cell? ⟨gg,5,none⟩=some (.int .i64 chk):=HG15.o.cell 5
     have m6:w15.cell? ⟨gg,6,none⟩=some (.bool off1):=HG15.o.cell 6
     have m7:w15.cell? ⟨gg,7,none⟩=some (.slice va KL.length vc):=HG15.o.cell 7
     go_wp2
     go_ret
     have hBE:=(Br w15).alloc (.cells #[.int .i64 (p:Int),.int .i64 rr,.string ⟨mn.toArray⟩,.string ⟨ma.toArray⟩,.int .i64 lvl,.int .i64 chk,.bool off1,.slice va KL.length vc] 111)
     have hs12:=HB12.o.size
     have hs01:=HK1.o.size
     have hK15:Kp (fun b=>b≠gg) w13 w15:=(Kp.of_bel (K:=fun b=>b≠gg) HB14.o).trans (Kp.of_grown (K:=fun b=>b≠gg) HW15.o (fun b _ hb e=>hb (by cases e;rfl))) (fun _ _ h=>h)
     have hKE:=hK15.trans (Kp.of_bel (K:=fun b=>b≠gg) hBE) (fun _ _ h=>h)
     have hKc:Kp (fun b=>¬ X1 b/\b≠gg) wc _:=((Kp.of_bel (K:=fun b=>¬ X1 b/\b≠gg) HB12.o).trans HK13.o (fun _ _ h=>h.1)).trans hKE (fun _ _ h=>h.2)
     have hX2:∀ b,b<wc.heap.size->¬ X1 b->¬ X2 b:=fun b hb h1 h2=>(HX13.o b h2).elim h1 (fun h=>by omega)
     refine ⟨_,X2,rfl,?_,HK1.o.trans hKc (fun b hb h=>⟨fun h1=>(HX1.o b h1).elim h (fun h=>by omega),by omega⟩),fun b hb=>(HX13.o b hb).elim (HX1.o b) (fun h=>.inr (by omega)),?_⟩
     ·rw [HAE.o,<- List.append_assoc]
      refine N.keep _ _ _ _ HI13.o (hKE.mono (fun b _ hb e=>?_))
      subst e
      rcases hb with h | h
      ·omega
      ·exact (HX13.o _ h).elim hgX (fun h=>by omega)
     ·rw [HIE.o]
      refine zXv ((HKd.o.its.agree (hKc.agree (fun b hb=>⟨hb.2.1,hb.2.2,by omega⟩))).mono (fun b hb=>⟨hb.1,Zc hb.2.1 hKc.size,hX2 b hb.2.1 hb.2.2⟩)) w15.heap.size ⟨?_,by simp,fun hx=>?_⟩ (Blk.new' w15 _ rfl _ _)
      ·have:=hK15.size;have:=HGM.o;omega
      ·have h1:=N.lt _ _ _ HI13.o _ hx;have:=hK15.size;have:=HGM.o;omega
end Go.Proofs.YtklbmkaomojciaaGreat

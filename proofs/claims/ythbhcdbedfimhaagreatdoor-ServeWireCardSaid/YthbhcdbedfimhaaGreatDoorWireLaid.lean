/- serve.Play: walked. -/
import Derived.Test.YthbhcdbedfimhaaGreatDoorServeDo
import Derived.Test.YthbhcdbedfimhaaGreatDoorRows
import Derived.Laws.IdiomStrings
import Derived.Lib.AtoiErrMem
import Derived.Lib.LaidTab
import Derived.Stop.LaidErr
import Derived.LaidMore
import Derived.LaidHandle
import Derived.Deep.DeepHandedRow
import Derived.Deep.DeepWitnessRowRef
set_option maxRecDepth 100000
set_option maxHeartbeats 4000000
namespace Go.Proofs.YthbhcdbedfimhaaGreatDoor
open Go.RowKit
variable {g lo:Nat} {B:Nat->Prop} {o:Value} {W W' w:World}
def rdAsk:World->List Value->Qs->Prop:=fun _ cs a=>cs=[.int .i64 a.kind,.int .i64 a.node,.int .i64 a.chg.kind,.int .i64 a.chg.node,.int .i64 a.chg.dest,.int .i64 a.chg.before,.string ⟨a.chg.name.toArray⟩,.string ⟨a.chg.value.toArray⟩]
abbrev zW2 (B:Nat->Prop) (w:World) (v:Value) (l:List Qs):Prop:=qQa 8 rdAsk B w v l
theorem slt_reps:SlT Tryz.prog 31 44 5 80:=by
 refine ⟨by kernel_rfl,?_⟩;obtain ⟨i,h,b,c,d⟩:=info_parts (by kernel_rfl:(Tryz.prog.info? 44).map (fun i=>(i.zero,i.size,i.bytes))=some (some (.agg #[.int .i64 0,.int .i64 0,.string ⟨#[]⟩,.slice none 0 0,.slice none 0 0]),5,80));exact ⟨i,_,h,b,c,d,rfl⟩
theorem one_rep {cs:List Value} {r:Rp} (h:rdRp B w cs r):∀ u∈cs,u.oneCell'=true:=by
 obtain ⟨E,i,rfl,d,e⟩:=h;obtain ⟨a,c,rfl,_,_⟩:=d.form;obtain ⟨a,c,rfl,_,_⟩:=Rf e;intro u b;simp at b;rcases b with rfl | rfl | rfl | rfl | rfl <;> rfl
theorem qQa.cells {α:Type} {sz:Nat} {rd:World->List Value->α->Prop} {a:Option Addr} {n C:Nat} {l:List α} (h:qQa sz rd B w (.slice a n C) l) (y:0<sz) (i:Nat) (u:i<l.length) :
 ∃ b o cs,a=some ⟨b,o,none⟩/\B b/\rd w cs l[i]/\cs.length=sz/\w.cell? ⟨b,o+i*sz,none⟩=cs[0]?/\∀ k,k<sz->w.cell? ⟨b,o+i*sz+k,none⟩=cs[k]?:=by
 obtain ⟨b,o,c,cs,e,m,q,s,t⟩:=h.elem i u;simp at e;have d:∀ k,k<sz->w.cell? ⟨b,o+i*sz+k,none⟩=cs[k]?:=fun k d=>by rw [Zi (by omega)];exact s.at k (by omega)
 exact ⟨b,o,cs,e.1,m,t,q,d 0 y,d⟩
abbrev Dat (lo g:Nat) (W:World) (o:Value) (b:Nat):Prop:=lo<=b/\b<W.heap.size/\b≠g/\o.ownBlock≠some b
structure PlC (lo g:Nat) (W:World) (o:Value) (E:Eng) (R:List Rp):Prop where
 var:∃ da dn dc ta tn tc ma mn mc ia im ic,Blk W g [.slice da dn dc,.slice ta tn tc,.slice ma mn mc,.slice ia im ic] 30/\EngV (Dat lo g W o) W (.slice da dn dc) (.slice ta tn tc) (.slice ma mn mc) (.slice ia im ic) E
 row:qQb 5 (rdRp (Dat lo g W o)) lo 44 W o R
 ne:∀ b,o.ownBlock=some b->b≠g
 lo:lo<=g
theorem PlC.bel {E:Eng} {R:List Rp} (h:PlC lo g W o E R) (c:Bel W W'):PlC lo g W' o E R:=by
 obtain ⟨⟨D,u,t,T,J,G,M,F,C,I,A,z,e,i⟩,d,m,s⟩:=h;have y:=c.size;exact ⟨⟨_,_,_,_,_,_,_,_,_,_,_,_,e.bel c,i.move fun b q=>⟨c.block b q.2.1,q.1,by omega,q.2.2⟩⟩,d.redo (fun b q=>c.block b (d.lt b q).2) fun _ _ _ r=>r.move fun b q=>⟨c.block b q.2.1,q.1,by omega,q.2.2⟩,m,s⟩
theorem PlC.eng {E d:Eng} {R:List Rp} {da dn dc ta tn tc ma mn mc ia im ic} (h:PlC lo g W o E R) (c:FrE g W W') (e:Blk W' g [.slice da dn dc,.slice ta tn tc,.slice ma mn mc,.slice ia im ic] 30) (hv:EngV (Dat lo g W o) W (.slice da dn dc) (.slice ta tn tc) (.slice ma mn mc) (.slice ia im ic) d):PlC lo g W' o d R:=by
 have s:=c.size;exact ⟨⟨_,_,_,_,_,_,_,_,_,_,_,_,e,hv.move fun b q=>⟨c.block b q.2.1 q.2.2.1,q.1,by omega,q.2.2⟩⟩,h.row.redo (fun b q=>c.block b (h.row.lt b q).2 (h.ne b q)) fun _ _ _ r=>r.move fun b q=>⟨c.block b q.2.1 q.2.2.1,q.1,by omega,q.2.2⟩,h.ne,h.lo⟩
theorem PlC.push {o':Value} {E:Eng} {R:List Rp} {r:Rp} (h:PlC lo g W o E R) (m:qQb 5 (rdRp (Dat lo g W o)) lo 44 W' o' (R++[r])) (hg:W.grownBy W' o.ownBlock) (i:qQ9 W o o'):PlC lo g W' o' E (R++[r]):=by
 obtain ⟨⟨D,y,u,T,K,J,M,G,F,I,C,A,k1,k2⟩,k3,k4,k5⟩:=h;have z:=hg.size;have t:=k1.lt;have d:∀ b,lo<=b/\b<W.heap.size/\b≠g/\o.ownBlock≠some b->lo<=b/\b<W'.heap.size/\b≠g/\o'.ownBlock≠some b:=fun b q=>⟨q.1,by omega,q.2.2.1,by
  rcases i with e | ⟨k,e,s⟩
  ·rw [e];exact q.2.2.2
  ·rw [e];intro e;cases e;omega⟩
 refine ⟨⟨_,_,_,_,_,_,_,_,_,_,_,_,k1.of (hg.block g t fun e=>k4 g e.symm rfl),k2.move fun b q=>⟨hg.block b q.2.1 fun e=>q.2.2.2 e.symm,d b q⟩⟩,m.redo (fun _ _=>rfl) fun _ _ _ r=>r.move fun b q=>⟨rfl,d b q⟩,fun b e=>?_,k5⟩;rcases i with c | ⟨k,c,s⟩
 ·exact k4 b (c▸e)
 ·rw [c] at e;cases e;omega
def PlAns (w:World) (l:List Qs):World->Value->Prop:=fun w' y=>∃ da dn dc ta tn tc ma mn mc ia im ic ra rn rc,y=.tuple #[.agg #[.slice da dn dc,.slice ta tn tc,.slice ma mn mc,.slice ia im ic],.slice ra rn rc,.int .i64 (if 60<l.length then 5 else 0)]/\rn=(if 60<l.length then [] else (playR l ⟨rootD,[],[],[]⟩).2).length /\
 qQa 5 (rdRp fun b=>w.heap.size<=b/\b<w'.heap.size) (fun b=>w.heap.size<=b/\b<w'.heap.size) w' (.slice ra rn rc) (if 60<l.length then [] else (playR l ⟨rootD,[],[],[]⟩).2)
theorem qWo {m: Nat} {v: Value} {l: List Qs} {w: World} (hv : zW2 (· < m) w v l) (hm : m <= w.heap.size) (hl : ∀ a ∈ l, a.chg.name.length <= 9223372036854775807 /\ a.chg.value.length <= 9223372036854775807) (hT : ∀ W, Bel w W -> Lib.TabIs Tryz.prog W "internal/strconv.uint64pow10" .u64 Lib.pow10Tab) :
 Calls Tryz.prog 5 #[v] w (Rn w (PlAns w l)):=by
 obtain ⟨va,vc,rfl,v1,v2⟩:=Rf hv;have HV:=lH hv;have HL:=lH hl;have HT:=lH hT;clear hv hl hT;go_enter Tryz.func5,Tryz.ntmps5
 go_upto_region 1 with fail
 refine qY7 ?_;intro d ah u;have G:=lH ah;have ae:=lH u;clear ah;by_cases K:60<l.length
 ·have c1:=u.cell;have f1:=u.frozen;have h6:(60:Int)<(l.length:Int):=by omega
  have Q:=lH K;clear K;go_wp2;refine qW4 rfl u rfl rfl rfl rfl fun W' F=>⟨F.bel G.o (Zb _),_,rfl,none,0,0,none,0,0,none,0,0,none,0,0,none,0,0,?_⟩;rw [if_pos Q.o,if_pos Q.o];exact ⟨rfl,rfl,qQa.nil⟩
 have h6:¬ (60:Int)<(l.length:Int):=by omega
 have Q:=lH K;clear K;go_upto_region 4 with (go_at_call 9;(with_reducible refine (zQv _).mono ?_);rintro e w2 ⟨b2,u1,rfl,dv,rfl,o2⟩;obtain ⟨na,nc,rfl,_,_⟩:=Rf o2;have ad:=lH o2;have ab:=lH b2;clear b2 o2)
 refine qY7 ?_;intro w3 M ak;have ar:=lH (Bt ab.o M);have ai:PlC d.heap.size w2.heap.size w3 (.slice none 0 0) ⟨rootD,[],[],[]⟩ []:=⟨⟨_,_,_,_,_,_,_,_,_,_,_,_,ak,⟨(ad.o.agree fun b c=>M.block b c.2).mono fun b c=>⟨c.1,by have:=M.size;omega,by omega,by simp [Value.ownBlock]⟩,qQa.nil,qQa.nil,qQa.nil⟩⟩,qQb.nil _ _ _,(fun _ h=>by cases h),ab.o.size⟩;have au:=lH ai;clear M ak ai ad u;generalize w2.heap.size=J at *
 go_wp2;go_loopw [6,18] (fun o a9 wr=>∃ (j:Nat) (E:Eng) (R:List Rp),j<=l.length/\a9=.int .i64 j/\PlC d.heap.size J wr o E R/\EngOk E/\R.length=j/\R++(playR (l.drop j) E).2=(playR l ⟨rootD,[],[],[]⟩).2/\Bel d wr) (fun _ a9 _=>l.length - (intOf a9).toNat)
 case atStart=>exact ⟨0,_,[],by omega,rfl,au.o,zYt,rfl,rfl,ar.o⟩
 case round=>
  obtain ⟨j,E,R,hj,rfl,hC,ao,hR,hP,hB⟩:=hrel;obtain ⟨z,A,rfl,_,_⟩:=hC.row.read.form;have V:=lH hC;have ag:=lH ao;have HR:=lH hR;have HP:=lH hP;have C:=lH hB;clear hC ao hR hP hB;by_cases a8:j<l.length
  ·have bh:(j:Int)<(l.length:Int):=(by omega);have ap:=qQa.later HV.o (fun _ _ _ _ h=>h) (Bt G.o C.o) hm;obtain ⟨b,bm,Y,rfl,_,rfl,_,c0,ck⟩:=ap.cells (by decide) j a8;obtain ⟨bd,be⟩:=HL.o _ (Zl a8);have b3:Hi ((playR (l.drop j) E).2=(doR E l[j]).2::(playR (l.drop (j+1)) (doR E l[j]).1).2):=lH (by rw [List.drop_eq_getElem_cons a8];rfl);clear ap;generalize l[j]=x at *
   obtain ⟨xk,xn,xc⟩:=x;go_upto_region 8 with fail
   refine qY7 ?_;intro w4 P y;have bf:=lH P;have c4:=y.cell;have i:=lH (V.o.bel P);obtain ⟨da,dn,dc,ta,tn,tc,ma,mn,mc,ia,im,ic,a7,aq⟩:=i.o.var;have I:=lH (Bt C.o P);have cD:=lH (zK3 xk xn xc w4 aq (fun b c=>c.2.1) ag.o bd be fun W h=>HT.o W (Bt G.o (Bt I.o h)));have b4:=lH (zX7 ag.o ⟨xk,xn,xc⟩);have cg:=a7.cell;have az:=lH a7;clear c0 ck P y a7 aq;generalize doR E ⟨xk,xn,xc⟩=D at *
   go_upto_region 9 with (go_at_call 10;(with_reducible refine cD.o.mono ?_);rintro e w5 ⟨b5,pa,pn,pc,qa,qn,qc,ra,rn,rc,sa,sn,sc,y0,y1,y2,y3,y4,rfl,v5,r5⟩;have U:=lH b5;have b9:=lH v5;obtain ⟨ev,iv,e6,r6,r7⟩:=r5;obtain ⟨ea,ec,rfl,_,_⟩:=r6.form;obtain ⟨ja,jc,rfl,_,_⟩:=Rf r7;simp only [List.cons.injEq,and_true] at e6;obtain ⟨rfl,rfl,rfl,rfl,rfl⟩:=e6;have b7:=lH (show rdRp _ w5 _ D.2 from ⟨_,_,rfl,r6,r7⟩);clear b5 v5 r6 r7)
   refine wp_new2 ?_;intro w7 t al am;have a6:=Bt U.o t;have c7:=al.cell;obtain ⟨_,_,_,_,_,_,_,_,_,_,_,_,T,_⟩:=(i.o.bel a6).var;have f7:=T.frozen;have bb:=T.cell;have hl:=az.o.lt;have bj:=U.o.size;have bk:=t.size;have ba:=lH (b9.o.move (w':=w7) (B':=Dat d.heap.size J w7 (.slice z R.length A)) fun b c=>⟨t.block b c.2,by
    have bg:=I.o.size;rcases c.1 with h | h
    ·exact ⟨h.1,by omega,h.2.2⟩
    ·exact ⟨by omega,by omega,by omega,fun e=>by have:=(i.o.row.lt b e).2;omega⟩⟩)
   have av:=lH (i.o.bel a6);have af:=lH am;have b1:=lH T;have ac:=lH t;clear a6 al am T t c4 cg;go_upto_region 10 with fail
   refine wp_st4 b1.o ?_;intro w8 s an;have aj:=av.o.eng s an ba.o;have bl:=s.size;have b8:=lH (b7.o.move (w':=w8) (B':=Dat d.heap.size J w8 (.slice z R.length A)) fun b c=>⟨(s.block b (by omega) (by omega)).trans (ac.o.block b c.2),by have:=I.o.size;omega,by omega,by omega,fun e=>by have:=(i.o.row.lt b e).2;omega⟩);have c8:=(af.o.of (s.block _ af.o.lt (by omega))).cell;have aa:=lH (s.bel (Bt I.o (Bt U.o ac.o)) i.o.lo);have X:=lH aj;have bi:R.length+1<=61:=(by have:=HR.o;omega);clear f7 bb c7 s an aj;go_wp2_with (at_builtin;go_must (refine qKo rfl _ _ _ rfl slt_reps (by decide) (rd:=rdRp (Dat d.heap.size J w8 (.slice z R.length A))) (v:=.slice z R.length A) ?hst (fun _ _ _ h=>one_rep h) (base:=d.heap.size) rfl X.o.row rfl rfl D.2 ⟨rfl,b8.o⟩ ?hby ?hmx aa.o.size ?_;(case hby=>omega);(case hmx=>omega);(case hst=>exact fun w' Y bn hg hr=>hr.move fun b q=>⟨hg.block b q.2.1 fun e=>q.2.2.2 e.symm,q⟩);intro v9 w9 o9 Z f9;have aw:=lH (X.o.push o9 Z f9);have ax:=lH Z;clear o9 Z f9))
   go_roundw;case rel=>exact ⟨j+1,D.1,R++[D.2],by omega,by go_num,aw.o,b4.o,by rw [Zj,HR.o];rfl,by rw [<- HP.o,b3.o,List.append_assoc];rfl,Below.own aa.o (Zb _) X.o.row ax.o⟩
   case measure=>simp [intOf];omega
  ·have hd:l.drop j=[]:=List.drop_of_length_le (by omega);have b6:Hi (R=(playR l ⟨rootD,[],[],[]⟩).2):=lH (by have:=HP.o;rw [hd] at this;simpa [playR] using this);clear hd;obtain ⟨da,dn,dc,ta,tn,tc,ma,mn,mc,ia,im,ic,y,bc⟩:=V.o.var;have c4:=y.cell;have S:=ae.o.bel C.o;have c0:=S.cell;have f0:=S.frozen;have ay:=lH S;clear y bc S;go_wp2;refine qW4 rfl ay.o rfl rfl rfl rfl fun W' F=>⟨F.bel (Bt G.o C.o) (Zb _),_,rfl,da,dn,dc,ta,tn,tc,ma,mn,mc,ia,im,ic,z,R.length,A,?_⟩;rw [if_neg Q.o,if_neg Q.o,<- b6.o];have h1:=ae.o.lt;have hs:=F.size;have hm:∀ b,d.heap.size<=b/\b<wr.heap.size->W'.heap[b]?=wr.heap[b]?/\w.heap.size<=b/\b<W'.heap.size:=fun b q=>⟨F.block b q.2 (by omega),by omega⟩;exact ⟨rfl,rfl,(V.o.row.row.mono (C:=fun b=>d.heap.size<=b/\b<wr.heap.size) (rd':=fun _ Y r=>rdRp (fun b=>w.heap.size<=b/\b<W'.heap.size) W' Y r) (fun b q=>⟨q.1,q.2.1⟩) fun _ _ _ r=>r.move fun b q=>hm b ⟨q.1,q.2.1⟩).agree (fun b q=>(hm b q).1) (fun _ _ _ h=>h) |>.mono (fun b q=>(hm b q).2) fun _ _ _ h=>h⟩
end Go.Proofs.YthbhcdbedfimhaaGreatDoor
set_option maxRecDepth 100000
namespace Go.Proofs.YthbhcdbedfimhaaGreatDoor
open Go.RowKit Go.WideShapes Go.ChangeShapes
variable {held:Bool} {b0:Nat} {sp:Nat->Bool} {H:Type} {v:Value} {w:World}
theorem open_row {enc:TypeId×Value->H} {P:Program} {t e:TypeId} (z:P.underlying t=some (.slice e)) {sz:Nat} (ac:0<sz) (ce:P.cellsOf e=sz) {α:Type} [Inhabited α] {rd:World->List Value->α->Prop} {R:α->Prop} 
 (ho:∀ fuel cs (y:DataW H×List MemPlace),DataW.trod enc P w 0 sp held fuel e cs=some y->∃ x,rd w cs x/\cs.length=sz/\R x)
 {r:Go.Reach} {d:DataW H} {ps:List MemPlace} (C:Value.okWide P w r b0 t v) (hd:DataW.Trod enc P w 0 sp held t v d ps) :
 ∃ l:List α,qQa sz rd (·<w.heap.size) w v l/\∀ x∈l,R x:=by
 obtain ⟨a0,E,J,rfl⟩:=okWide_slice z C;obtain ⟨fuel,U⟩:=hd;rcases Deep.open_slice z U with ⟨c,T⟩ | ⟨a,ad,a9,a7,n,a8,Pl,c,_,Y,Z,a6,T,D⟩
 ·simp [Value.cells] at c;obtain ⟨rfl,rfl,rfl⟩:=c;exact ⟨[],qQa.nil,by simp⟩
 ·simp [Value.cells] at c;obtain ⟨rfl,rfl,rfl⟩:=c;have I:a.spot=none:=by
   simp only [Value.okWide,z,Cell.okWide,Cell.ok] at C;exact C.2.2.2.1
  obtain ⟨b,s,ae⟩:=a;simp only at I;subst I;have ab:E<=a7:=by rw [a6];split <;> omega
  have K:∀ i,i<E->∃ x:α,(∃ cs,cs.length=sz/\Cells w b (s+i*sz) cs/\rd w cs x)/\R x:=by
   intro i m;obtain ⟨cs,c,M⟩:=D i (by omega);rw [ce] at c;obtain ⟨_,aa,S⟩:=World.cells?_some c;obtain ⟨x,q,Q,F⟩:=ho _ _ _ M;refine ⟨x,⟨cs,Q,fun j u A=>?_,q⟩,F⟩;have V:j<sz:=by
    rcases Nat.lt_or_ge j cs.length with h | h
    ·omega
    ·rw [List.getElem?_eq_none h] at A;simp at A
   have:=S j V;rw [Deep.add_add,Go.WideShapes.add_plain] at this;rw [show s+i*sz+j=s+(i*sz+j) by omega,this,A]
  obtain ⟨X,G⟩:=Deep.choose_lt K;refine ⟨(List.range E).map X,.inr ⟨b,s,J,by simp,by simpa using Y,max_eq▸Z,fun i m=>?_⟩,fun x D=>?_⟩
  ·obtain ⟨⟨cs,q,Q,F⟩,_⟩:=G i (by simpa using m);exact ⟨Cells.lt Q (by intro h;rw [h] at q;simp at q;omega),cs,q,Q,by simpa using F⟩
  ·obtain ⟨i,m,rfl⟩:=List.mem_map.1 D;exact (G i (by simpa using m)).2
instance:Inhabited Qs:=⟨⟨0,0,{}⟩⟩
theorem law_asks {enc:TypeId×Value->H} {r:Go.Reach} {d:DataW H} {P:List MemPlace} (M:Value.okWide Tryz.prog w r b0 22 v) (hd:DataW.Trod enc Tryz.prog w 0 sp held 22 v d P) :
 ∃ l:List Qs,zW2 (·<w.heap.size) w v l/\∀ a∈l,a.chg.name.length<=9223372036854775807/\a.chg.value.length<=9223372036854775807:=by
 refine open_row Tryz.underlying22 (by decide) (by kernel_rfl) (fun U A y h=>?_) M hd;obtain ⟨T,n,_,_,s,J,m⟩:=DataW.trod_struct Tryz.underlying38 h;rw [show Tryz.prog.cellsOf 38=8 by kernel_rfl] at s;match A,s,T,J with
 | [z,q,c,c3,c4,C,b,e],_,[X,R,S],_=>
 have Q:DataW.trod enc Tryz.prog w 0 sp held n 3 (List.take (Tryz.prog.cellsOf 3) [z,q,c,c3,c4,C,b,e])=some X:=m 0 _ rfl;have t:DataW.trod enc Tryz.prog w 0 sp held n 3 (List.take (Tryz.prog.cellsOf 3) [q,c,c3,c4,C,b,e])=some R:=m 1 _ rfl;have u:DataW.trod enc Tryz.prog w 0 sp held n 36 (List.take (Tryz.prog.cellsOf 36) [c,c3,c4,C,b,e])=some S:=m 2 _ rfl;rw [show Tryz.prog.cellsOf 3=1 by kernel_rfl] at Q t;rw [show Tryz.prog.cellsOf 36=6 by kernel_rfl] at u;obtain ⟨K,E,_⟩:=DataW.trod_int Tryz.underlying3 Q;obtain ⟨k1,D,_⟩:=DataW.trod_int Tryz.underlying3 t;obtain ⟨x,F,V,G,I⟩:=open_chg Tryz.underlying36 (by kernel_rfl) rfl (by
  intro i f h;match i with
 | 0=>simp at h;subst h;exact ⟨rfl,by kernel_rfl,Tryz.underlying3⟩
 | 1=>simp at h;subst h;exact ⟨rfl,by kernel_rfl,Tryz.underlying3⟩
 | 2=>simp at h;subst h;exact ⟨rfl,by kernel_rfl,Tryz.underlying3⟩
 | 3=>simp at h;subst h;exact ⟨rfl,by kernel_rfl,Tryz.underlying3⟩
 | 4=>simp at h;subst h;exact ⟨rfl,by kernel_rfl,Tryz.underlying9⟩
 | 5=>simp at h;subst h;exact ⟨rfl,by kernel_rfl,Tryz.underlying9⟩
 | i+6=>simp at h) u
 refine ⟨⟨K,k1,x⟩,?_,rfl,G,I⟩;cases E;cases D;exact congrArg (fun r=>Value.int .i64 K::Value.int .i64 k1::r) F
end Go.Proofs.YthbhcdbedfimhaaGreatDoor
namespace Go.Proofs.YthbhcdbedfimhaaGreatDoor
variable {k1 k2 k3 k4 k5 ok ok' ok0:Bool} {checked level node role v:Int} {x:It} {O:List It} {N a a' a0 a1 a2 a3 a4 a5 f j k n:Nat} {l:Txt} {p:Txt->Option (It×Txt)} {α:Type}
def NoSp (l:Txt) (a k:Nat):Prop:=∀ c∈(l.drop a).take (k - a),(c != 32)=true
theorem NoSp.start (l:Txt) (a:Nat):NoSp l a a:=by simp [NoSp]
theorem zZr (h:a<=k) (b:k<l.length):(l.drop a).take (k+1 - a)=(l.drop a).take (k - a)++[l[k]]:=by
 rw [show k+1 - a=(k - a)+1 by omega,Zk (by simp;omega)];simp [show a+(k - a)=k by omega]
theorem NoSp.next (h:NoSp l a k) (d:a<=k) (i:k<l.length) (e:l[k]≠32):NoSp l a (k+1):=by
 unfold NoSp at *
 rw [zZr d i];intro c m;rcases List.mem_append.1 m with b | b
 ·exact h c b
 ·rw [List.mem_singleton.1 b];simpa using e
theorem qB0 (h:NoSp l a k) (b:a<=k):qVm (l.drop a)=(l.drop a).take (k - a)++qVm (l.drop k):=by
 have e:l.drop a=(l.drop a).take (k - a)++l.drop k:=by
  have:=(List.take_append_drop (k - a) (l.drop a)).symm;rw [List.drop_drop,show a+(k - a)=k by omega] at this;exact this
 unfold qVm;conv=>lhs;rw [e]
 rw [List.takeWhile_append_of_pos h]
theorem jQr (h:NoSp l a l.length) (ha:a<=l.length):takeP (l.drop a)=none:=by
 have e:=qB0 h ha;rw [List.drop_length,show qVm []=[] from rfl,List.append_nil,Zn (by simp)] at e;rw [takeP,e,if_neg (by omega)]
theorem zDj (h:NoSp l a k) (d:a+21<=k) (b:k<l.length) (c:l[k]≠32):takeP (l.drop a)=none:=by
 have e:=qB0 (h.next (by omega) b c) (by omega);rw [takeP,if_neg];rw [e];simp;omega
theorem zJ5 (h:NoSp l a k) (b:a<=k) (d:k<l.length) (c:l[k]=32):qVm (l.drop a)=(l.drop a).take (k - a):=by
 rw [qB0 h b,List.drop_eq_getElem_cons d,c];simp [qVm]
theorem zKb (h:a<=k) (b:k<l.length):((l.drop a).take (k - a)).length=k - a:=by simp;omega
theorem takeP_ok (h:NoSp l a k) (d:a<=k) (e:k<l.length) (q:l[k]=32) (b:Lib.atoiAll ((l.drop a).take (k - a))=.ok v) (c:Lib.itoa v=(l.drop a).take (k - a)):takeP (l.drop a)=some (v,l.drop (k+1)):=by
 have i:=zKb d e;have m:=qHe (Lib.atoiAll_bounds b);rw [takeP,zJ5 h d e q,if_pos ⟨by rw [i];simp;omega,by rw [<- c];exact m⟩,b];simp only;rw [if_pos c,i,List.drop_drop,show a+(k - a+1)=k+1 by omega]
theorem zF5 (h:NoSp l a k) (c:a<=k) (e:k<l.length) (d:l[k]=32) (b:∀ v,Lib.atoiAll ((l.drop a).take (k - a))≠.ok v):takeP (l.drop a)=none:=by
 rw [takeP,zJ5 h c e d];split
 ·split
  ·rename_i n i;exact absurd i (b n)
  ·rfl
 ·rfl
theorem zGo (h:NoSp l a k) (d:a<=k) (i:k<l.length) (e:l[k]=32) (b:Lib.atoiAll ((l.drop a).take (k - a))=.ok v) (c:Lib.itoa v≠(l.drop a).take (k - a)):takeP (l.drop a)=none:=by
 rw [takeP,zJ5 h d i e,b];simp only [if_neg c];split <;> rfl
def qHo (l:Txt) (a:Nat) (ok:Bool) (v:Int) (a':Nat) (ok':Bool):Prop:=
 a'<=l.length/\(ok'=true->ok=true/\takeP (l.drop a)=some (v,l.drop a'))/\(ok'=false->v=0/\(ok=false∨takeP (l.drop a)=none))
theorem qHo.off (ha:a<=l.length):qHo l a false 0 a false:=⟨ha,by simp,by simp⟩
theorem qHo.none (ha:a<=l.length) (h:takeP (l.drop a)=Option.none):qHo l a ok 0 a false:=⟨ha,by simp,fun _=>⟨rfl,.inr h⟩⟩
theorem qHo.some (b:k<l.length) (h:takeP (l.drop a)=Option.some (v,l.drop (k+1))):qHo l a true v (k+1) true:=⟨b,fun _=>⟨rfl,h⟩,by simp⟩
structure RSt {α:Type} (P:Txt->Option (α×Txt)) (l:Txt) (a:Nat) (ok:Bool) (x:α) (a':Nat) (ok':Bool):Prop where
 le:a'<=l.length
 good:ok'=true->ok=true/\P (l.drop a)=Option.some (x,l.drop a')
 bad:ok'=false->ok=false∨P (l.drop a)=Option.none
theorem qHo.st (h:qHo l a ok v a' ok'):RSt takeP l a ok v a' ok':=⟨h.1,h.2.1,fun e=>(h.2.2 e).2⟩
def andP {α β:Type} (P:Txt->Option (α×Txt)) (Q:α->Txt->Option (β×Txt)) (b:Txt):Option (β×Txt):=
 match P b with
 | none=>none
 | some (x,r)=>Q x r
theorem RSt.and {m:Type} {P:Txt->Option (α×Txt)} {Q:α->Txt->Option (m×Txt)} {c i:Bool} {x:α} {y:m} (h:RSt P l a ok x a1 c) (k:RSt (Q x) l a1 c y a2 i):RSt (andP P Q) l a ok y a2 i:=by
 refine ⟨k.le,fun e=>?_,fun e=>?_⟩
 ·obtain ⟨E,q⟩:=k.good e;obtain ⟨d,b⟩:=h.good E;exact ⟨d,by rw [andP,b];exact q⟩
 ·cases E:c with
  | false=>
    rcases h.bad E with b | b
    ·exact .inl b
    ·exact .inr (by rw [andP,b])
  | true=>
    obtain ⟨d,b⟩:=h.good E;rcases k.bad e with K | K
    ·rw [E] at K;cases K
    ·exact .inr (by rw [andP,b];exact K)
theorem RSt.never {x:α} (ha:a<=l.length):RSt (fun _=>none) l a ok x a false:=⟨ha,by simp,fun _=>.inr rfl⟩
theorem RSt.zero (ha:a'<=l.length):RSt (qXr 0) l a ok x a' false:=⟨ha,by simp,fun _=>.inr rfl⟩
theorem RSt.of {P Q:Txt->Option (α×Txt)} {x:α} (h:RSt P l a ok x a' ok') (e:∀ b,P b=Q b):RSt Q l a ok x a' ok':=by
 have:P=Q:=funext e;subst this;exact h
def endP (f:Nat) (h:Hd):Txt->Option (It×Txt):=andP fewP fun n=>andP (manyP (qXr f) n) fun k b=>some (.mk h k,b)
def offP (f:Nat) (node role level checked off:Int):Txt->Option (It×Txt):=
 if 0<=off/\off<=1 then andP wordP fun name=>andP wordP fun about=>endP f ⟨node,role,name,about,level,checked,decide (off=1)⟩ else fun _=>none
def stepP (f:Nat):Txt->Option (It×Txt):=andP takeP fun node=>andP takeP fun role=>andP takeP fun level=>andP takeP fun checked=>andP takeP fun off=>offP f node role level checked off
theorem zBs (f:Nat) (b:Txt):stepP f b=qXr (f+1) b:=by
 rw [qXr];unfold stepP offP endP hdP andP;cases takeP b with
 | none=>rfl
 | some q=>
   obtain ⟨node,b⟩:=q;simp only;cases takeP b with
   | none=>rfl
   | some Q=>
     obtain ⟨role,b⟩:=Q;simp only;cases takeP b with
     | none=>rfl
     | some d=>
       obtain ⟨level,b⟩:=d;simp only;cases takeP b with
       | none=>rfl
       | some e=>
         obtain ⟨checked,b⟩:=e;simp only;cases takeP b with
         | none=>rfl
         | some i=>
           obtain ⟨c,b⟩:=i;simp only;by_cases h:0<=c/\c<=1
           ·rw [if_pos h,if_pos h];cases wordP b with
            | none=>rfl
            | some m=>
              obtain ⟨name,b⟩:=m;simp only;cases wordP b with
              | none=>rfl
              | some s=>
                obtain ⟨A,b⟩:=s;simp only;cases fewP b with
                | none=>rfl
                | some t=>
                  obtain ⟨n,b⟩:=t;simp only;cases manyP (qXr f) n b with
                  | none=>rfl
                  | some u=>rfl
           ·rw [if_neg h,if_neg h]
structure KidSt (p:Txt->Option (It×Txt)) (l:Txt) (a0:Nat) (ok0:Bool) (N j:Nat) (O:List It) (a:Nat) (ok:Bool):Prop where
 le:a<=l.length
 len:O.length=j
 good:ok=true->ok0=true/\manyP p j (l.drop a0)=some (O,l.drop a)
 bad:ok=false->ok0=false∨manyP p N (l.drop a0)=none
theorem zGm {b:Txt} {m:Nat} (h:manyP p n b=none) (hm:n<=m):manyP p m b=none:=by
 induction hm with
 | refl=>exact h
 | step _ i=>rw [qGc,i]
theorem KidSt.start (ha:a0<=l.length):KidSt p l a0 ok0 N 0 [] a0 ok0:=⟨ha,rfl,fun e=>⟨e,rfl⟩,fun e=>.inl e⟩
theorem KidSt.next (h:KidSt p l a0 ok0 N j O a true) (c:j<N) (k:RSt p l a true x a' ok'):KidSt p l a0 ok0 N (j+1) (O++[x]) a' ok':=by
 obtain ⟨E,b⟩:=h.good rfl;refine ⟨k.le,by simp [h.len],fun e=>⟨E,?_⟩,fun e=>.inr ?_⟩
 ·rw [qGc,b];simp only;rw [(k.good e).2]
 ·refine zGm (n:=j+1) ?_ c;rw [qGc,b];simp only;rcases k.bad e with q | q
  ·cases q
  ·rw [q]
theorem KidSt.done (h:KidSt p l a0 ok0 N j O a ok) (b:ok=true->j=N):RSt (manyP p N) l a0 ok0 O a ok:=
 ⟨h.le,fun e=>by obtain rfl:=b e;exact h.good e,h.bad⟩
theorem RSt.item {A c d h:Nat} {K m q s:Bool} {b:Int} {name t:Txt} 
 (u:RSt takeP l a ok node a1 k1) (y:RSt takeP l a1 k1 role a2 k2) (z:RSt takeP l a2 k2 level a3 k3) (C:RSt takeP l a3 k3 checked a4 k4) (D:RSt takeP l a4 k4 b a5 k5) (I:0<=b/\b<=1)
 (E:RSt wordP l a5 k5 name A K) (F:RSt wordP l A K t c m) (G:RSt fewP l c m n d q) (i:RSt (manyP (qXr f) n) l d q O h s) :
 RSt (qXr (f+1)) l a ok (.mk ⟨node,role,name,t,level,checked,decide (b=1)⟩ O) h s:=by
 refine RSt.of (u.and (y.and (z.and (C.and (D.and ?_))))) (zBs f);unfold offP;rw [if_pos I];refine E.and (F.and (G.and (i.and ⟨i.le,fun e=>⟨e,rfl⟩,fun e=>.inl e⟩)))
theorem RSt.itemBad {b:Int} 
 (c:RSt takeP l a ok node a1 k1) (d:RSt takeP l a1 k1 role a2 k2) (e:RSt takeP l a2 k2 level a3 k3) (i:RSt takeP l a3 k3 checked a4 k4) (h:RSt takeP l a4 k4 b a5 k5) (m:¬ (0<=b/\b<=1)) :
 RSt (qXr (f+1)) l a ok x a5 false:=by
 refine RSt.of (c.and (d.and (e.and (i.and (h.and ?_))))) (zBs f);unfold offP;rw [if_neg m];exact .never h.le
end Go.Proofs.YthbhcdbedfimhaaGreatDoor
set_option maxRecDepth 100000
set_option maxHeartbeats 4000000
namespace Go.Proofs.YthbhcdbedfimhaaGreatDoor
open Go.RowKit
variable {ok:Bool} {a n r:Nat} {l:Txt} {bv v:Value} {w w':World}
abbrev BysK (n:Nat) (w:World) (v:Value) (l:Txt):Prop:=qQa 1 rdBy (·<n) w v l
theorem BysK.later {m:Nat} (h:BysK n w v l) (b:Below m w w') (c:n<=m):BysK n w' v l:=
 qQa.agree h (qZs.mono (qZs.below b) (fun _ b=>Zc b c)) (fun _ _ _ d=>d)
theorem BysK.at (h:BysK n w v l) (i:l≠[]):∃ b d c,v=.slice (some ⟨b,d,none⟩) l.length c/\l.length<=c/\c<=9223372036854775807/\b<n/\∀ j (h:j<l.length),w.cell? ⟨b,d+j,none⟩=some (.int .u8 (l[j].toNat:Int)):=by
 rcases h with ⟨_,h⟩ | ⟨b,d,c,s,t,u,e⟩
 ·exact absurd h i
 ·have m:0<l.length:=List.length_pos_iff.2 i;refine ⟨b,d,c,s,t,u,(e 0 m).1,fun j y=>?_⟩;obtain ⟨_,C,z,Q,q⟩:=e j y;unfold rdBy at q;subst q;have:=Q 0 _ rfl;simpa using this
abbrev Ky:=FrE
def EnvAt (w : World) : Prop := Lib.TabIs Tryz.prog w "internal/strconv.uint64pow10" .u64 Lib.pow10Tab /\ (∃ tp p, w.var? Tryz.prog "strconv.ErrSyntax" = some #[.iface tp p]) /\ ∃ tp p, w.var? Tryz.prog "strconv.ErrRange" = some #[.iface tp p]
def Env (w:World):Prop:=∀ W,Bel w W->EnvAt W
theorem Env.on (h:Env w) (c:Bel w w'):Env w':=fun W b=>h W (Bt c b)
theorem zGk (hE:EnvAt w) (s:Txt) (i:s.length<=281474976710656):Calls Tryz.prog 24 #[.string ⟨s.toArray⟩] w fun e w'=>Bel w w'/\((∃ v,Lib.atoiAll s=.ok v/\e=.returned (.tuple #[.int .i64 v,.nilIface]))∨((∀ v,Lib.atoiAll s≠.ok v)/\∃ z t a,e=.returned (.tuple #[.int .i64 z,.iface t (.pointer (some a))]))):=by
 have d:(ByteArray.mk s.toArray).data.toList=s:=by simp
 have m:(ByteArray.mk s.toArray).size=s.length:=by simp [ByteArray.size]
 rcases h:Lib.atoiAll s with v | _ | _;focus
  refine (Tryz.strconv_Atoi_ok ⟨s.toArray⟩ (by omega) v (by rw [d];exact h) w).mono ?_
  rintro e w' ⟨rfl,c⟩
  refine ⟨?_,.inl ⟨v,rfl,rfl⟩⟩
  rcases c with rfl | ⟨t,rfl⟩
  ·exact Br _
  ·exact Lib.bytesWorld_below w 5 t
 focus
  obtain ⟨T,p,hv⟩:=hE.2.1
  refine (Tryz.strconv_Atoi_syntax_var ⟨s.toArray⟩ (by omega) (by rw [d];exact h) T p w hv).mono ?_
  rintro e w' ⟨N,rfl,_,_,b⟩
  exact ⟨b,.inr ⟨by simp,_,_,_,rfl⟩⟩
 focus
  obtain ⟨T,p,hv⟩:=hE.2.2
  refine (Tryz.strconv_Atoi_range_var ⟨s.toArray⟩ (by omega) (by rw [d];exact h) T p w hv).mono ?_
  rintro e w' ⟨N,rfl,_,_,b⟩
  exact ⟨b,.inr ⟨by simp,_,_,_,rfl⟩⟩
theorem zB3 (hE:EnvAt w) {n:Int} (h:I64 n):Calls Tryz.prog 25 #[.int .i64 n] w (Rb (.string ⟨(Lib.itoa n).toArray⟩) w):=by
 refine (Tryz.strconv_Itoa n h.1 h.2 w hE.1).mono ?_;rintro e w' ⟨rfl,k,s,rfl⟩;exact ⟨rfl,Lib.below_grow _ w (Zb _) k s⟩
abbrev Rd (r:Nat) (bv:Value) (w:World) (a:Nat) (ok:Bool):Prop:=Blk w r [bv,.int .i64 (a:Int),.bool ok] 56
def RdAns (r:Nat) (bv:Value) (l:Txt) (a:Nat) (ok:Bool) (w:World) (e:Ending) (w':World):Prop:=∃ v a' ok',e=.returned (.int .i64 v)/\Rd r bv w' a' ok'/\Ky r w w'/\qHo l a ok v a' ok'
theorem RdAns.fail (R:Rd r bv w' a ok) (b:Ky r w w') (h:qHo l a ok 0 a false):RdAns r bv l a ok w (.returned (.int .i64 0)) (w'.setCell ⟨r,2,none⟩ (.bool false)):=
 ⟨0,a,false,rfl,R.set 2 (.bool false),FrE.set b _,h⟩
theorem qD6 {w0:World} (hE:Env w0) (hb:Bel w0 w) (_:w0.heap.size<=r) (T:BysK w0.heap.size w0 bv l) (e:Rd r bv w a ok) (ha:a<=l.length) (aw:l.length<=140737488355328) :
 Calls Tryz.prog 11 #[.pointer (some ⟨r,0,none⟩)] w (RdAns r bv l a ok w):=by
 obtain ⟨va,J,rfl,_,_⟩:=Rf T;have c0:=e.cell 0;have c1:=e.cell 1;have c2:=e.cell 2;have f1:=e.frozen 1;have f2:=e.frozen 2;simp at c0 c1 c2;have Z:=lH hE;have E:=lH hb;have HL:=lH T;have d:=lH e;clear hE hb T e;go_enter Tryz.func11,Tryz.ntmps11
 go_wp2;go_loopw [3] (fun z wr=>∃ k:Nat,z=.int .i64 k/\a<=k/\k<=l.length/\k<=a+21/\Hi (NoSp l a k)/\wr=w) (fun z _=>l.length - (intOf z).toNat)
 case atStart=>exact ⟨a,rfl,Zb _,ha,by omega,lH (.start l a),rfl⟩
 case round=>
  obtain ⟨k,rfl,i,au,ar,q,rfl⟩:=hrel;by_cases c:k<l.length
  ·have af:(k:Int)<(l.length:Int):=(by omega);have ag:((k:Int)==(l.length:Int))=false:=(by simp;omega);have ah:decide ((k:Int)=(l.length:Int))=false:=(by simp;omega);obtain ⟨b,t,F,e1,ao,ap,an,Q⟩:=(HL.o.later E.o (Zb _)).at (by intro h;rw [h] at c;simp at c);simp at e1;obtain ⟨rfl,rfl⟩:=e1;have G:=Q k c;have HC:=lH Q;clear Q;by_cases m:l[k]=32
   ·rw [m] at G;have G:wr.cell? ⟨b,t+k,none⟩=some (.int .u8 32):=G;cases ok with
    | false=>
      go_wp2;go_ret;exact .fail d.o (.refl r _) (.off ha)
    | true=>
      go_upto_region 7 with fail
      have a7:Hi (∀ W,Bel wr W->W.cell? ⟨r,0,none⟩=some (.slice (some ⟨b,t,none⟩) l.length J)/\W.cell? ⟨r,1,none⟩=some (.int .i64 (a:Int))):=lH (fun W h=>by
       have q0:=(d.o.bel h).cell 0;have q1:=(d.o.bel h).cell 1;simp at q0 q1;exact ⟨q0,q1⟩)
      have ac:Hi (((l.drop a).take (k - a)).length<=281474976710656):=lH (by rw [zKb i c];omega);have Y:Hi (∀ W,Bel wr W->∀ F,(convert 42 9 (.slice (some ⟨b,t+a,none⟩) (k - a) F)).run Tryz.prog W=.ok (.string ⟨((l.drop a).take (k - a)).toArray⟩) W):=lH (fun W h F=>by
       have hh:=run_convert_bytes_back (P:=Tryz.prog) W 42 9 5 ⟨b,t+a,none⟩ F ((l.drop a).take (k - a)) Tryz.underlying42 Tryz.underlying5 Tryz.underlying9 (fun j hj=>by
        rw [zKb i c] at hj;have C:=(World.cell?_of_block (w:=wr) (w':=W) (h.block b (by have:=E.o.size;omega))).trans (HC.o (a+j) (by omega));rw [Go.WideShapes.add_plain,show t+a+j=t+(a+j) by omega,C];simp)
       rw [zKb i c] at hh;exact hh)
      have b1:¬ J=a:=(by omega);have am:(0:Int)<=(a:Int):=(by omega);have al:(a:Int)<=(k:Int):=(by omega);have av:(k:Int)<=(J:Int):=(by omega);refine qJk [0,1,2,3,4,5,6,7,8,9,10,11] [] (fun w'=>Bel wr w') (by kernel_rfl) (by kernel_rfl) (Br wr).drew ?_;simp only [pickL,List.filterMap_cons,List.filterMap_nil,Zd,Ze];iterate 10 (refine DetL.cons (v:=?_) (fun _=>Says.plain ?_ ?_) ?_;rotate_left;rfl;(intro w' S;obtain ⟨p0,p1⟩:=a7.o w' S;clear S;go_simp;with_reducible rfl);simp only [Act.put,Zh,Zf,Zg])
      iterate 1 (refine DetL.cons (v:=?_) (fun _=>Says.plain ?_ ?_) ?_;rotate_left;rfl;(intro w' S;have aq:=Y.o w' S (J - a);clear S;go_simp;with_reducible rfl);simp only [Act.put,Zh,Zf,Zg])
      iterate 1 (refine DetL.cons (v:=?_) (fun _=>Says.plain ?_ ?_) ?_;rotate_left;rfl;(intro w' S;clear S;go_simp;with_reducible rfl);simp only [Act.put,Zh,Zf,Zg])
      refine DetL.nil (fun w5 a6=>?_);have X:=lH a6;clear a6 a7 Y;have a8:Hi (∀ v,Lib.atoiAll ((l.drop a).take (k - a))=.ok v->Lib.itoa v=(l.drop a).take (k - a)->takeP (l.drop a)=some (v,l.drop (k+1))):=lH (fun v C P=>takeP_ok q.o i c m C P);have a9:Hi ((∀ v,Lib.atoiAll ((l.drop a).take (k - a))≠.ok v)->takeP (l.drop a)=none):=lH (fun h=>zF5 q.o i c m h);have aa:Hi (∀ v,Lib.atoiAll ((l.drop a).take (k - a))=.ok v->Lib.itoa v≠(l.drop a).take (k - a)->takeP (l.drop a)=none):=lH (fun v C P=>zGo q.o i c m C P);generalize (l.drop a).take (k - a)=s at *
      have M:=lH (zGk (Z.o _ (Bt E.o X.o)) s ac.o);go_upto_region 9 with (go_at_call 24;(with_reducible refine M.o.mono ?_);rintro aj w6 ⟨b6,h6⟩;have u:=lH (Bt X.o b6);clear b6;rcases h6 with ⟨v,hv,rfl⟩ | ⟨hv,z,ty,ad,rfl⟩)
      ·have V:=lH hv;have cI:=lH (zB3 (Z.o _ (Bt E.o u.o)) (Lib.atoiAll_bounds hv));have ai:IntKind.i64.wrap ((k:Int)+1)=(k:Int)+1:=(by rw [IntKind.wrap_i64];omega);clear hv M;by_cases I:Lib.itoa v=s
       ·subst I;go_upto_region 12 with (go_at_call 25;(with_reducible refine qQf cI.o u fun w7 y=>?_))
        have R:=d.o.bel y.o;have D:=R.cell 1;have g1:=R.frozen 1;simp at D;have A:=lH R;clear R;go_wp2;go_ret;exact ⟨v,k+1,true,rfl,A.o.set 1 (.int .i64 ((k:Int)+1)),FrE.set (FrE.of y.o) _,.some c (a8.o v V.o rfl)⟩
       ·have ax:(Lib.itoa v==s)=false:=(by simpa using I);have HS:=lH I;clear I;go_upto_region 10 with (go_at_call 25;(with_reducible refine qQf cI.o u fun w7 y=>?_))
        have R:=d.o.bel y.o;have D:=R.cell 2;have g1:=R.frozen 2;simp at D;have A:=lH R;clear R;go_wp2;go_ret;exact .fail A.o (.of y.o) (.none ha (aa.o v V.o HS.o))
      ·have V:=lH hv;clear hv M;have R:=d.o.bel u.o;have D:=R.cell 2;have g1:=R.frozen 2;simp at D;have A:=lH R;clear R;go_wp2;go_ret;exact .fail A.o (.of u.o) (.none ha (a9.o V.o))
   ·have U:((l[k].toNat:Int)==32)=false:=by
     simp only [beq_eq_false_iff_ne,ne_eq];intro h;apply m;apply UInt8.toNat_inj.1;have:l[k].toNat=32:=(by omega);rw [this];rfl
    obtain ⟨z,hz⟩:∃ z:Int,z=(l[k].toNat:Int):=⟨_,rfl⟩;rw [<- hz] at G U;have ay:decide (z=32)=false:=(by simpa using U);have az:(z != 32)=true:=(by simpa using U);clear hz;have hw:IntKind.i64.wrap ((k:Int) - (a:Int))=(k:Int) - (a:Int):=(by rw [IntKind.wrap_i64];omega);by_cases ak:k<a+21
    ·have ae:(k:Int) - (a:Int)<21:=(by omega);have ai:IntKind.i64.wrap ((k:Int)+1)=(k:Int)+1:=(by rw [IntKind.wrap_i64];omega);have ab:=lH (q.o.next i c m);go_wp2;go_roundw;case rel=>exact ⟨k+1,by go_num,by omega,by omega,by omega,ab,by first | trivial | rfl⟩
     case measure=>simp [intOf];omega
    ·have ae:¬ (k:Int) - (a:Int)<21:=(by omega);have K:=lH (zDj q.o (by omega) c m);cases ok;all_goals
      go_wp2
      go_ret
      exact .fail d.o (.refl r _) (.none ha K.o)
  ·have af:¬ (k:Int)<(l.length:Int):=(by omega);have ag:((k:Int)==(l.length:Int))=true:=(by simp;omega);have ah:decide ((k:Int)=(l.length:Int))=true:=(by simp;omega);obtain rfl:k=l.length:=(by omega);have K:=lH (jQr q.o ha);cases ok;all_goals
    go_wp2
    go_ret
    exact .fail d.o (.refl r _) (.none ha K.o)
end Go.Proofs.YthbhcdbedfimhaaGreatDoor
namespace Go.Proofs.YthbhcdbedfimhaaGreatDoor
open Go.RowKit Go.ChangeShapes Go.WideShapes
variable {W:World}
abbrev laidL:List (String×DataW Unit):=Rows.serveWireRow.laid
theorem zFk {W':World} {n:String} {g:Nat} {cs:Array Value} (hg:Tryz.prog.globalNamed n=some g) (h:W.var? Tryz.prog n=some cs) (c:Bel W W'):W'.var? Tryz.prog n=some cs:=by
 unfold World.var? at h ⊢;simp only [hg,Option.bind_some] at h ⊢;have t:g<W.heap.size:=by
  rcases Nat.lt_or_ge g W.heap.size with b | b
  ·exact b
  ·simp [Array.getElem?_eq_none b] at h
 rw [c.block g t];exact h
theorem gTab: ∃ g, Tryz.prog.globalNamed "internal/strconv.uint64pow10" = some g /\ (Tryz.prog.globals[g]?).map (·.type) = some 234 := by
 cases h : Tryz.prog.globalNamed "internal/strconv.uint64pow10" with
 | none => exact absurd h (by have : (Tryz.prog.globalNamed "internal/strconv.uint64pow10").isSome = true := by kernel_rfl
    intro e;rw [e] at this;cases this)
 | some g=>
   refine ⟨g,rfl,?_⟩
   have : ((Tryz.prog.globalNamed "internal/strconv.uint64pow10").bind fun g => (Tryz.prog.globals[g]?).map (·.type)) = some 234 := by kernel_rfl
   rw [h] at this
   exact this
theorem gErr (n:String) (h:((Tryz.prog.globalNamed n).bind fun g=>(Tryz.prog.globals[g]?).map (·.type))=some 84):∃ g,Tryz.prog.globalNamed n=some g/\(Tryz.prog.globals[g]?).map (·.type)=some 84:=by
 cases e:Tryz.prog.globalNamed n with
 | none=>rw [e] at h;cases h
 | some g=>rw [e] at h;exact ⟨g,rfl,h⟩
theorem rowErr (u : TypeId) (h : Tryz.prog.typeName? 3 u = some "*errors.errorString") : u = 229 :=
 typeName_ptr_named (nm := "errors.errorString") (by rw [(by decide : "*" ++ "errors.errorString" = "*errors.errorString")]; kernel_rfl) (by kernel_rfl) (by decide) u (by rw [(by decide : "*" ++ "errors.errorString" = "*errors.errorString")]; exact h)
theorem env_of (e:laidMetH Tryz.prog laidL W):Env W:=by
 have d:laidMet Tryz.prog laidL W:=e;have h:laidMet Tryz.prog (laidL.drop 2) W:=d.tail.tail;obtain ⟨g,hg,t⟩:=gTab;have T : Lib.TabIs Tryz.prog W "internal/strconv.uint64pow10" .u64 Lib.pow10Tab := Lib.tabIs_of_head (zs := Lib.pow10Tab) hg t Tryz.underlying234 Tryz.underlying199 (by kernel_rfl) (by kernel_rfl) h;obtain ⟨G, c, i⟩ := gErr "strconv.ErrRange" (by kernel_rfl);obtain ⟨q, hgs, s⟩ := gErr "strconv.ErrSyntax" (by kernel_rfl);obtain ⟨a1,S,V,-⟩:=laid_sentinel h.tail c i Tryz.underlying84 rowErr Tryz.underlying229 Tryz.underlying231 rfl rfl Tryz.underlying9 (by kernel_rfl) (by kernel_rfl);obtain ⟨a2,u,m,-⟩:=laid_sentinel h.tail.tail hgs s Tryz.underlying84 rowErr Tryz.underlying229 Tryz.underlying231 rfl rfl Tryz.underlying9 (by kernel_rfl) (by kernel_rfl);intro W' b;exact ⟨Lib.tabBelow_of_tabIs T W' b,⟨_,_,zFk hgs m b⟩,⟨_,_,zFk c V b⟩⟩
theorem door_met (s:Os) (args:Array Value):laidMetH Tryz.prog laidL ((World.doorLaid Tryz.prog 62 s).forCall (fun _ _=>0) ⟨#[],args,[]⟩).memory:=
 laidMetH_of_parts3 (fuel:=8) (laidMet_of_run' 8 (by kernel_rfl) (by kernel_rfl)) (by kernel_rfl) (by kernel_rfl)

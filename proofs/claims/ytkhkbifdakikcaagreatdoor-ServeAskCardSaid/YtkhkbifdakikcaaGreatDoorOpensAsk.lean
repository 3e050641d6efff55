/- serve.Play: walked. -/
import Derived.Test.YtkhkbifdakikcaaGreatDoorServeDo
set_option maxRecDepth 100000
set_option maxHeartbeats 4000000
namespace Go.Proofs.YtkhkbifdakikcaaGreatDoor
open Go.RowKit
variable {a:Act} {c:Code} {Q:Exit->Act->World->Prop} {g lo:Nat} {B:Nat->Prop} {P:Program} {o u0 u1 u2 u3 x0 x1 x2 x3:Value} {W W' w:World}
def zFp:World->List Value->Qs->Prop:=fun _ cs a=>cs=[.int .i64 a.kind,.int .i64 a.node,.int .i64 a.chg.kind,.int .i64 a.chg.node,.int .i64 a.chg.dest,.int .i64 a.chg.before,.string ⟨a.chg.name.toArray⟩,.string ⟨a.chg.value.toArray⟩]
abbrev zKa (B:Nat->Prop) (w:World) (v:Value) (l:List Qs):Prop:=qQa 8 zFp B w v l
theorem slt_reps:SlT Tryz.prog 31 41 5 80:=by
 refine ⟨by kernel_rfl,?_⟩;obtain ⟨i,h,b,d,e⟩:=info_parts (by kernel_rfl:(Tryz.prog.info? 41).map (fun i=>(i.zero,i.size,i.bytes))=some (some (.agg #[.int .i64 0,.int .i64 0,.string ⟨#[]⟩,.slice none 0 0,.slice none 0 0]),5,80));exact ⟨i,_,h,b,d,e,rfl⟩
theorem one_rep {cs:List Value} {r:Rp} (h:rdRp B w cs r):∀ u∈cs,u.oneCell'=true:=by
 obtain ⟨E,i,rfl,d,e⟩:=h;obtain ⟨a,c,rfl,_,_⟩:=d.form;obtain ⟨a,c,rfl,_,_⟩:=Rf e;intro u b;simp at b;rcases b with rfl | rfl | rfl | rfl | rfl <;> rfl
theorem qQa.cells {f:Type} {sz:Nat} {rd:World->List Value->f->Prop} {a:Option Addr} {n C:Nat} {l:List f} (h:qQa sz rd B w (.slice a n C) l) (s:0<sz) (i:Nat) (r:i<l.length) :
 ∃ b o cs,a=some ⟨b,o,none⟩/\B b/\rd w cs l[i]/\cs.length=sz/\w.cell? ⟨b,o+i*sz,none⟩=cs[0]?/\∀ k,k<sz->w.cell? ⟨b,o+i*sz+k,none⟩=cs[k]?:=by
 obtain ⟨b,o,c,cs,e,j,m,p,q⟩:=h.elem i r;simp at e;have d:∀ k,k<sz->w.cell? ⟨b,o+i*sz+k,none⟩=cs[k]?:=fun k d=>by rw [Zi (by omega)];exact p.at k (by omega)
 exact ⟨b,o,cs,e.1,j,q,m,d 0 s,d⟩
abbrev Dat (lo g:Nat) (W:World) (o:Value) (b:Nat):Prop:=lo<=b/\b<W.heap.size/\b≠g/\o.ownBlock≠some b
structure PlC (lo g:Nat) (W:World) (o:Value) (E:Eng) (R:List Rp):Prop where
 var:∃ da dn dc ta tn tc ma mn mc ia im ic,Blk W g [.slice da dn dc,.slice ta tn tc,.slice ma mn mc,.slice ia im ic] 30/\EngV (Dat lo g W o) W (.slice da dn dc) (.slice ta tn tc) (.slice ma mn mc) (.slice ia im ic) E
 row:qQb 5 (rdRp (Dat lo g W o)) lo 41 W o R
 ne:∀ b,o.ownBlock=some b->b≠g
 lo:lo<=g
theorem PlC.bel {E:Eng} {R:List Rp} (h:PlC lo g W o E R) (d:Bel W W'):PlC lo g W' o E R:=by
 obtain ⟨⟨D,n,l,T,y,x,M,u,t,I,p,m,f,i⟩,e,j,k⟩:=h;have s:=d.size;exact ⟨⟨_,_,_,_,_,_,_,_,_,_,_,_,f.bel d,i.move fun b q=>⟨d.block b q.2.1,q.1,by omega,q.2.2⟩⟩,e.redo (fun b q=>d.block b (e.lt b q).2) fun _ _ _ r=>r.move fun b q=>⟨d.block b q.2.1,q.1,by omega,q.2.2⟩,j,k⟩
theorem PlC.eng {E d:Eng} {R:List Rp} {da dn dc ta tn tc ma mn mc ia im ic} (h:PlC lo g W o E R) (f:FrE g W W') (k:Blk W' g [.slice da dn dc,.slice ta tn tc,.slice ma mn mc,.slice ia im ic] 30) (hv:EngV (Dat lo g W o) W (.slice da dn dc) (.slice ta tn tc) (.slice ma mn mc) (.slice ia im ic) d):PlC lo g W' o d R:=by
 have s:=f.size;exact ⟨⟨_,_,_,_,_,_,_,_,_,_,_,_,k,hv.move fun b q=>⟨f.block b q.2.1 q.2.2.1,q.1,by omega,q.2.2⟩⟩,h.row.redo (fun b q=>f.block b (h.row.lt b q).2 (h.ne b q)) fun _ _ _ r=>r.move fun b q=>⟨f.block b q.2.1 q.2.2.1,q.1,by omega,q.2.2⟩,h.ne,h.lo⟩
theorem PlC.push {o':Value} {E:Eng} {R:List Rp} {r:Rp} (h:PlC lo g W o E R) (l:qQb 5 (rdRp (Dat lo g W o)) lo 41 W' o' (R++[r])) (hg:W.grownBy W' o.ownBlock) (i:qZc W o o'):PlC lo g W' o' E (R++[r]):=by
 obtain ⟨⟨D,u,t,T,J,G,M,F,C,I,z,y,K,p⟩,A,j,s⟩:=h;have x:=hg.size;have n:=K.lt;have f:∀ b,lo<=b/\b<W.heap.size/\b≠g/\o.ownBlock≠some b->lo<=b/\b<W'.heap.size/\b≠g/\o'.ownBlock≠some b:=fun b q=>⟨q.1,by omega,q.2.2.1,by
  rcases i with e | ⟨k,e,m⟩
  ·rw [e];exact q.2.2.2
  ·rw [e];intro e;cases e;omega⟩
 refine ⟨⟨_,_,_,_,_,_,_,_,_,_,_,_,K.of (hg.block g n fun e=>j g e.symm rfl),p.move fun b q=>⟨hg.block b q.2.1 fun e=>q.2.2.2 e.symm,f b q⟩⟩,l.redo (fun _ _=>rfl) fun _ _ _ r=>r.move fun b q=>⟨rfl,f b q⟩,fun b e=>?_,s⟩;rcases i with d | ⟨k,d,m⟩
 ·exact j b (d▸e)
 ·rw [d] at e;cases e;omega
theorem wp_new2 {C b:Array Value} {e E:TypeId} (h:∀ W,Bel w W->Blk W w.heap.size C.toList e->Blk W (w.heap.size+1) b.toList E->c.wp P Q a W):c.wp P Q a ((w.alloc (.cells C e)).alloc (.cells b E)):=by
 have f:=(Br w).alloc (.cells C e);have d:=(Br (w.alloc (.cells C e))).alloc (.cells b E);exact h _ (Bt f d) ((Blk.new' _ _ rfl _ _).bel d) (Blk.new' _ _ (by simp) _ _)
theorem wp_st4 {e:TypeId} (K:Blk W g [u0,u1,u2,u3] e) (h:∀ W',FrE g W W'->Blk W' g [x0,x1,x2,x3] e->c.wp P Q a W') :
 c.wp P Q a ((((W.setCell ⟨g,0,none⟩ x0).setCell ⟨g,1,none⟩ x1).setCell ⟨g,2,none⟩ x2).setCell ⟨g,3,none⟩ x3):=
 h _ (((((FrE.refl _ W).set x0).set x1).set x2).set x3) ((((K.set 0 x0).set 1 x1).set 2 x2).set 3 x3)
theorem zV0 {f:Func} {R:Ending->World->Prop} {p q r:Tmp} {y z:Value} (h:f.results = #[.cell p 30,.tmp q,.tmp r]) (K:Blk W g [u0,u1,u2,u3] 30) (j:a.tmps.getD p undef=.pointer (some ⟨g,0,none⟩)) (k:a.tmps.getD q undef=y) (l:a.tmps.getD r undef=z) (hd:a.defers=[])
 (b:∀ W',FrE g W W'->R (.returned (.tuple #[.agg #[x0,x1,x2,x3],y,z])) W'):bodyPost Tryz.prog f R .ret a ((((W.setCell ⟨g,0,none⟩ x0).setCell ⟨g,1,none⟩ x1).setCell ⟨g,2,none⟩ x2).setCell ⟨g,3,none⟩ x3):=by
 obtain ⟨d,e,i⟩:=qXr;subst k l;exact bodyPost_ret (qZx h _ _ g _ _ _ d j ((((K.set 0 x0).set 1 x1).set 2 x2).set 3 x3) e (by revert i;cases d <;> intro h <;> exact h) (by kernel_rfl)) hd (b _ (((((FrE.refl _ W).set x0).set x1).set x2).set x3))
def zBg (w:World) (l:List Qs):World->Value->Prop:=fun w' y=>∃ da dn dc ta tn tc ma mn mc ia im ic ra rn rc,y=.tuple #[.agg #[.slice da dn dc,.slice ta tn tc,.slice ma mn mc,.slice ia im ic],.slice ra rn rc,.int .i64 (if 60<l.length then 5 else 0)]/\rn=(if 60<l.length then [] else (playR l ⟨rootD,[],[],[]⟩).2).length /\
 qQa 5 (rdRp fun b=>w.heap.size<=b/\b<w'.heap.size) (fun b=>w.heap.size<=b/\b<w'.heap.size) w' (.slice ra rn rc) (if 60<l.length then [] else (playR l ⟨rootD,[],[],[]⟩).2)
theorem qX2 {m: Nat} {v: Value} {l: List Qs} {w: World} (hv : zKa (· < m) w v l) (hm : m <= w.heap.size) (X : ∀ a ∈ l, a.chg.name.length <= 9223372036854775807 /\ a.chg.value.length <= 9223372036854775807) (hT : ∀ W, Bel w W -> Lib.TabIs Tryz.prog W "internal/strconv.uint64pow10" .u64 Lib.pow10Tab) :
 Calls Tryz.prog 5 #[v] w (Rn w (zBg w l)):=by
 obtain ⟨va,vc,rfl,v1,v2⟩:=Rf hv;have HV:=lH hv;have HL:=lH X;have HT:=lH hT;clear hv X hT;go_enter Tryz.func5,Tryz.ntmps5
 go_upto_region 1 with fail
 refine qBb ?_;intro f a9 r;have x:=lH a9;have a6:=lH r;clear a9;by_cases z:60<l.length
 ·have c1:=r.cell;have f1:=r.frozen;have h6:(60:Int)<(l.length:Int):=by omega
  have n:=lH z;clear z;go_wp2;refine zV0 rfl r rfl rfl rfl rfl fun W' F=>⟨F.bel x.o (Zb _),_,rfl,none,0,0,none,0,0,none,0,0,none,0,0,none,0,0,?_⟩;rw [if_pos n.o,if_pos n.o];exact ⟨rfl,rfl,qQa.nil⟩
 have h6:¬ (60:Int)<(l.length:Int):=by omega
 have n:=lH z;clear z;go_upto_region 4 with (go_at_call 6;(with_reducible refine (zQa _).mono ?_);rintro e w2 ⟨b2,u1,rfl,dv,rfl,Z⟩;obtain ⟨na,nc,rfl,_,_⟩:=Rf Z;have a5:=lH Z;have a3:=lH b2;clear b2 Z)
 refine qBb ?_;intro w3 A ac;have aj:=lH (Bt a3.o A);have aa:PlC f.heap.size w2.heap.size w3 (.slice none 0 0) ⟨rootD,[],[],[]⟩ []:=⟨⟨_,_,_,_,_,_,_,_,_,_,_,_,ac,⟨(a5.o.agree fun b d=>A.block b d.2).mono fun b d=>⟨d.1,by have:=A.size;omega,by omega,by simp [Value.ownBlock]⟩,qQa.nil,qQa.nil,qQa.nil⟩⟩,qQb.nil _ _ _,(fun _ h=>by cases h),a3.o.size⟩;have ak:=lH aa;clear A ac aa a5 r;generalize w2.heap.size=G at *
 go_wp2;go_loopw [6,18] (fun o a1 wr=>∃ (j:Nat) (E:Eng) (R:List Rp),j<=l.length/\a1=.int .i64 j/\PlC f.heap.size G wr o E R/\EngOk E/\R.length=j/\R++(playR (l.drop j) E).2=(playR l ⟨rootD,[],[],[]⟩).2/\Bel f wr) (fun _ a1 _=>l.length - (intOf a1).toNat)
 case atStart=>exact ⟨0,_,[],by omega,rfl,ak.o,zF2,rfl,rfl,aj.o⟩
 case round=>
  obtain ⟨j,E,R,hj,rfl,hC,ag,hR,hP,hB⟩:=hrel;obtain ⟨O,t,rfl,_,_⟩:=hC.row.read.form;have M:=lH hC;have a8:=lH ag;have HR:=lH hR;have HP:=lH hP;have u:=lH hB;clear hC ag hR hP hB;by_cases Y:j<l.length
  ·have ba:(j:Int)<(l.length:Int):=(by omega);have ah:=qQa.later HV.o (fun _ _ _ _ h=>h) (Bt x.o u.o) hm;obtain ⟨b,bf,S,rfl,_,rfl,_,c0,ck⟩:=ah.cells (by decide) j Y;obtain ⟨b4,b6⟩:=HL.o _ (Zl Y);have ar:Hi ((playR (l.drop j) E).2=(doR E l[j]).2::(playR (l.drop (j+1)) (doR E l[j]).1).2):=lH (by rw [List.drop_eq_getElem_cons Y];rfl);clear ah;generalize l[j]=b7 at *
   obtain ⟨xk,xn,xc⟩:=b7;go_upto_region 8 with fail
   refine qBb ?_;intro w4 C s;have b8:=lH C;have c4:=s.cell;have i:=lH (M.o.bel C);obtain ⟨da,dn,dc,ta,tn,tc,ma,mn,mc,ia,im,ic,V,ai⟩:=i.o.var;have y:=lH (Bt u.o C);have cD:=lH (zJ8 xk xn xc w4 ai (fun b d=>d.2.1) a8.o b4 b6 fun W h=>HT.o W (Bt x.o (Bt y.o h)));have au:=lH (zFa a8.o ⟨xk,xn,xc⟩);have cg:=V.cell;have ap:=lH V;clear c0 ck C s V ai;generalize doR E ⟨xk,xn,xc⟩=D at *
   go_upto_region 9 with (go_at_call 7;(with_reducible refine cD.o.mono ?_);rintro e w5 ⟨b5,pa,pn,pc,qa,qn,qc,ra,rn,rc,sa,sn,sc,y0,y1,y2,y3,y4,rfl,v5,r5⟩;have K:=lH b5;have ay:=lH v5;obtain ⟨ev,iv,e6,r6,r7⟩:=r5;obtain ⟨ea,ec,rfl,_,_⟩:=r6.form;obtain ⟨ja,jc,rfl,_,_⟩:=Rf r7;simp only [List.cons.injEq,and_true] at e6;obtain ⟨rfl,rfl,rfl,rfl,rfl⟩:=e6;have aw:=lH (show rdRp _ w5 _ D.2 from ⟨_,_,rfl,r6,r7⟩);clear b5 v5 r6 r7)
   refine wp_new2 ?_;intro w7 p ad ae;have U:=Bt K.o p;have c7:=ad.cell;obtain ⟨_,_,_,_,_,_,_,_,_,_,_,_,J,_⟩:=(i.o.bel U).var;have f7:=J.frozen;have b1:=J.cell;have X:=ap.o.lt;have bc:=K.o.size;have bd:=p.size;have az:=lH (ay.o.move (w':=w7) (B':=Dat f.heap.size G w7 (.slice O R.length t)) fun b d=>⟨p.block b d.2,by
    have b9:=y.o.size;rcases d.1 with h | h
    ·exact ⟨h.1,by omega,h.2.2⟩
    ·exact ⟨by omega,by omega,by omega,fun e=>by have:=(i.o.row.lt b e).2;omega⟩⟩)
   have al:=lH (i.o.bel U);have a7:=lH ae;have aq:=lH J;have a4:=lH p;clear U ad ae J p c4 cg;go_upto_region 10 with fail
   refine wp_st4 aq.o ?_;intro w8 k af;have ab:=al.o.eng k af az.o;have be:=k.size;have ax:=lH (aw.o.move (w':=w8) (B':=Dat f.heap.size G w8 (.slice O R.length t)) fun b d=>⟨(k.block b (by omega) (by omega)).trans (a4.o.block b d.2),by have:=y.o.size;omega,by omega,by omega,fun e=>by have:=(i.o.row.lt b e).2;omega⟩);have c8:=(a7.o.of (k.block _ a7.o.lt (by omega))).cell;have a2:=lH (k.bel (Bt y.o (Bt K.o a4.o)) i.o.lo);have N:=lH ab;have bb:R.length+1<=61:=(by have:=HR.o;omega);clear f7 b1 c7 k af ab;go_wp2_with (at_builtin;go_must (refine qJw rfl _ _ _ rfl slt_reps (by decide) (rd:=rdRp (Dat f.heap.size G w8 (.slice O R.length t))) (v:=.slice O R.length t) ?hst (fun _ _ _ h=>one_rep h) (base:=f.heap.size) rfl N.o.row rfl rfl D.2 ⟨rfl,ax.o⟩ ?hby ?hmx a2.o.size ?_;(case hby=>omega);(case hmx=>omega);(case hst=>exact fun w' S bg hg hr=>hr.move fun b q=>⟨hg.block b q.2.1 fun e=>q.2.2.2 e.symm,q⟩);intro v9 w9 o9 T f9;have am:=lH (N.o.push o9 T f9);have an:=lH T;clear o9 T f9))
   go_roundw;case rel=>exact ⟨j+1,D.1,R++[D.2],by omega,by go_num,am.o,au.o,by rw [Zj,HR.o];rfl,by rw [<- HP.o,ar.o,List.append_assoc];rfl,Below.own a2.o (Zb _) N.o.row an.o⟩
   case measure=>simp [intOf];omega
  ·have hd:l.drop j=[]:=List.drop_of_length_le (by omega);have av:Hi (R=(playR l ⟨rootD,[],[],[]⟩).2):=lH (by have:=HP.o;rw [hd] at this;simpa [playR] using this);clear hd;obtain ⟨da,dn,dc,ta,tn,tc,ma,mn,mc,ia,im,ic,s,b3⟩:=M.o.var;have c4:=s.cell;have I:=a6.o.bel u.o;have c0:=I.cell;have f0:=I.frozen;have ao:=lH I;clear s b3 I;go_wp2;refine zV0 rfl ao.o rfl rfl rfl rfl fun W' F=>⟨F.bel (Bt x.o u.o) (Zb _),_,rfl,da,dn,dc,ta,tn,tc,ma,mn,mc,ia,im,ic,O,R.length,t,?_⟩;rw [if_neg n.o,if_neg n.o,<- av.o];have h1:=a6.o.lt;have hs:=F.size;have hm:∀ b,f.heap.size<=b/\b<wr.heap.size->W'.heap[b]?=wr.heap[b]?/\w.heap.size<=b/\b<W'.heap.size:=fun b q=>⟨F.block b q.2 (by omega),by omega⟩;exact ⟨rfl,rfl,(M.o.row.row.mono (C:=fun b=>f.heap.size<=b/\b<wr.heap.size) (rd':=fun _ S a0=>rdRp (fun b=>w.heap.size<=b/\b<W'.heap.size) W' S a0) (fun b q=>⟨q.1,q.2.1⟩) fun _ _ _ a0=>a0.move fun b q=>hm b ⟨q.1,q.2.1⟩).agree (fun b q=>(hm b q).1) (fun _ _ _ h=>h) |>.mono (fun b q=>(hm b q).2) fun _ _ _ h=>h⟩
end Go.Proofs.YtkhkbifdakikcaaGreatDoor
set_option maxRecDepth 100000
namespace Go.Proofs.YtkhkbifdakikcaaGreatDoor
open Go.RowKit Go.WideShapes Go.ChangeShapes
variable {held:Bool} {b0:Nat} {sp:Nat->Bool} {H:Type} {v:Value} {w:World}
theorem open_row {enc:TypeId×Value->H} {P:Program} {t e:TypeId} (s:P.underlying t=some (.slice e)) {sz:Nat} (a5:0<sz) (ce:P.cellsOf e=sz) {k:Type} [Inhabited k] {rd:World->List Value->k->Prop} {R:k->Prop} 
 (Z:∀ fuel cs (y:DataW H×List MemPlace),DataW.trod enc P w 0 sp held fuel e cs=some y->∃ x,rd w cs x/\cs.length=sz/\R x)
 {r:Go.Reach} {d:DataW H} {ps:List MemPlace} (A:Value.okWide P w r b0 t v) (hd:DataW.Trod enc P w 0 sp held t v d ps) :
 ∃ l:List k,qQa sz rd (·<w.heap.size) w v l/\∀ x∈l,R x:=by
 obtain ⟨a0,D,I,rfl⟩:=okWide_slice s A;obtain ⟨fuel,S⟩:=hd;rcases Deep.open_slice s S with ⟨f,N⟩ | ⟨a,a6,a2,m,a7,a1,Pl,f,_,U,V,Y,N,C⟩
 ·simp [Value.cells] at f;obtain ⟨rfl,rfl,rfl⟩:=f;exact ⟨[],qQa.nil,by simp⟩
 ·simp [Value.cells] at f;obtain ⟨rfl,rfl,rfl⟩:=f;have G:a.spot=none:=by
   simp only [Value.okWide,s,Cell.okWide,Cell.ok] at A;exact A.2.2.2.1
  obtain ⟨b,O,a8⟩:=a;simp only at G;subst G;have a4:D<=m:=by rw [Y];split <;> omega
  have J:∀ i,i<D->∃ x:k,(∃ cs,cs.length=sz/\Cells w b (O+i*sz) cs/\rd w cs x)/\R x:=by
   intro i n;obtain ⟨cs,f,K⟩:=C i (by omega);rw [ce] at f;obtain ⟨_,a3,M⟩:=World.cells?_some f;obtain ⟨x,q,p,E⟩:=Z _ _ _ K;refine ⟨x,⟨cs,p,fun j u z=>?_,q⟩,E⟩;have T:j<sz:=by
    rcases Nat.lt_or_ge j cs.length with h | h
    ·omega
    ·rw [List.getElem?_eq_none h] at z;simp at z
   have:=M j T;rw [Deep.add_add,Go.WideShapes.add_plain] at this;rw [show O+i*sz+j=O+(i*sz+j) by omega,this,z]
  obtain ⟨X,F⟩:=Deep.choose_lt J;refine ⟨(List.range D).map X,.inr ⟨b,O,I,by simp,by simpa using U,max_eq▸V,fun i n=>?_⟩,fun x C=>?_⟩
  ·obtain ⟨⟨cs,q,p,E⟩,_⟩:=F i (by simpa using n);exact ⟨Cells.lt p (by intro h;rw [h] at q;simp at q;omega),cs,q,p,by simpa using E⟩
  ·obtain ⟨i,n,rfl⟩:=List.mem_map.1 C;exact (F i (by simpa using n)).2
instance:Inhabited Qs:=⟨⟨0,0,{}⟩⟩
theorem law_asks {enc:TypeId×Value->H} {r:Go.Reach} {d:DataW H} {N:List MemPlace} (M:Value.okWide Tryz.prog w r b0 22 v) (hd:DataW.Trod enc Tryz.prog w 0 sp held 22 v d N) :
 ∃ l:List Qs,zKa (·<w.heap.size) w v l/\∀ a∈l,a.chg.name.length<=9223372036854775807/\a.chg.value.length<=9223372036854775807:=by
 refine open_row Tryz.underlying22 (by decide) (by kernel_rfl) (fun O A y h=>?_) M hd;obtain ⟨X,n,_,_,p,J,k⟩:=DataW.trod_struct Tryz.underlying38 h;rw [show Tryz.prog.cellsOf 38=8 by kernel_rfl] at p;match A,p,X,J with
 | [z,m,C,c3,c4,b,e,j],_,[x0,x1,x2],_=>
 have s:DataW.trod enc Tryz.prog w 0 sp held n 3 (List.take (Tryz.prog.cellsOf 3) [z,m,C,c3,c4,b,e,j])=some x0:=k 0 _ rfl;have t:DataW.trod enc Tryz.prog w 0 sp held n 3 (List.take (Tryz.prog.cellsOf 3) [m,C,c3,c4,b,e,j])=some x1:=k 1 _ rfl;have u:DataW.trod enc Tryz.prog w 0 sp held n 36 (List.take (Tryz.prog.cellsOf 36) [C,c3,c4,b,e,j])=some x2:=k 2 _ rfl;rw [show Tryz.prog.cellsOf 3=1 by kernel_rfl] at s t;rw [show Tryz.prog.cellsOf 36=6 by kernel_rfl] at u;obtain ⟨K,E,_⟩:=DataW.trod_int Tryz.underlying3 s;obtain ⟨q,D,_⟩:=DataW.trod_int Tryz.underlying3 t;obtain ⟨x,F,R,G,I⟩:=open_chg Tryz.underlying36 (by kernel_rfl) rfl (by
  intro i f h;match i with
 | 0=>simp at h;subst h;exact ⟨rfl,by kernel_rfl,Tryz.underlying3⟩
 | 1=>simp at h;subst h;exact ⟨rfl,by kernel_rfl,Tryz.underlying3⟩
 | 2=>simp at h;subst h;exact ⟨rfl,by kernel_rfl,Tryz.underlying3⟩
 | 3=>simp at h;subst h;exact ⟨rfl,by kernel_rfl,Tryz.underlying3⟩
 | 4=>simp at h;subst h;exact ⟨rfl,by kernel_rfl,Tryz.underlying9⟩
 | 5=>simp at h;subst h;exact ⟨rfl,by kernel_rfl,Tryz.underlying9⟩
 | i+6=>simp at h) u
 refine ⟨⟨K,q,x⟩,?_,rfl,G,I⟩;cases E;cases D;exact congrArg (fun r=>Value.int .i64 K::Value.int .i64 q::r) F

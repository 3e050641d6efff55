/- wire's reader: item: walked. -/
import Derived.Test.YthbhcdbedfimhaaGreatDoorWireK
set_option maxRecDepth 100000
set_option maxHeartbeats 16000000
namespace Go.Proofs.YthbhcdbedfimhaaGreatDoor
open Go.RowKit
variable {g:Nat} {W':World}
def ItemAns (f r:Nat) (bv:Value) (l:Txt) (a:Nat) (ok:Bool) (w:World) (e:Ending) (w':World):Prop:=∃ (x:It) (v:Value) (a':Nat) (ok':Bool),e=.returned (.agg (qQe x.h v).toArray)/\Rd r bv w' a' ok'/\Ky r w w'/\ItsK (fun b=>w.heap.size<=b/\b<w'.heap.size) f w' v x.kids/\(x.kids=[]->v=.slice none 0 0)/\RSt (qXr f) l a ok x a' ok'
theorem cf_ritem (args:Array Value) (w:World):(callFunc 12 args).run Tryz.prog w=.ok (.enter 12 args) w:=by kernel_rfl
structure KidC (w:World) (r xb:Nat) (h:Hd) (W:World) (v:Value):Prop where
 box:Blk W xb (qQe h v) 59
 res:Blk W w.heap.size [.int .i64 0,.int .i64 0,.string ⟨#[]⟩,.string ⟨#[]⟩,.int .i64 0,.int .i64 0,.bool false,.slice none 0 0] 59
 ky:Ky r w W
structure KidM (r:Nat) (bv:Value) (l:Txt) (base g aj:Nat) (kv:Value) (O:List It) (W:World) (x:It) (v:Value) (a':Nat) (ok':Bool):Prop where
 rd:Rd r bv W a' ok'
 kids:KidW base (g+1) W kv O
 its:ItsK (fun b=>base<=b/\b<W.heap.size/\kv.ownBlock≠some b) g W v x.kids
 st:RSt (qXr g) l aj true x a' ok'
def KidT (w:World) (r xb:Nat) (h:Hd) (bv:Value) (l:Txt) (g aj:Nat) (kv:Value) (O:List It):Nat->Value->World->Prop
 | 0,_,W=>KidC w r xb h W kv/\Rd r bv W aj true/\KidW (xb+1) (g+1) W kv O
 | 1,u,W=>KidC w r xb h W kv/\∃ x xa xn xc a' ok',u=.agg #[.int .i64 x.h.node,.int .i64 x.h.role,.string ⟨x.h.name.toArray⟩,.string ⟨x.h.about.toArray⟩,.int .i64 x.h.level,.int .i64 x.h.checked,.bool x.h.off,.slice xa xn xc]/\KidM r bv l (xb+1) g aj kv O W x (.slice xa xn xc) a' ok'
 | 2,u,W=>KidC w r xb h W kv/\∃ x xa xn xc a' ok' gg,u=.slice (some ⟨gg,0,none⟩) 1 1/\Blk W gg (qQe x.h (.slice xa xn xc)) 59/\KidM r bv l (xb+1) g aj kv O W x (.slice xa xn xc) a' ok'
 | _,u,W=>KidC w r xb h W kv/\∃ x a' ok' za zn zc,u=.slice za zn zc/\KidW (xb+1) (g+1) W u (O++[x])/\Rd r bv W a' ok'/\RSt (qXr g) l aj true x a' ok'
theorem KidT.box {w:World} {r x:Nat} {h:Hd} {bv:Value} {l:Txt} {A:Nat} {kv:Value} {O:List It} :∀ (j:Nat) (u:Value) (W:World),KidT w r x h bv l g A kv O j u W->KidC w r x h W kv:=by
 intro j u W h;match j,h with
 | 0,h=>exact h.1
 | 1,h=>exact h.1
 | 2,h=>exact h.1
 | (_+3),h=>exact h.1
structure Spot (w0 w:World) (r:Nat) (bv:Value) (l:Txt) (W:World) (a:Nat) (ok:Bool):Prop where
 rd:Rd r bv W a ok
 ky:Ky r w W
 bel:Bel w0 W
 le:a<=l.length
section
variable {w0 w W:World} {r a:Nat} {bv:Value} {l:Txt} {ok:Bool} (S:Spot w0 w r bv l W a ok)
include S
theorem Spot.grow (h:Bel W W'):Spot w0 w r bv l W' a ok:=⟨S.rd.bel h,S.ky.then h,Bt S.bel h,S.le⟩
theorem Spot.late (h:FrE g W W') (hg:w.heap.size<=g) (H:w0.heap.size<=g) (hr:r≠g):Spot w0 w r bv l W' a ok:=⟨S.rd.of (h.block r S.rd.lt hr),S.ky.late h hg,h.bel S.bel H,S.le⟩
variable (hE:Env w0) (hr:w0.heap.size<=r) (hl:BysK w0.heap.size w0 bv l) (hll:l.length<=140737488355328)
include hE hr hl hll
theorem Spot.num:Calls Tryz.prog 11 #[.pointer (some ⟨r,0,none⟩)] W fun e W'=>∃ v A o,e=.returned (.int .i64 v)/\Spot w0 w r bv l W' A o/\Ky r W W'/\RSt takeP l a ok v A o:=
 (qD6 hE S.bel hr hl S.rd S.le hll).mono fun _ _ ⟨v,A,o,b,c,h,H⟩=>⟨v,A,o,b,⟨c,S.ky.trans h,h.bel S.bel hr,H.1⟩,h,H.st⟩
theorem Spot.text:Calls Tryz.prog 26 #[.pointer (some ⟨r,0,none⟩)] W fun e W'=>∃ (s:Txt) (A:Nat) (o:Bool),e=.returned (.string ⟨s.toArray⟩)/\Spot w0 w r bv l W' A o/\Ky r W W'/\RSt wordP l a ok s A o:=
 (zXq hE S.bel hr hl S.rd S.le hll).mono fun _ _ ⟨v,A,o,b,c,h,H⟩=>⟨v,A,o,b,⟨c,S.ky.trans h,h.bel S.bel hr,H.1⟩,h,H.st⟩
theorem Spot.few:Calls Tryz.prog 27 #[.pointer (some ⟨r,0,none⟩)] W fun e W'=>∃ n A o,e=.returned (.int .i64 ((n:Nat):Int))/\Spot w0 w r bv l W' A o/\Ky r W W'/\RSt fewP l a ok n A o/\A+n<=l.length:=
 (zQ1 hE S.bel hr hl S.rd S.le hll).mono fun _ _ ⟨v,A,o,b,c,h,H⟩=>⟨v,A,o,b,⟨c,S.ky.trans h,h.bel S.bel hr,by have:=H.1;omega⟩,h,H.st,H.1⟩
end
theorem zJr {F:Func} {p:Tmp} {R:Ending->World->Prop} {a:Act} {W:World} {C:List Value} {x X b c d e f i:Value} (h:F.results = #[.cell p 59]) (hC:C.length=8) (H:Blk W g C 59) (n:a.tmps.getD p undef=.pointer (some ⟨g,0,none⟩)) (hd:a.defers=[])
 (j:∀ W',FrE g W W'->R (.returned (.agg #[x,X,b,c,d,e,f,i])) W'):bodyPost Tryz.prog F R .ret a ((((((((W.setCell ⟨g,0,none⟩ x).setCell ⟨g,1,none⟩ X).setCell ⟨g,2,none⟩ b).setCell ⟨g,3,none⟩ c).setCell ⟨g,4,none⟩ d).setCell ⟨g,5,none⟩ e).setCell ⟨g,6,none⟩ f).setCell ⟨g,7,none⟩ i):=by
 match C,hC with
 | [_,_,_,_,_,_,_,_],_=>
 obtain ⟨D,k,m⟩:=zGs;exact bodyPost_ret (zVb h _ _ g _ _ _ D n ((((((((H.set 0 x).set 1 X).set 2 b).set 3 c).set 4 d).set 5 e).set 6 f).set 7 i) k (by revert m;cases D <;> intro h <;> exact h) (by kernel_rfl)) hd (j _ (((((((((FrE.refl g W).set x).set X).set b).set c).set d).set e).set f).set i))
theorem zYe {r:Nat} {bv:Value} {l:Txt} {w0:World} (hE:Env w0) (hr:w0.heap.size<=r) (hl:BysK w0.heap.size w0 bv l) (ck:l.length<=1000000000):∀ (f:Nat) (d:Int) (a:Nat) (ok:Bool) (w:World),f<=61->d=61 - (f:Int)->Bel w0 w->Rd r bv w a ok->a<=l.length ->
 Calls Tryz.prog 12 #[.pointer (some ⟨r,0,none⟩),.int .i64 d] w (ItemAns f r bv l a ok w):=by
 intro f;induction f using Nat.strongRecOn with
 | ind f ih=>
 intro d a ok w hf hd H R ha;have hll:l.length<=140737488355328:=by omega
 have m:=lH hl;have cm:=R.lt;have i:=lH (Spot.mk R (FrE.refl r w) H ha);have bw:=lH ih;have HB:=lH H;have HD:=lH hd;have ci:=H.size;clear H R ha hl ih hd;go_enter Tryz.func12,Tryz.ntmps12
 go_upto_region 1 with fail
 refine qY7 ?_;intro wz br ax;have bb:=lH (i.o.grow br);have ak:=lH ax;have c9:=ax.lt;clear i br ax;go_upto_region 2 with (first
 | (go_at_call 11;(with_reducible refine (bb.o.num hE hr m.o hll).mono ?_);rintro e w1 ⟨V,a1,k1,rfl,s,y,n⟩;have bc:=lH s;have bm:=lH y;have al:=lH n;clear s y n)
 | (go_at_call 11;(with_reducible refine (bc.o.num hE hr m.o hll).mono ?_);rintro e w2 ⟨Q,a2,k2,rfl,s,y,n⟩;have be:=lH s;have bn:=lH (bm.o.trans y);have am:=lH n;clear s y n)
 | (go_at_call 11;(with_reducible refine (be.o.num hE hr m.o hll).mono ?_);rintro e w3 ⟨U,a3,k3,rfl,s,y,n⟩;have bf:=lH s;have bo:=lH (bn.o.trans y);have an:=lH n;clear s y n)
 | (go_at_call 11;(with_reducible refine (bf.o.num hE hr m.o hll).mono ?_);rintro e w4 ⟨Y,a4,k4,rfl,s,y,n⟩;have bg:=lH s;have au:=lH (bo.o.trans y);have ao:=lH n;clear s y n))
 refine qY7 ?_;intro wy av aw;have bh:=lH (bg.o.grow av);have bp:=lH (au.o.then av);have HX:=lH aw;have ca:=au.o.size;have cf:=aw.lt;clear av aw bb bc be bf bg bm bn bo au;go_upto_region 3 with (go_at_call 11;(with_reducible refine (bh.o.num hE hr m.o hll).mono ?_);rintro e w5 ⟨v,a5,k5,rfl,s,y,n⟩;have G:=lH s;have a9:=lH n;have Z:=lH (HX.o.of (y.block _ HX.o.lt (by omega)));have D:=lH (ak.o.of ((bp.o.trans y).block _ ak.o.lt (by omega)));have cb:=y.size;clear s y n)
 have af:w4.heap.size≠r:=by omega
 have P:r≠w.heap.size:=by omega
 have bu:r<w5.heap.size:=by omega
 clear HX ak bp bh;rcases (show v<0∨(¬ v<0/\1<v)∨(¬ v<0/\¬ 1<v/\60<d)∨(¬ v<0/\¬ 1<v/\¬ 60<d) by omega) with A | ⟨A,hB⟩ | ⟨A,hB,hC⟩ | ⟨A,hB,hC⟩;iterate 3 focus (
  have HF:Hi (RSt (qXr f) l a ok (.mk ⟨V,Q,[],[],U,Y,false⟩ []) a5 false):=lH (by
   cases f with
 | zero=>exact .zero a9.o.le
 | succ f=>exact .itemBad al.o am.o an.o ao.o a9.o (by have:=HD.o;omega))
  have c2:=G.o.rd.cell
  have g2:=G.o.rd.frozen
  have n0:=Z.o.cell
  have m0:=D.o.cell
  have q0:=D.o.frozen
  go_wp2
  refine zJr rfl rfl (D.o.other ⟨r,2,none⟩ _ P.symm) rfl rfl fun W' F=>?_
  exact ⟨.mk ⟨V,Q,[],[],U,Y,false⟩ [],.slice none 0 0,a5,false,rfl,(G.o.rd.set 2 (.bool false)).of (F.block r (by simpa using bu) P),FrE.late (FrE.set G.o.ky _) F (Zb _),qQa.nil,fun _=>rfl,HF.o⟩)
 obtain ⟨g,rfl⟩:∃ g,f=g+1:=⟨f - 1,by have:=HD.o;omega⟩;have n6:=Z.o.cell;have q6:=Z.o.frozen;go_upto_region 7 with fail
 refine wp_st1 Z.o ?_;intro w6 ac b0;simp only [Zf,Zg] at b0;have bi:=lH (G.o.late ac (by omega) (by omega) af.symm);have ah:=lH (D.o.of (ac.block _ D.o.lt (by omega)));have aq:=lH b0;have cc:=ac.size;clear ac b0 Z D G n6 q6;go_upto_region 8 with (first
 | (go_at_call 26;(with_reducible refine (bi.o.text hE hr m.o hll).mono ?_);rintro e w7 ⟨s1,a6,k6,rfl,s,y,n⟩;have bj:=lH s;have ab:=lH y;have b8:=lH n;clear s y n)
 | (go_at_call 26;(with_reducible refine (bj.o.text hE hr m.o hll).mono ?_);rintro e w8 ⟨s2,a7,k7,rfl,s,y,n⟩;have bk:=lH s;have b9:=lH n;have aa:=lH (aq.o.of ((ab.o.trans y).block _ aq.o.lt af));have ai:=lH (ah.o.of ((ab.o.trans y).block _ ah.o.lt P.symm));have cd:=(ab.o.trans y).size;have n2:=aa.o.cell;have q2:=aa.o.frozen;clear s y n))
 refine wp_st2 aa.o ?_;intro w9 ad b1;simp only [Zf,Zg] at b1;have bl:=lH (bk.o.late ad (by omega) (by omega) af.symm);have aj:=lH (ai.o.of (ad.block _ ai.o.lt (by omega)));have ar:=lH b1;have ce:=ad.size;clear ad b1 aa ai bk n2 q2 aq ah bi bj ab;go_upto_region 9 with (go_at_call 27;(with_reducible refine (bl.o.few hE hr m.o hll).mono ?_);rintro e ch ⟨N,a8,k8,rfl,s,y,n,cl⟩;have bd:=lH s;have b7:=lH n;have ap:=lH (ar.o.of (y.block _ ar.o.lt af));have bx:=lH (aj.o.of (y.block _ aj.o.lt P.symm));clear s y n)
 obtain ⟨of,b4⟩:∃ of,of=(v==1):=⟨_,rfl⟩;rw [<- b4] at ap ⊢;have ba:Hi (of=decide (v=1)):=lH b4;clear b4 ar aj bl;have cq:w4.heap.size<ch.heap.size:=ap.o.lt;have cp:w.heap.size<w4.heap.size:=by omega
 have cn:r<w4.heap.size:=by omega
 clear c9 ca cf cb cc cd ce bu;generalize w4.heap.size=X at *
 go_loopw [7] (fun b6 wr=>∃ (j:Nat) (O:List It) (kv:Value) (z:Nat) (oj:Bool),j<=N/\b6=.int .i64 (((N - j:Nat)):Int)/\KidC w r X ⟨V,Q,s1,s2,U,Y,of⟩ wr kv/\KidW (X+1) (g+1) wr kv O/\Rd r bv wr z oj/\KidSt (qXr g) l a8 k8 N j O z oj) (fun b6 _=>(intOf b6).toNat)
 case atStart=>
  refine ⟨0,[],.slice none 0 0,a8,k8,by omega,rfl,⟨ap.o,bx.o,bd.o.ky⟩,KidW.nil _ _ _,bd.o.rd,.start (by omega)⟩
 case round=>
  obtain ⟨j,O,kv,z,oj,hj,rfl,bs,az,ay,bt⟩:=hrel;obtain ⟨K,q,rfl,_,_⟩:=Rf (qQb.read az.1);have c2:=ay.cell;have C:=lH bs;have I:=lH az;have E:=lH ay;have i:=lH bt;clear bs az ay bt;by_cases b3:j<N
  ·have c5:(0:Int)<(((N - j:Nat)):Int):=(by omega);cases oj with
   | true=>
     have cj:IntKind.i64.wrap (d+1)=d+1:=(by rw [IntKind.wrap_i64];have:=HD.o;omega);have co:IntKind.i64.wrap ((((N - j:Nat)):Int) - 1)=(((N - j:Nat)):Int) - 1:=(by rw [IntKind.wrap_i64];omega);go_upto_region 11 with fail
     refine qQ5 [0,1,2,3,4] [(5,some 59,[]),(6,some 60,[5]),(7,some 61,[6])] [8,9] (qBt [5,6,7] (KidT w r X ⟨V,Q,s1,s2,U,Y,of⟩ bv l g z (.slice K O.length q) O) undef) (by kernel_rfl) (by kernel_rfl) (.start ⟨⟨C.o.box,C.o.res,⟨C.o.ky.os,C.o.ky.tape,C.o.ky.output,C.o.ky.size,C.o.ky.block⟩⟩,E.o,I.o.agree (Zb _) (fun _ _ _=>rfl)⟩) ?_;simp only [pickL,List.map_cons,List.map_nil,List.filterMap_cons,List.filterMap_nil,Zd,Ze];iterate 5 (refine qZm.cons (v:=?_) (fun _=>Says.plain ?_ ?_) ?_;rotate_left;rfl;(intro w' c;have n7:=(c.any (fun _ _ h=>KidT.box _ _ _ h)).box.cell 7;simp [qQe] at n7;clear c;go_simp;with_reducible rfl);simp only [Act.put,Zh,Zf,Zg])
     refine qZm.nil ⟨by simp,⟨?_,?_,?_,trivial⟩,?_⟩
     ·intro y ρ W p ae o c;obtain ⟨hC,R,J⟩:=c.here 0 (by simp) p (.inl rfl);have b2:=hC.box.lt;have b5:=hC.res.lt;refine qZu rfl (o.1 _ (fun _ _ _ _ h=>by cases h)) (args:=#[.pointer (some ⟨r,0,none⟩),.int .i64 (d+1)]) ?_ cf_ritem ((bw.o g (by omega) (d+1) z true W (by omega) (by have:=HD.o;omega) (hC.ky.bel HB.o hr) R i.o.le).mono ?_)
      ·simp only [List.map_toArray,List.map_cons,List.map_nil];rw [o.1 (.tmp 56) (by simp),o.1 (.tmp 58) (by simp)];rfl
      ·rintro e w' ⟨x,cr,t,B,rfl,c3,a0,bq,I2,S⟩;obtain ⟨xa,xc,rfl,_,_⟩:=Rf bq;refine ⟨_,rfl,c.next (by decide) 0 (by simp) p (.inl rfl) ⟨⟨hC.box.of (a0.block _ b2 (by omega)),hC.res.of (a0.block _ b5 (by omega)),hC.ky.trans a0⟩,x,xa,_,xc,t,B,rfl,c3,J.agree a0.size (fun b H b3=>a0.block b b3 (by omega)),bq.mono (fun b H=>⟨by omega,H.2,fun e=>?_⟩),S⟩⟩;have:=(J.lt e).2;omega
     ·intro y ρ W p ae o c;obtain ⟨u,k⟩:=ae 5 (by simp);have T:=c.here 1 (by simp) p (.inr ⟨u,k⟩);simp only [List.getD_cons_zero,Nat.reduceSub,k,Option.getD_some] at T;rw [if_neg (by decide)] at T;obtain ⟨hC,x,xa,xn,xc,t,B,rfl,M⟩:=T;have A:Bel W (W.alloc (.cells #[.int .i64 x.h.node,.int .i64 x.h.role,.string ⟨x.h.name.toArray⟩,.string ⟨x.h.about.toArray⟩,.int .i64 x.h.level,.int .i64 x.h.checked,.bool x.h.off,.slice xa xn xc] 59)):=(Br W).alloc _;refine zVx rfl (o.2 (5,some 59,[]) (by simp) 59 _ rfl k) (zWm _ _ _ _ _ _ _ _ _ _ W) (c.next (by decide) 1 (by simp) p (.inr ⟨_,k⟩) ⟨⟨hC.box.bel A,hC.res.bel A,hC.ky.trans (.of A)⟩,x,xa,xn,xc,t,B,W.heap.size,rfl,Blk.new' W _ rfl _ _,M.rd.bel A,M.kids.agree A.size (fun b _ h=>A.block b h),(M.its.agree (fun b H=>A.block b H.2.1)).mono (fun b H=>⟨H.1,Zc H.2.1 A.size,H.2.2⟩),M.st⟩)
     ·intro y ρ W p ae o c;obtain ⟨u,k⟩:=ae 6 (by simp);have T:=c.here 2 (by simp) p (.inr ⟨u,k⟩);simp only [List.getD_cons_zero,List.getD_cons_succ,Nat.reduceSub,k,Option.getD_some] at T;rw [if_neg (by decide)] at T;obtain ⟨hC,x,xa,xn,xc,t,B,gg,rfl,hG,M⟩:=T;have b2:=hC.box.lt;have b5:=hC.res.lt;have c6:(Value.slice K O.length q).ownBlock≠some X:=fun e=>by have:=(M.kids.lt e).1;omega
      have c7:(Value.slice K O.length q).ownBlock≠some w.heap.size:=fun e=>by have:=(M.kids.lt e).1;omega
      have c8:(Value.slice K O.length q).ownBlock≠some r:=fun e=>by have:=(M.kids.lt e).1;omega
      refine zJv rfl qWi (by decide) (rd:=fun _ cs cg=>rdIt (fun b=>X+1<=b/\b<W.heap.size/\(Value.slice K O.length q).ownBlock≠some b) (g+1) W cs cg) (fun _ _ _ _ h=>h) (o.1 (.tmp 55) (by simp)) M.kids.fix (o.2 (6,some 60,[5]) (by simp) 60 _ rfl k) hG rfl (y:=x) ⟨_,rfl,M.its⟩ (zF7 (B:=fun b=>X+1<=b/\b<W.heap.size/\(Value.slice K O.length q).ownBlock≠some b) (k:=g+1) (w:=W) (x:=x) ⟨_,rfl,M.its⟩) (by have:=i.o.len;omega) (by have:=i.o.len;omega) (by omega) ?_;intro v7 w7 o7 g7 f7;have hk:=KidW.push o7 (by simp) g7 f7;obtain ⟨za,zc,rfl,_,_⟩:=Rf (qQb.row hk.1);exact c.next (by decide) 2 (by simp) p (.inr ⟨_,k⟩) ⟨⟨hC.box.of (g7.block _ b2 (fun e=>c6 e.symm)),hC.res.of (g7.block _ b5 (fun e=>c7 e.symm)),hC.ky.grown g7 (fun b e=>by have:=(M.kids.lt e).1;omega)⟩,x,t,B,za,_,zc,rfl,hk,M.rd.of (g7.block _ M.rd.lt (fun e=>c8 e.symm)),M.st⟩
     intro c4 wy c;obtain ⟨hC,x,t,B,za,zn,zc,e7,J,R,T⟩:=c.last 2 rfl (u:=c4 7) rfl;simp only [List.foldl_cons,List.foldl_nil,Zh,Zf,Zg];rw [e7] at J ⊢;clear c e7;have n7:=hC.box.cell;have q7:=hC.box.frozen;unfold qQe at n7;have ag:=lH hC;have c1:=lH J;have bz:=lH R;have c0:=lH T;clear hC J R T I C E;go_wp2;go_roundw;case rel=>
      refine ⟨j+1,O++[x],.slice za zn zc,t,B,by omega,congrArg (Value.int .i64) (by omega),⟨ag.o.box.set 7 _,ag.o.res.other _ _ (show w.heap.size≠X by omega),ag.o.ky.new (by omega) _⟩,c1.o.agree (by rw [World.size_setCell];exact Zb _) (fun b H _=>Below.heap_setCell _ _ _ b (show b≠X by omega)),bz.o.other _ _ (show r≠X by omega),i.o.next b3 c0.o⟩
     case measure=>simp [intOf];omega
   | false=>
     have n0:=C.o.box.cell;have m0:=C.o.res.cell;have q0:=C.o.res.frozen;unfold qQe at n0;go_wp2;obtain rfl:=ba.o;exact zJr rfl rfl C.o.res rfl rfl fun W' F=>⟨.mk ⟨V,Q,s1,s2,U,Y,decide (v=1)⟩ O,.slice K O.length q,z,false,rfl,E.o.of (F.block r E.o.lt P),FrE.late C.o.ky F (Zb _),(I.o.agree F.size fun b H h=>F.block b h (by omega)).its.mono fun b H=>⟨by omega,H.2⟩,I.o.2,.item al.o am.o an.o ao.o a9.o (by omega) b8.o b9.o b7.o (i.o.done (by intro h;cases h))⟩
  ·have c5:¬ (0:Int)<(((N - j:Nat)):Int):=(by omega);have n0:=C.o.box.cell;have m0:=C.o.res.cell;have q0:=C.o.res.frozen;unfold qQe at n0;go_wp2;obtain rfl:=ba.o;exact zJr rfl rfl C.o.res rfl rfl fun W' F=>⟨.mk ⟨V,Q,s1,s2,U,Y,decide (v=1)⟩ O,.slice K O.length q,z,oj,rfl,E.o.of (F.block r E.o.lt P),FrE.late C.o.ky F (Zb _),(I.o.agree F.size fun b H h=>F.block b h (by omega)).its.mono fun b H=>⟨by omega,H.2⟩,I.o.2,.item al.o am.o an.o ao.o a9.o (by omega) b8.o b9.o b7.o (i.o.done (by intro h;omega))⟩

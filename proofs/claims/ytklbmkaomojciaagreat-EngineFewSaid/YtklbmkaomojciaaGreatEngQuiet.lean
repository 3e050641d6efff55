/- The closed fact that chapter 11's laws ask first: walked. -/
import Derived.Test.YtklbmkaomojciaaGreatEngPlay
set_option maxRecDepth 100000
set_option maxHeartbeats 4000000
namespace Go.Proofs.YtklbmkaomojciaaGreat
open Go.RowKit
theorem zVn {base k:Nat} {w:World} {y:Value} {a:List It} (hA:qWs a) (h:OfAt base k w y a a):∃ ya yc,y=.slice ya 0 yc:=by
 have he:evsM a a=[]:=by unfold evsM;rw [of_same (qVs hA)]
 unfold OfAt at h
 rw [if_neg] at h
 ·rw [he] at h
  obtain ⟨ya,yc,e,_⟩:=Rf h.read
  exact ⟨ya,yc,e⟩
 ·rintro ⟨h1,h2 | h2⟩
  ·rw [h2] at h1;cases h1
  ·rw [he] at h2;cases h2
def aliveX:Chg:={ kind:=1,node:=0,dest:=0,before:=-1,name:=[98,117,116,116,111,110],value:=[] }
def qJk:Eng:=⟨(qQy rootD aliveX).2.2,[],[],[]⟩
theorem qYn:chgE ⟨rootD,[],[],[]⟩ aliveX=qJk/\(qQy rootD aliveX).1=0/\(qQy rootD aliveX).2.1=1:=by
 have h1:(qQy rootD aliveX).1=0:=by decide +kernel
 refine ⟨?_,h1,by decide +kernel⟩
 unfold chgE
 rw [if_pos h1]
 rfl
theorem zK7:(qKt qJk.doc).length=1/\qJm [] [] (qXl qJk.doc)=2/\qJk.doc.length=2:=by
 refine ⟨by decide +kernel,by decide +kernel,by decide +kernel⟩
theorem zW3 (a0 a1 a2 a3:Value) (w:World):(Instr.field 70 (.agg #[a0,a1,a2,a3]) 0).run Tryz.prog w=.ok a0 w:=by kernel_rfl
theorem qW3 (w:World):Calls Tryz.prog 45 #[] w (Rb (.bool true) w):=by
 have hok:EngOk qJk:=qYn.1▸qK8 qV5 aliveX
 have hok2:=qJu hok
 obtain ⟨f1,f2,f3⟩:=zK7
 have hcA:chgR ⟨rootD,[],[],[]⟩ aliveX=qJk:=by unfold chgR;rw [if_pos qYn.2.1];exact qYn.1
 have cC:Hi (∀ (dv:Value) (W:World),qZb W.heap.size W dv rootD->Calls Tryz.prog 49 #[.agg #[dv,.slice none 0 0,.slice none 0 0,.slice none 0 0],.agg #[.int .i64 1,.int .i64 0,.int .i64 0,.int .i64 (-1),.string ⟨#[98,117,116,116,111,110]⟩,.string ⟨#[]⟩]] W (Rn W fun w' y=>∃ da dn dc ta tn tc ma mn mc ia im ic,y=.tuple #[.agg #[.slice da dn dc,.slice ta tn tc,.slice ma mn mc,.slice ia im ic],.int .i64 1,.int .i64 0] /\
  EngV (fun b=>W.heap.size<=b/\b<w'.heap.size) w' (.slice da dn dc) (.slice ta tn tc) (.slice ma mn mc) (.slice ia im ic) qJk)):=lH (fun dv W h=>by
  have:=qD4 (B:=fun b=>b<W.heap.size) (E:=⟨rootD,[],[],[]⟩) (w:=W) (dv:=dv) (tv:=.slice none 0 0) (mv:=.slice none 0 0) (iv:=.slice none 0 0) ⟨h,qQa.nil,qQa.nil,qQa.nil⟩ (fun b hb=>hb) qV5 aliveX (by decide) (by decide)
  rw [hcA,qYn.2.1,qYn.2.2,if_pos rfl] at this
  exact this)
 have cF1:Hi (∀ (B:Nat->Prop) (dv tv mv iv:Value) (W:World),EngV B W dv tv mv iv qJk->(∀ b,B b->b<W.heap.size)->Calls Tryz.prog 48 #[.agg #[dv,tv,mv,iv]] W (Rn W fun w' y=>∃ da dn dc ta tn tc ma mn mc ea ec,y=.tuple #[.agg #[.slice da dn dc,.slice ta tn tc,.slice ma mn mc,.slice none 0 0],.slice ea 1 ec,.int .i64 2] /\
  EngV (fun b=>b<w'.heap.size) w' (.slice da dn dc) (.slice ta tn tc) (.slice ma mn mc) (.slice none 0 0) (flushE qJk))):=lH (fun B dv tv mv iv W h hB=>by
  refine (qWj h hB hok).mono ?_
  rintro e w' ⟨hb,y,rfl,da,dn,dc,ta,tn,tc,ma,mn,mc,ea,en,ec,rfl,q1,q2⟩
  have hAll:AllM qJk.told (qKt qJk.doc):=⟨f1,.inl rfl⟩
  unfold OfAt at q2
  rw [if_pos hAll] at q2
  obtain ⟨hd,ks,g,v,_,q3,_⟩:=q2
  simp at q3
  obtain ⟨rfl,rfl,rfl⟩:=q3
  rw [show qJm qJk.memos qJk.dirty (qXl qJk.doc)=2 from f2]
  exact ⟨hb,_,rfl,da,dn,dc,ta,tn,tc,ma,mn,mc,_,_,rfl,q1.mono (fun b hb=>hb.2)⟩)
 have cF2:Hi (∀ (B:Nat->Prop) (dv tv mv iv:Value) (W:World),EngV B W dv tv mv iv (flushE qJk)->(∀ b,B b->b<W.heap.size)->Calls Tryz.prog 48 #[.agg #[dv,tv,mv,iv]] W (Rn W fun w' y=>∃ da dc ta tc ma mn mc ea ec,y=.tuple #[.agg #[.slice da 2 dc,.slice ta 1 tc,.slice ma mn mc,.slice none 0 0],.slice ea 0 ec,.int .i64 0] /\
  EngV (fun b=>b<w'.heap.size) w' (.slice da 2 dc) (.slice ta 1 tc) (.slice ma mn mc) (.slice none 0 0) (flushE (flushE qJk)))):=lH (fun B dv tv mv iv W h hB=>by
  refine (qWj h hB hok2).mono ?_
  rintro e w' ⟨hb,y,rfl,da,dn,dc,ta,tn,tc,ma,mn,mc,ea,en,ec,rfl,q1,q2⟩
  obtain ⟨ya,yc,q3⟩:=zVn (hok2.alike).1 q2
  simp at q3
  obtain ⟨rfl,rfl,rfl⟩:=q3
  obtain ⟨_,_,e1,_,_⟩:=Rf q1.doc
  obtain ⟨_,_,e2,_,_⟩:=Rf q1.told
  simp at e1 e2
  obtain ⟨rfl,rfl,rfl⟩:=e1
  obtain ⟨rfl,rfl,rfl⟩:=e2
  rw [qB6]
  have g1:(flushE (flushE qJk)).doc.length=2:=f3
  have g2:(flushE (flushE qJk)).told.length=1:=f1
  rw [g1,g2] at *
  exact ⟨hb,_,rfl,_,_,_,_,ma,mn,mc,_,_,rfl,q1.mono (fun b hb=>hb.2)⟩)
 have cO:Hi (∀ (dv tv mv:Value) (W:World),EngV (fun b=>b<W.heap.size) W dv tv mv (.slice none 0 0) (flushE (flushE qJk))->Calls Tryz.prog 84 #[.agg #[dv,tv,mv,.slice none 0 0]] W (Rn W fun w' y=>∃ da dc tv' mv' iv',y=.agg #[.slice da 2 dc,tv',mv',iv'])):=lH (fun dv tv mv W h=>by
  have hok3:=qJu hok2
  have hA:=hok3.alike
  refine (qXt (m:=W.heap.size) (k:=100) h.doc h.told h.memos h.dirty (Zb _) (by rw [show (flushE (flushE qJk)).doc.length=2 from f3];omega) (qDc hok3.good) (by have:=hA.2;omega) (by have:=hok3.few;omega) (fun y hy=>by have:=hok3.uses y hy;omega) (by simp [flushE])).mono ?_
  rintro e w' ⟨hb,y,rfl,dv',tv',mv',iv',rfl,q1,_⟩
  obtain ⟨da,dc,rfl,_,_⟩:=Rf q1
  rw [show (flushE (flushE qJk)).doc.length=2 from f3]
  exact ⟨hb,_,rfl,da,dc,tv',mv',iv',rfl⟩)
 have cP:Hi (∀ W,Calls Tryz.prog 50 #[.agg #[.int .i64 7,.int .i64 0,.int .i64 0,.int .i64 0,.string ⟨#[]⟩,.string ⟨#[]⟩]] W (Rb (.bool true) W)):=lH (fun W=>qKs { kind:=7 } W)
 clear f1 f2 f3 hcA hok hok2
 generalize flushE (flushE qJk)=G3 at *
 generalize flushE qJk=G2 at *
 generalize qJk=G1 at *
 go_enter Tryz.func45,Tryz.ntmps45
 go_upto_region 2 with (first
 | (go_at_call 51;(with_reducible refine (qWc _).mono ?_);rintro e w2 ⟨b2,u1,rfl,dv,rfl,o2⟩;obtain ⟨na,nc,rfl,_,_⟩:=Rf o2;have HD2:=lH (o2.mono (C:=(·<w2.heap.size)) (fun b hb=>hb.2));have HB:=lH b2;clear b2 o2)
 | (go_at_call 49;(refine (cC.o _ _ HD2.o).mono ?_);rintro e w3 ⟨b3,y3,rfl,da,dn,dc,ta,tn,tc,ma,mn,mc,ia,im,ic,rfl,v3⟩;have HB3:=lH (Bt HB.o b3);have HV3:=lH v3;clear b3 v3))
 have hB4:Bel w3 (w3.alloc (.cells #[.slice da dn dc,.slice ta tn tc,.slice ma mn mc,.slice ia im ic] 70)):=(Br w3).alloc _
 have hK4:Blk (w3.alloc (.cells #[.slice da dn dc,.slice ta tn tc,.slice ma mn mc,.slice ia im ic] 70)) w3.heap.size [.slice da dn dc,.slice ta tn tc,.slice ma mn mc,.slice ia im ic] 70:=Blk.new' w3 _ rfl _ _
 have hV4:=HV3.o.agree (fun b hb=>hB4.block b hb.2)
 have HB4:=lH (Bt HB3.o hB4)
 have hs4:=hB4.size
 generalize (w3.alloc (.cells #[.slice da dn dc,.slice ta tn tc,.slice ma mn mc,.slice ia im ic] 70))=w4 at *
 have cF:=lH (cF1.o _ _ _ _ _ _ hV4 (fun b hb=>Zc hb.2 hs4))
 have n0:=hK4.cell 0
 have n1:=hK4.cell 1
 have n2:=hK4.cell 2
 have n3:=hK4.cell 3
 simp only [Zd,Ze] at n0 n1 n2 n3
 clear hB4 hK4 hV4 HV3 HB3 hs4
 go_upto_region 3 with (go_at_call 48;(with_reducible refine cF.o.mono ?_);rintro e w5 ⟨b5,y5,rfl,pa,pn,pc,qa,qn,qc,ra,rn,rc,ea,ec,rfl,v5⟩;have HB5:=lH (Bt HB4.o b5);have HV5:=lH v5;clear b5 v5)
 clear n0 n1 n2 n3 cF HB4
 have hB6:Bel w5 (w5.alloc (.cells #[.slice pa pn pc,.slice qa qn qc,.slice ra rn rc,.slice none 0 0] 70)):=(Br w5).alloc _
 have hK6:Blk (w5.alloc (.cells #[.slice pa pn pc,.slice qa qn qc,.slice ra rn rc,.slice none 0 0] 70)) w5.heap.size [.slice pa pn pc,.slice qa qn qc,.slice ra rn rc,.slice none 0 0] 70:=Blk.new' w5 _ rfl _ _
 have hV6:=HV5.o.agree (fun b hb=>hB6.block b hb)
 have HB6:=lH (Bt HB5.o hB6)
 have hs6:=hB6.size
 generalize (w5.alloc (.cells #[.slice pa pn pc,.slice qa qn qc,.slice ra rn rc,.slice none 0 0] 70))=w6 at *
 have cF:=lH (cF2.o _ _ _ _ _ _ hV6 (fun b hb=>Zc hb hs6))
 have n0:=hK6.cell 0
 have n1:=hK6.cell 1
 have n2:=hK6.cell 2
 have n3:=hK6.cell 3
 simp only [Zd,Ze] at n0 n1 n2 n3
 clear hB6 hK6 hV6 HV5 HB5 hs6
 go_upto_region 4 with (go_at_call 48;(with_reducible refine cF.o.mono ?_);rintro e w7 ⟨b7,y7,rfl,xa,xc,ya,yc,za,zn,zc,fa,fc,rfl,v7⟩;have HB7:=lH (Bt HB6.o b7);have HV7:=lH v7;clear b7 v7)
 clear n0 n1 n2 n3 cF HB6
 have hB8:Bel w7 (w7.alloc (.cells #[.slice xa 2 xc,.slice ya 1 yc,.slice za zn zc,.slice none 0 0] 70)):=(Br w7).alloc _
 have hK8:Blk (w7.alloc (.cells #[.slice xa 2 xc,.slice ya 1 yc,.slice za zn zc,.slice none 0 0] 70)) w7.heap.size [.slice xa 2 xc,.slice ya 1 yc,.slice za zn zc,.slice none 0 0] 70:=Blk.new' w7 _ rfl _ _
 have hV8:=(HV7.o.agree (fun b hb=>hB8.block b hb)).mono (fun b hb=>Zc hb hB8.size)
 have HB8:=lH (Bt HB7.o hB8)
 generalize (w7.alloc (.cells #[.slice xa 2 xc,.slice ya 1 yc,.slice za zn zc,.slice none 0 0] 70))=w8 at *
 have cOw:=lH (cO.o _ _ _ _ hV8)
 have n0:=hK8.cell 0
 have n1:=hK8.cell 1
 have n2:=hK8.cell 2
 have n3:=hK8.cell 3
 simp only [Zd,Ze] at n0 n1 n2 n3
 clear hB8 hK8 hV8 HV7 HB7 cO cC cF1 cF2
 have hfe:=zW3
 go_wp2_with (first
 | (go_at_call 84;(with_reducible refine cOw.o.mono ?_);rintro e w9 ⟨b9,y9,rfl,oa,oc,o2,o3,o4,rfl⟩;have HB9:=lH (Bt HB8.o b9);clear b9)
 | (go_at_call 50;(refine (cP.o _).mono ?_);rintro e w10 ⟨rfl,b10⟩;have HB10:=lH (Bt HB9.o b10);clear b10))
 go_ret
 exact ⟨rfl,HB10.o⟩
end Go.Proofs.YtklbmkaomojciaaGreat
set_option maxRecDepth 100000
set_option maxHeartbeats 4000000
namespace Go.Proofs.YtklbmkaomojciaaGreat
open Go.RowKit
theorem qHw {m n:Nat} {v fv:Value} {l:List Chg} {fl:List Bool} {w:World} (hv:zQq m w v l) (hf:zX5 n w fv fl) (hm:m<=w.heap.size) (hn:n<=w.heap.size) (hl:∀ x∈l,x.name.length<=9223372036854775807/\x.value.length<=9223372036854775807) :
 Calls Tryz.prog 12 #[v,fv] w (Rb (.bool true) w):=by
 have hokP:EngOk (qX2 l fl):=zQw fl l 0 _ qV5
 have hok:=qJu hokP
 have cA:=lH (qW3 w)
 have cP:Hi (∀ W,Bel w W->Calls Tryz.prog 46 #[v,fv] W (Rn W fun w' y=>∃ da dn dc ta tn tc ma mn mc N,y=.tuple #[.agg #[.slice da dn dc,.slice ta tn tc,.slice ma mn mc,.slice none 0 0],.int .i64 N] /\
  EngV (fun b=>W.heap.size<=b/\b<w'.heap.size) w' (.slice da dn dc) (.slice ta tn tc) (.slice ma mn mc) (.slice none 0 0) (flushE (qX2 l fl)))):=lH (fun W hW=>by
  refine (zQl (qQa.later hv qDa hW hm) (qQa.later hf zZb hW hn) (Za hm hW.size) (Za hn hW.size) hl).mono ?_
  rintro e w' ⟨hb,y,rfl,da,dn,dc,ta,tn,tc,ma,mn,mc,rfl,q⟩
  exact ⟨hb,_,rfl,da,dn,dc,ta,tn,tc,ma,mn,mc,_,rfl,q⟩)
 have cF:Hi (∀ (B:Nat->Prop) (dv tv mv iv:Value) (W:World),EngV B W dv tv mv iv (flushE (qX2 l fl))->(∀ b,B b->b<W.heap.size)->Calls Tryz.prog 48 #[.agg #[dv,tv,mv,iv]] W (Rn W fun w' y=>∃ da dn dc ta tn tc ma mn mc ea ec,y=.tuple #[.agg #[.slice da dn dc,.slice ta tn tc,.slice ma mn mc,.slice none 0 0],.slice ea 0 ec,.int .i64 0] /\
  ItsK (·<w'.heap.size) 100 w' (.slice ta tn tc) (qKt (qX2 l fl).doc))):=lH (fun B dv tv mv iv W h hB=>by
  refine (qWj h hB hok).mono ?_
  rintro e w' ⟨hb,y,rfl,da,dn,dc,ta,tn,tc,ma,mn,mc,ea,en,ec,rfl,q1,q2⟩
  obtain ⟨ya,yc,q3⟩:=zVn (hok.alike).1 q2
  simp at q3
  obtain ⟨rfl,rfl,rfl⟩:=q3
  rw [qB6]
  exact ⟨hb,_,rfl,da,dn,dc,ta,tn,tc,ma,mn,mc,_,_,rfl,q1.told.mono (fun b hb=>hb.2)⟩)
 have cS:Hi (∀ u u' W,ItsK (·<W.heap.size) 100 W u (qKt (qX2 l fl).doc)->ItsK (·<W.heap.size) 100 W u' (qKt (qX2 l fl).doc)->Calls Tryz.prog 31 #[u,u'] W (Rb (.bool true) W)):=lH (fun u u' W h1 h2=>qGm 100 _ u u' _ W h1 h2 (Zb _))
 obtain ⟨va,vc,rfl,_,_⟩:=Rf hv
 obtain ⟨fa,fc,rfl,_,_⟩:=Rf hf
 have hTT:(flushE (qX2 l fl)).told=qKt (qX2 l fl).doc:=rfl
 have HTT:=lH hTT
 clear hokP hok hv hf hl hTT
 generalize flushE (qX2 l fl)=P2 at *
 generalize qKt (qX2 l fl).doc=TT at *
 go_enter Tryz.func12,Tryz.ntmps12
 go_upto_region 4 with (first
 | (go_at_call 45;(with_reducible refine qKj cA.o fun w2 HB2=>?_))
 | (go_at_call 46;(with_reducible refine (cP.o _ HB2.o).mono ?_);rintro e w3 ⟨b3,y3,rfl,da,dn,dc,ta,tn,tc,ma,mn,mc,N,rfl,v3⟩;have HB3:=lH (Bt HB2.o b3);have HV3:=lH v3;clear b3 v3))
 have hB4:Bel w3 (w3.alloc (.cells #[.slice da dn dc,.slice ta tn tc,.slice ma mn mc,.slice none 0 0] 70)):=(Br w3).alloc _
 have hK4:Blk (w3.alloc (.cells #[.slice da dn dc,.slice ta tn tc,.slice ma mn mc,.slice none 0 0] 70)) w3.heap.size [.slice da dn dc,.slice ta tn tc,.slice ma mn mc,.slice none 0 0] 70:=Blk.new' w3 _ rfl _ _
 have hV4:=HV3.o.agree (fun b hb=>hB4.block b hb.2)
 have HB4:=lH (Bt HB3.o hB4)
 have hs4:=hB4.size
 generalize (w3.alloc (.cells #[.slice da dn dc,.slice ta tn tc,.slice ma mn mc,.slice none 0 0] 70))=w4 at *
 have cF':=lH (cF.o _ _ _ _ _ _ hV4 (fun b hb=>Zc hb.2 hs4))
 have hT4:ItsK (·<w4.heap.size) 100 w4 (.slice ta tn tc) TT:=by
  have:=hV4.told
  rw [HTT.o] at this
  exact this.mono (fun b hb=>Zc hb.2 hs4)
 have HT4:=lH hT4
 have HK4:=lH hK4
 have n0:=hK4.cell 0
 have n1:=hK4.cell 1
 have n2:=hK4.cell 2
 have n3:=hK4.cell 3
 simp only [Zd,Ze] at n0 n1 n2 n3
 clear hB4 hK4 hV4 HV3 HB3 hs4 cF cP cA hT4 HTT
 go_upto_region 5 with (go_at_call 48;(with_reducible refine cF'.o.mono ?_);rintro e w5 ⟨b5,y5,rfl,pa,pn,pc,qa,qn,qc,ra,rn,rc,ea,ec,rfl,v5⟩;have HB5:=lH b5;have HV5:=lH v5;clear b5 v5)
 clear n0 n1 n2 n3 cF'
 have hB6:Bel w5 (w5.alloc (.cells #[.slice pa pn pc,.slice qa qn qc,.slice ra rn rc,.slice none 0 0] 70)):=(Br w5).alloc _
 have hK6:Blk (w5.alloc (.cells #[.slice pa pn pc,.slice qa qn qc,.slice ra rn rc,.slice none 0 0] 70)) w5.heap.size [.slice pa pn pc,.slice qa qn qc,.slice ra rn rc,.slice none 0 0] 70:=Blk.new' w5 _ rfl _ _
 have h46:=Bt HB5.o hB6
 have HB6:=lH (Bt HB4.o h46)
 have n1:=(HK4.o.bel h46).cell 1
 have m1:=hK6.cell 1
 simp only [Zd,Ze] at n1 m1
 have cS':=lH (cS.o _ _ _ (HT4.o.up h46 (Zb _)) (HV5.o.up hB6 (Zb _)))
 clear hB6 hK6 h46 HV5 HB5 cS
 go_wp2_with (go_at_call 31;(with_reducible refine cS'.o.mono ?_);rintro e w7 ⟨rfl,b7⟩;have HB7:=lH (Bt HB6.o b7);clear b7)
 go_ret
 exact ⟨rfl,HB7.o⟩
end Go.Proofs.YtklbmkaomojciaaGreat

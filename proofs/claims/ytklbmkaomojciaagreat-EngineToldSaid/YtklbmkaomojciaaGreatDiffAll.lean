/- tnlaw11.play: changes, with a flush where a number says so: walked. -/
import Derived.Test.YtklbmkaomojciaaGreatEngChange
namespace Go.Proofs.YtklbmkaomojciaaGreat
open Go.RowKit
structure EngV (B:Nat->Prop) (w:World) (dv tv mv iv:Value) (E:Eng):Prop where
 doc:qJ4 B w dv E.doc
 told:ItsK B 100 w tv E.told
 memos:qJ3 B w mv E.memos
 dirty:qQa 1 qQf B w iv E.dirty
theorem EngV.agree {B:Nat->Prop} {w w':World} {dv tv mv iv:Value} {E:Eng} (h:EngV B w dv tv mv iv E) (ha:∀ b,B b->w'.heap[b]?=w.heap[b]?):EngV B w' dv tv mv iv E:=
 ⟨h.doc.agree ha,h.told.agree ha,h.memos.agree ha,qQa.agree h.dirty ha (fun _ _ _ h=>h)⟩
theorem EngV.mono {B B':Nat->Prop} {w:World} {dv tv mv iv:Value} {E:Eng} (h:EngV B w dv tv mv iv E) (hb:∀ b,B b->B' b):EngV B' w dv tv mv iv E:=
 ⟨h.doc.mono hb,h.told.mono hb,h.memos.mono hb,h.dirty.mono hb (fun _ _ _ h=>h)⟩
def chgR (E:Eng) (x:Chg):Eng:=if (qQ4 E.doc x).1=0 then chgE E x else ⟨[],[],[],[]⟩
theorem zKt {B:Nat->Prop} {w:World} {dv tv mv iv:Value} {E:Eng} (h:EngV B w dv tv mv iv E) (hB:∀ b,B b->b<w.heap.size) (ok:EngOk E) (x:Chg) (hn:x.name.length<=9223372036854775807) (hv:x.value.length<=9223372036854775807) :
 Calls Tryz.prog 49 #[.agg #[dv,tv,mv,iv],chgV x] w (Rn w fun w' y=>∃ da dn dc ta tn tc ma mn mc ia im ic,y=.tuple #[.agg #[.slice da dn dc,.slice ta tn tc,.slice ma mn mc,.slice ia im ic],.int .i64 (if (qQ4 E.doc x).1=0 then (qQ4 E.doc x).2.1 else 0),.int .i64 (qQ4 E.doc x).1] /\
  EngV (fun b=>w.heap.size<=b/\b<w'.heap.size) w' (.slice da dn dc) (.slice ta tn tc) (.slice ma mn mc) (.slice ia im ic) (chgR E x)):=by
 have hA:=ok.alike
 have h60:=zYu ok.once ok.range
 have h0:=h.mono hB
 refine (qBu x h0.doc h0.told h0.memos h0.dirty (Zb _) ok.good hn hv (qD2 ok.good) (by have:=hA.2;omega) (by have:=ok.few;omega) (fun y hy=>by have:=ok.uses y hy;omega) (by omega)).mono ?_
 rintro e w' ⟨hb,y,rfl,dv',tv',mv',iv',rfl,q1,q2,q3,q4⟩
 obtain ⟨da,dc,rfl,_,_⟩:=Rf q1
 obtain ⟨ta,tc,rfl,_,_⟩:=Rf q2
 obtain ⟨ma,mc,rfl,_,_⟩:=Rf q3
 obtain ⟨ia,ic,rfl,_,_⟩:=Rf q4
 have e1:(qKj E.doc E.told E.memos E.dirty x).2.1=if (qQ4 E.doc x).1=0 then (qQ4 E.doc x).2.1 else 0:=by
  unfold qKj
  split <;> rfl
 have e2:(qKj E.doc E.told E.memos E.dirty x).1=(qQ4 E.doc x).1:=by
  unfold qKj
  split
  ·rename_i he
   rw [he]
  ·rfl
 rw [e1,e2]
 refine ⟨hb,_,rfl,da,_,dc,ta,_,tc,ma,_,mc,ia,_,ic,rfl,?_⟩
 by_cases he:(qQ4 E.doc x).1=0
 ·unfold chgR chgE
  unfold qKj at *
  simp only [if_pos he] at *
  exact ⟨q1,q2,q3,q4⟩
 ·unfold chgR
  unfold qKj at *
  simp only [if_neg he] at *
  exact ⟨q1,q2,q3,q4⟩
theorem zQ7 {B:Nat->Prop} {w:World} {dv tv mv iv:Value} {E:Eng} (h:EngV B w dv tv mv iv E) (hB:∀ b,B b->b<w.heap.size) (ok:EngOk E) :
 Calls Tryz.prog 48 #[.agg #[dv,tv,mv,iv]] w (Rn w fun w' y=>∃ da dn dc ta tn tc ma mn mc ea en ec,y=.tuple #[.agg #[.slice da dn dc,.slice ta tn tc,.slice ma mn mc,.slice none 0 0],.slice ea en ec,.int .i64 (qX0 E.memos E.dirty (qVl E.doc))] /\
  EngV (fun b=>(B b∨w.heap.size<=b)/\b<w'.heap.size) w' (.slice da dn dc) (.slice ta tn tc) (.slice ma mn mc) (.slice none 0 0) (qZz E)/\OfAt w.heap.size 100 w' (.slice ea en ec) E.told (qXl E.doc)):=by
 have h0:=h.mono hB
 refine (qHl h0.doc h0.told h.memos hB h0.dirty (Zb _) ok).mono ?_
 rintro e w' ⟨hb,y,rfl,dv',tv',mv',ev,rfl,q1,q2,q3,q4⟩
 obtain ⟨da,dc,rfl,_,_⟩:=Rf q1
 obtain ⟨ta,tc,rfl,_,_⟩:=Rf q2
 obtain ⟨ma,mc,rfl,_,_⟩:=Rf q3
 obtain ⟨ea,en,ec,rfl⟩:=q4.form
 exact ⟨hb,_,rfl,da,_,dc,ta,_,tc,ma,_,mc,ea,en,ec,rfl,⟨q1.mono (fun b hb=>⟨.inr hb.1,hb.2⟩),q2.mono (fun b hb=>⟨.inr hb.1,hb.2⟩),q3,qQa.nil⟩,q4⟩
def EngC (lo g:Nat) (W:World) (E:Eng):Prop:=∃ da dn dc ta tn tc ma mn mc ia im ic,Blk W g [.slice da dn dc,.slice ta tn tc,.slice ma mn mc,.slice ia im ic] 70/\EngV (fun b=>lo<=b/\b<W.heap.size/\b≠g) W (.slice da dn dc) (.slice ta tn tc) (.slice ma mn mc) (.slice ia im ic) E
theorem EngC.bel {lo g:Nat} {W W':World} {E:Eng} (h:EngC lo g W E) (hb:Bel W W'):EngC lo g W' E:=by
 obtain ⟨da,dn,dc,ta,tn,tc,ma,mn,mc,ia,im,ic,h1,h2⟩:=h
 exact ⟨da,dn,dc,ta,tn,tc,ma,mn,mc,ia,im,ic,h1.bel hb,(h2.agree (fun b hq=>hb.block b hq.2.1)).mono (fun b hq=>⟨hq.1,Zc hq.2.1 hb.size,hq.2.2⟩)⟩
theorem qQa.bool_cell {B:Nat->Prop} {w:World} {a:Option Addr} {c:Nat} {l:List Bool} (h:qQa 1 zVa B w (.slice a l.length c) l) (j:Nat) (hj:j<l.length):∃ b off,a=some ⟨b,off,none⟩/\B b/\w.cell? ⟨b,off+j,none⟩=some (.bool l[j]):=by
 obtain ⟨b,off,cap,cs,h1,h2,h3,h4,h5⟩:=qQa.elem h j hj
 simp at h1
 have h6:=h4 0 (.bool l[j]) (by rw [show cs=[.bool l[j]] from h5];rfl)
 exact ⟨b,off,h1.1,h2,by simpa using h6⟩
end Go.Proofs.YtklbmkaomojciaaGreat
set_option maxRecDepth 100000
set_option maxHeartbeats 4000000
namespace Go.Proofs.YtklbmkaomojciaaGreat
open Go.RowKit
theorem of_quiet {base k:Nat} {w:World} {y:Value} {a:List It} (hA:qX4 a) (h:OfAt base k w y a a):∃ ya yc,y=.slice ya 0 yc:=by
 have he:evsM a a=[]:=by unfold evsM;rw [of_same (qXr hA)]
 unfold OfAt at h
 rw [if_neg] at h
 ·rw [he] at h
  obtain ⟨ya,yc,e,_⟩:=Rf h.read
  exact ⟨ya,yc,e⟩
 ·rintro ⟨h1,h2 | h2⟩
  ·rw [h2] at h1;cases h1
  ·rw [he] at h2;cases h2
def aliveX:Chg:={ kind:=1,node:=0,dest:=0,before:=-1,name:=[98,117,116,116,111,110],value:=[] }
def qJl:Eng:=⟨(qQ4 rootD aliveX).2.2,[],[],[]⟩
theorem qYp:chgE ⟨rootD,[],[],[]⟩ aliveX=qJl/\(qQ4 rootD aliveX).1=0/\(qQ4 rootD aliveX).2.1=1:=by
 have h1:(qQ4 rootD aliveX).1=0:=by decide +kernel
 refine ⟨?_,h1,by decide +kernel⟩
 unfold chgE
 rw [if_pos h1]
 rfl
theorem zKf:(qXl qJl.doc).length=1/\qX0 [] [] (qVl qJl.doc)=2/\qJl.doc.length=2:=by
 refine ⟨by decide +kernel,by decide +kernel,by decide +kernel⟩
theorem zWj (a0 a1 a2 a3:Value) (w:World):(Instr.field 70 (.agg #[a0,a1,a2,a3]) 0).run Tryz.prog w=.ok a0 w:=by kernel_rfl
theorem qD5 (w:World):Calls Tryz.prog 45 #[] w (Rb (.bool true) w):=by
 have hok:EngOk qJl:=qYp.1▸qGb qD1 aliveX
 have hok2:=qXy hok
 obtain ⟨f1,f2,f3⟩:=zKf
 have hcA:chgR ⟨rootD,[],[],[]⟩ aliveX=qJl:=by unfold chgR;rw [if_pos qYp.2.1];exact qYp.1
 have cC:Hi (∀ (dv:Value) (W:World),qZb W.heap.size W dv rootD->Calls Tryz.prog 49 #[.agg #[dv,.slice none 0 0,.slice none 0 0,.slice none 0 0],.agg #[.int .i64 1,.int .i64 0,.int .i64 0,.int .i64 (-1),.string ⟨#[98,117,116,116,111,110]⟩,.string ⟨#[]⟩]] W (Rn W fun w' y=>∃ da dn dc ta tn tc ma mn mc ia im ic,y=.tuple #[.agg #[.slice da dn dc,.slice ta tn tc,.slice ma mn mc,.slice ia im ic],.int .i64 1,.int .i64 0] /\
  EngV (fun b=>W.heap.size<=b/\b<w'.heap.size) w' (.slice da dn dc) (.slice ta tn tc) (.slice ma mn mc) (.slice ia im ic) qJl)):=lH (fun dv W h=>by
  have:=zKt (B:=fun b=>b<W.heap.size) (E:=⟨rootD,[],[],[]⟩) (w:=W) (dv:=dv) (tv:=.slice none 0 0) (mv:=.slice none 0 0) (iv:=.slice none 0 0) ⟨h,qQa.nil,qQa.nil,qQa.nil⟩ (fun b hb=>hb) qD1 aliveX (by decide) (by decide)
  rw [hcA,qYp.2.1,qYp.2.2,if_pos rfl] at this
  exact this)
 have cF1:Hi (∀ (B:Nat->Prop) (dv tv mv iv:Value) (W:World),EngV B W dv tv mv iv qJl->(∀ b,B b->b<W.heap.size)->Calls Tryz.prog 48 #[.agg #[dv,tv,mv,iv]] W (Rn W fun w' y=>∃ da dn dc ta tn tc ma mn mc ea ec,y=.tuple #[.agg #[.slice da dn dc,.slice ta tn tc,.slice ma mn mc,.slice none 0 0],.slice ea 1 ec,.int .i64 2] /\
  EngV (fun b=>b<w'.heap.size) w' (.slice da dn dc) (.slice ta tn tc) (.slice ma mn mc) (.slice none 0 0) (qZz qJl))):=lH (fun B dv tv mv iv W h hB=>by
  refine (zQ7 h hB hok).mono ?_
  rintro e w' ⟨hb,y,rfl,da,dn,dc,ta,tn,tc,ma,mn,mc,ea,en,ec,rfl,q1,q2⟩
  have hAll:AllM qJl.told (qXl qJl.doc):=⟨f1,.inl rfl⟩
  unfold OfAt at q2
  rw [if_pos hAll] at q2
  obtain ⟨hd,ks,g,v,_,q3,_⟩:=q2
  simp at q3
  obtain ⟨rfl,rfl,rfl⟩:=q3
  rw [show qX0 qJl.memos qJl.dirty (qVl qJl.doc)=2 from f2]
  exact ⟨hb,_,rfl,da,dn,dc,ta,tn,tc,ma,mn,mc,_,_,rfl,q1.mono (fun b hb=>hb.2)⟩)
 have cF2:Hi (∀ (B:Nat->Prop) (dv tv mv iv:Value) (W:World),EngV B W dv tv mv iv (qZz qJl)->(∀ b,B b->b<W.heap.size)->Calls Tryz.prog 48 #[.agg #[dv,tv,mv,iv]] W (Rn W fun w' y=>∃ da dc ta tc ma mn mc ea ec,y=.tuple #[.agg #[.slice da 2 dc,.slice ta 1 tc,.slice ma mn mc,.slice none 0 0],.slice ea 0 ec,.int .i64 0] /\
  EngV (fun b=>b<w'.heap.size) w' (.slice da 2 dc) (.slice ta 1 tc) (.slice ma mn mc) (.slice none 0 0) (qZz (qZz qJl)))):=lH (fun B dv tv mv iv W h hB=>by
  refine (zQ7 h hB hok2).mono ?_
  rintro e w' ⟨hb,y,rfl,da,dn,dc,ta,tn,tc,ma,mn,mc,ea,en,ec,rfl,q1,q2⟩
  obtain ⟨ya,yc,q3⟩:=of_quiet (hok2.alike).1 q2
  simp at q3
  obtain ⟨rfl,rfl,rfl⟩:=q3
  obtain ⟨_,_,e1,_,_⟩:=Rf q1.doc
  obtain ⟨_,_,e2,_,_⟩:=Rf q1.told
  simp at e1 e2
  obtain ⟨rfl,rfl,rfl⟩:=e1
  obtain ⟨rfl,rfl,rfl⟩:=e2
  rw [zZp]
  have g1:(qZz (qZz qJl)).doc.length=2:=f3
  have g2:(qZz (qZz qJl)).told.length=1:=f1
  rw [g1,g2] at *
  exact ⟨hb,_,rfl,_,_,_,_,ma,mn,mc,_,_,rfl,q1.mono (fun b hb=>hb.2)⟩)
 have cO:Hi (∀ (dv tv mv:Value) (W:World),EngV (fun b=>b<W.heap.size) W dv tv mv (.slice none 0 0) (qZz (qZz qJl))->Calls Tryz.prog 84 #[.agg #[dv,tv,mv,.slice none 0 0]] W (Rn W fun w' y=>∃ da dc tv' mv' iv',y=.agg #[.slice da 2 dc,tv',mv',iv'])):=lH (fun dv tv mv W h=>by
  have hok3:=qXy hok2
  have hA:=hok3.alike
  refine (qXx (m:=W.heap.size) (k:=100) h.doc h.told h.memos h.dirty (Zb _) (by rw [show (qZz (qZz qJl)).doc.length=2 from f3];omega) (qD2 hok3.good) (by have:=hA.2;omega) (by have:=hok3.few;omega) (fun y hy=>by have:=hok3.uses y hy;omega) (by simp [qZz])).mono ?_
  rintro e w' ⟨hb,y,rfl,dv',tv',mv',iv',rfl,q1,_⟩
  obtain ⟨da,dc,rfl,_,_⟩:=Rf q1
  rw [show (qZz (qZz qJl)).doc.length=2 from f3]
  exact ⟨hb,_,rfl,da,dc,tv',mv',iv',rfl⟩)
 have cP:Hi (∀ W,Calls Tryz.prog 50 #[.agg #[.int .i64 7,.int .i64 0,.int .i64 0,.int .i64 0,.string ⟨#[]⟩,.string ⟨#[]⟩]] W (Rb (.bool true) W)):=lH (fun W=>qYv { kind:=7 } W)
 clear f1 f2 f3 hcA hok hok2
 generalize qZz (qZz qJl)=G3 at *
 generalize qZz qJl=G2 at *
 generalize qJl=G1 at *
 go_enter Tryz.func45,Tryz.ntmps45
 go_upto_region 2 with (first
 | (go_at_call 51;(with_reducible refine (qVs _).mono ?_);rintro e w2 ⟨b2,u1,rfl,dv,rfl,o2⟩;obtain ⟨na,nc,rfl,_,_⟩:=Rf o2;have HD2:=lH (o2.mono (C:=(·<w2.heap.size)) (fun b hb=>hb.2));have HB:=lH b2;clear b2 o2)
 | (go_at_call 49;(refine (cC.o _ _ HD2.o).mono ?_);rintro e w3 ⟨b3,y3,rfl,da,dn,dc,ta,tn,tc,ma,mn,mc,ia,im,ic,rfl,v3⟩;have HB3:=lH (Bt HB.o b3);have HV3:=lH v3;clear b3 v3))
 have hB4:Bel w3 (w3.alloc (.cells #[.slice da dn dc,.slice ta tn tc,.slice ma mn mc,.slice ia im ic] 70)):=(Br w3).alloc _
 have hK4:Blk (w3.alloc (.cells #[.slice da dn dc,.slice ta tn tc,.slice ma mn mc,.slice ia im ic] 70)) w3.heap.size [.slice da dn dc,.slice ta tn tc,.slice ma mn mc,.slice ia im ic] 70:=Blk.new' w3 _ rfl _ _
 have hV4:=HV3.o.agree (fun b hb=>hB4.block b hb.2)
 have HB4:=lH (Bt HB3.o hB4)
 have hs4:=hB4.size
 generalize (w3.alloc (.cells #[.slice da dn dc,.slice ta tn tc,.slice ma mn mc,.slice ia im ic] 70))=w4 at *
 have cF:=lH (cF1.o _ _ _ _ _ _ hV4 (fun b hb=>Zc hb.2 hs4))
 have n0:=hK4.cell 0
 have n1:=hK4.cell 1
 have n2:=hK4.cell 2
 have n3:=hK4.cell 3
 simp only [Zd,Ze] at n0 n1 n2 n3
 clear hB4 hK4 hV4 HV3 HB3 hs4
 go_upto_region 3 with (go_at_call 48;(with_reducible refine cF.o.mono ?_);rintro e w5 ⟨b5,y5,rfl,pa,pn,pc,qa,qn,qc,ra,rn,rc,ea,ec,rfl,v5⟩;have HB5:=lH (Bt HB4.o b5);have HV5:=lH v5;clear b5 v5)
 clear n0 n1 n2 n3 cF HB4
 have hB6:Bel w5 (w5.alloc (.cells #[.slice pa pn pc,.slice qa qn qc,.slice ra rn rc,.slice none 0 0] 70)):=(Br w5).alloc _
 have hK6:Blk (w5.alloc (.cells #[.slice pa pn pc,.slice qa qn qc,.slice ra rn rc,.slice none 0 0] 70)) w5.heap.size [.slice pa pn pc,.slice qa qn qc,.slice ra rn rc,.slice none 0 0] 70:=Blk.new' w5 _ rfl _ _
 have hV6:=HV5.o.agree (fun b hb=>hB6.block b hb)
 have HB6:=lH (Bt HB5.o hB6)
 have hs6:=hB6.size
 generalize (w5.alloc (.cells #[.slice pa pn pc,.slice qa qn qc,.slice ra rn rc,.slice none 0 0] 70))=w6 at *
 have cF:=lH (cF2.o _ _ _ _ _ _ hV6 (fun b hb=>Zc hb hs6))
 have n0:=hK6.cell 0
 have n1:=hK6.cell 1
 have n2:=hK6.cell 2
 have n3:=hK6.cell 3
 simp only [Zd,Ze] at n0 n1 n2 n3
 clear hB6 hK6 hV6 HV5 HB5 hs6
 go_upto_region 4 with (go_at_call 48;(with_reducible refine cF.o.mono ?_);rintro e w7 ⟨b7,y7,rfl,xa,xc,ya,yc,za,zn,zc,fa,fc,rfl,v7⟩;have HB7:=lH (Bt HB6.o b7);have HV7:=lH v7;clear b7 v7)
 clear n0 n1 n2 n3 cF HB6
 have hB8:Bel w7 (w7.alloc (.cells #[.slice xa 2 xc,.slice ya 1 yc,.slice za zn zc,.slice none 0 0] 70)):=(Br w7).alloc _
 have hK8:Blk (w7.alloc (.cells #[.slice xa 2 xc,.slice ya 1 yc,.slice za zn zc,.slice none 0 0] 70)) w7.heap.size [.slice xa 2 xc,.slice ya 1 yc,.slice za zn zc,.slice none 0 0] 70:=Blk.new' w7 _ rfl _ _
 have hV8:=(HV7.o.agree (fun b hb=>hB8.block b hb)).mono (fun b hb=>Zc hb hB8.size)
 have HB8:=lH (Bt HB7.o hB8)
 generalize (w7.alloc (.cells #[.slice xa 2 xc,.slice ya 1 yc,.slice za zn zc,.slice none 0 0] 70))=w8 at *
 have cOw:=lH (cO.o _ _ _ _ hV8)
 have n0:=hK8.cell 0
 have n1:=hK8.cell 1
 have n2:=hK8.cell 2
 have n3:=hK8.cell 3
 simp only [Zd,Ze] at n0 n1 n2 n3
 clear hB8 hK8 hV8 HV7 HB7 cO cC cF1 cF2
 have hfe:=zWj
 go_wp2_with (first
 | (go_at_call 84;(with_reducible refine cOw.o.mono ?_);rintro e w9 ⟨b9,y9,rfl,oa,oc,o2,o3,o4,rfl⟩;have HB9:=lH (Bt HB8.o b9);clear b9)
 | (go_at_call 50;(refine (cP.o _).mono ?_);rintro e w10 ⟨rfl,b10⟩;have HB10:=lH (Bt HB9.o b10);clear b10))
 go_ret
 exact ⟨rfl,HB10.o⟩
end Go.Proofs.YtklbmkaomojciaaGreat
set_option maxRecDepth 100000
set_option maxHeartbeats 1000000
namespace Go.Proofs.YtklbmkaomojciaaGreat
open Go.RowKit
theorem GoesL.fits {L:List Int} {t t':Fl} {es:List Evt} (h:GoesL t es t'):Wf t->Fits L t->(∀ e∈es,e.kind=2->e.item.h.node∈L)->Fits L t':=by
 induction h with
 | nil=>intro _ hf _;exact hf
 | cons g _ ih=>intro hw hf he;exact ih (g.wf hw) (g.fits hw hf (he _ (by simp))) (fun e hm=>he e (by simp [hm]))
theorem place_ev {B:Fl} (hw:Wf B) (hh:qDy B):∀ (f:Nat) (w:Int) (t:Fl) (e:Evt),e∈(qQ5 B f w t).2->e.kind=2->Has B e.item.h.node:=by
 intro f
 induction f with
 | zero=>intro w t e he;simp [qQ5] at he
 | succ f ih=>
   intro w t e
   have hG:∀ (l:List Int) (i:Nat) (t:Fl),(∀ x∈l,Has B x)->e∈(qKe (qQ5 B f) B w i l t).2->e.kind=2->Has B e.item.h.node:=by
    intro l
    induction l with
    | nil=>intro i t _ he;simp [qKe] at he
    | cons x l ihl=>
      intro i t hx he h2
      rw [qKe] at he
      rcases List.mem_append.1 he with he | he
      ·unfold qZy at he
       split at he
       ·split at he
        ·simp at he
        ·rw [List.mem_singleton] at he
         subst he
         simp at h2
       ·rw [List.mem_singleton] at he
        subst he
        show Has B (B.head x).node
        rw [hh x (hx x (by simp))]
        exact hx x (by simp)
      ·rcases List.mem_append.1 he with he | he
       ·exact ih _ _ _ he h2
       ·exact ihl _ _ (fun y hy=>hx y (by simp [hy])) he h2
   exact hG _ _ _ (fun x hx=>(hw.has_kid hx).1)
theorem zY3 {B:Fl}:∀ (l:List Int) (t:Fl) (e:Evt),e∈(lonesF B l t).2->e.kind=1:=by
 intro l
 induction l with
 | nil=>intro t e he;simp [lonesF] at he
 | cons n l ih=>
   intro t e he
   unfold lonesF at he
   split at he
   ·rcases List.mem_cons.1 he with he | he
    ·rw [he]
    ·exact ih _ e he
   ·exact ih _ e he
theorem drops_ev {B:Fl}:∀ (l:List Int) (t:Fl) (e:Evt),e∈(dropsF B l t).2->e.kind=1:=by
 intro l
 induction l with
 | nil=>intro t e he;simp [dropsF] at he
 | cons n l ih=>
   intro t e he
   unfold dropsF at he
   split at he
   ·rcases List.mem_cons.1 he with he | he
    ·rw [he]
    ·exact ih _ e he
   ·exact ih _ e he
theorem tells_ev {B:Fl}:∀ (l:List Int) (t:Fl) (e:Evt),e∈(tellsF B l t).2->e.kind=4:=by
 intro l
 induction l with
 | nil=>intro t e he;simp [tellsF] at he
 | cons n l ih=>
   intro t e he
   unfold tellsF at he
   split at he
   ·rcases List.mem_cons.1 he with he | he
    ·rw [he]
    ·exact ih _ e he
   ·exact ih _ e he
theorem its_nest {t:Fl} {μ:Int->Nat} {N:Nat} (F:Falls t.kids μ N):∀ (f:Nat) (n:Int) (l:List It),N<μ n+f->t.kids n=l.map (fun x=>x.h.node)->qD3 t l->itsOf t f n=l:=by
 intro f
 induction f with
 | zero=>intro n l h;have:=F.top n;omega
 | succ f ih=>
   intro n l h hk hn
   rw [itsOf,hk,List.map_map]
   conv=>rhs;rw [<- List.map_id l]
   refine List.map_congr_left (fun x hx=>?_)
   have h1:=(zKi t l).1 hn x hx
   rw [nestI_eq] at h1
   have h2:=F.down n x.h.node (by rw [hk];exact List.mem_map.2 ⟨x,hx,rfl⟩)
   show It.mk (t.head x.h.node) (itsOf t f x.h.node)=x
   rw [h1.1,ih x.h.node x.kids (by omega) h1.2.1 h1.2.2]
   cases x
   rfl
theorem evs_go {a b:List It} (hA:qX4 a) (hB:qX4 b):∃ t',GoesL (qQx a) (evsM a b) t'/\(∀ e∈evsM a b,e.kind=2->e.item.h.node∈nodesL a++nodesL b)/\Wf t'/\(∃ μ,Falls t'.kids μ ((nodesL a++nodesL b).length+1))/\t'.kids (-1)=b.map (fun x=>x.h.node)/\qD3 t' b:=by
 have wA:=qXr hA
 have wB:=qXr hB
 have hBh:=qWr hB
 have hlb:∀ n,n∈nodesL b↔Has (qQx b) n:=fun n=>(qWm hB).symm
 have fA:Fits (nodesL a++nodesL b) (qQx a):=qVv hA (fun m hm=>List.mem_append.2 (.inl hm))
 have fB:Fits (nodesL a++nodesL b) (qQx b):=qVv hB (fun m hm=>List.mem_append.2 (.inr hm))
 obtain ⟨μ,F⟩:=qWi wB fB
 have hplace:∀ e∈(qQ5 (qQx b) ((nodesL a++nodesL b).length+2) (-1) (lonesF (qQx b) (nodesL a) (qQx a)).1).2,e.kind=2->e.item.h.node∈nodesL a++nodesL b:=fun e he h2=>fB _ (place_ev wB hBh _ _ _ e he h2)
 have g1:=zVe (B:=qQx b) wA (nodesL a)
 have w1:=g1.wf wA
 have f1:=g1.fits wA fA (fun e he h2=>by rw [zY3 _ _ e he] at h2;cases h2)
 have hft:∀ t,t=(qQ5 (qQx b) ((nodesL a++nodesL b).length+2) (-1) (lonesF (qQx b) (nodesL a) (qQx a)).1).1->∃ μ' N',Falls t.kids μ' N'/\N'<(nodesL a++nodesL b).length+2:=fun t ht=>by
  have I0:Inv (qQx b) (lonesF (qQx b) (nodesL a) (qQx a)).1 (fun _=>0):=⟨w1,fun _=>Nat.zero_le _,fun _=>by simp,fun _ h=>by simp at h⟩
  obtain ⟨g2,I2⟩:=zQ9 wB hBh F ((nodesL a++nodesL b).length+2) (-1) _ _ I0 (.inl rfl) (by omega) (fun _ _=>rfl)
  obtain ⟨μ',F'⟩:=qWi I2.wf (g2.fits w1 f1 hplace)
  rw [ht]
  exact ⟨μ',_,F',by omega⟩
 obtain ⟨h1,h2,h3,h4,h5⟩:=of_ok wA wB hBh (la:=nodesL a) hlb F (f:=(nodesL a++nodesL b).length+2) (by omega) hft
 have hev:∀ e∈evsM a b,e.kind=2->e.item.h.node∈nodesL a++nodesL b:=fun e he hk=>by
  unfold evsM ofF at he
  simp only [List.mem_append] at he
  rcases he with he | he | he | he
  ·rw [zY3 _ _ e he] at hk;cases hk
  ·exact hplace e he hk
  ·rw [drops_ev _ _ e he] at hk;cases hk
  ·rw [tells_ev _ _ e he] at hk;cases hk
 have hN:=zG1 hB (t:=(ofF (qQx a) (qQx b) (nodesL a) (nodesL b) ((nodesL a++nodesL b).length+2)).1) (fun w hw=>h3 w (hw.imp id (fun h=>(hlb w).1 h))) (fun n hn=>h4 n ((hlb n).1 hn))
 exact ⟨_,h1,hev,h2,qWi h2 (h1.fits wA fA hev),hN.1,hN.2⟩
theorem its_one {B:Nat->Prop} {f:Nat} {w:World} {kv:Value} {h:Hd} {kids:List It} (hk:ItsK B f w kv kids) (g:Nat) (hB:B g) {e:TypeId} (hb:Blk w g (qQi h kv) e):ItsK B (f+1) w (.slice (some ⟨g,0,none⟩) 1 1) [.mk h kids]:=by
 refine .inr ⟨g,0,1,rfl,by simp,by omega,fun i hi=>⟨hB,qQi h kv,rfl,?_,?_⟩⟩
 ·obtain rfl:i=0:=by simpa using hi
  intro j u hu
  have:=hb.cell j
  rw [hu] at this
  simpa using this
 ·obtain rfl:i=0:=by simpa using hi
  exact ⟨kv,rfl,hk⟩
theorem zXi {n k bx g:Nat} {bv v:Value} {h:Hd} {ks:List It} {w:World} (hbx:Blk w bx [bv] 52) (hE:Blk w g ([.int .i64 5,.int .i64 0,.int .i64 0,.int .i64 0]++qQi h v) 126) (hk:ItsK (·<n) k w v ks) (hn:n<=w.heap.size) (hl:(nodesL [It.mk h ks]).length<=1000000000) :
 Calls Tryz.prog 93 #[.pointer (some ⟨bx,0,none⟩),.pointer (some ⟨g,0,none⟩)] w fun r w'=>r=.returned (.int .i64 0)/\∃ ya yc,w.grownBy w' (some bx)/\Blk w' bx [.slice ya 1 yc] 52/\ItsK (fun b=>w.heap.size<=b/\b<w'.heap.size) (k+1) w' (.slice ya 1 yc) [.mk h ks]:=by
 obtain ⟨va,vc,rfl,_,_⟩:=Rf hk
 obtain ⟨hn',hr,hm,ha,hll,hc,ho⟩:=h
 have hB1:Bel w (w.alloc (.cells #[.int .i64 hn',.int .i64 hr,.string ⟨hm.toArray⟩,.string ⟨ha.toArray⟩,.int .i64 hll,.int .i64 hc,.bool ho,.slice va ks.length vc] 111)):=(Br w).alloc _
 have hK1:Blk (w.alloc (.cells #[.int .i64 hn',.int .i64 hr,.string ⟨hm.toArray⟩,.string ⟨ha.toArray⟩,.int .i64 hll,.int .i64 hc,.bool ho,.slice va ks.length vc] 111)) w.heap.size (qQi ⟨hn',hr,hm,ha,hll,hc,ho⟩ (.slice va ks.length vc)) 111:=Blk.new' w _ rfl _ _
 have cO:=lH (qJy (k+1) (w.heap.size+1) (.slice (some ⟨w.heap.size,0,none⟩) 1 1) [.mk ⟨hn',hr,hm,ha,hll,hc,ho⟩ ks] _ (its_one ((hk.later hB1 hn).mono (fun b hb=>by have hb:b<n:=hb;omega)) w.heap.size (by omega) hK1) (by simp) hl)
 have HB1:=lH hB1
 have HX:=lH (hbx.bel hB1)
 have c0:=hE.cell 0
 have c4:=hE.cell 4
 have c5:=hE.cell 5
 have c6:=hE.cell 6
 have c7:=hE.cell 7
 have c8:=hE.cell 8
 have c9:=hE.cell 9
 have c10:=hE.cell 10
 have c11:=hE.cell 11
 simp only [qQi,List.cons_append,List.nil_append,Zd,Ze] at c0 c4 c5 c6 c7 c8 c9 c10 c11
 clear hB1 hK1 hbx hE hk hl
 go_enter Tryz.func93,Tryz.ntmps93
 go_wp2_with (go_at_call 32;(with_reducible refine cO.o.mono ?_);rintro e w2 ⟨b2,y,rfl,S,o2⟩;obtain ⟨ya,yc,rfl,_,_⟩:=Rf o2.its;have HB2:=lH (Bt HB1.o b2);have HB12:=lH b2;have HO2:=lH (o2.its.mono (fun b hb=>o2.lt b hb));have hx2:=HX.o.bel b2;have x0:=hx2.cell 0;have xf:=hx2.frozen 0;simp only [Zd] at x0;have HX2:=lH hx2;clear b2 o2 hx2)
 go_ret
 have hlt:=HX.o.lt
 have hs12:=HB12.o.size
 refine ⟨rfl,ya,yc,⟨HB2.o.os,HB2.o.tape,HB2.o.output,by rw [World.size_setCell];exact HB2.o.size,fun b hb hne=>(Below.heap_setCell w2 _ _ b (fun e=>hne (by rw [e]))).trans (HB2.o.block b hb)⟩,HX2.o.set 0 _,(HO2.o.agree (fun b hb=>Below.heap_setCell w2 _ _ b (fun e=>by have e':b=bx:=e;omega))).mono (fun b hb=>⟨by have:=HB1.o.size;omega,by rw [World.size_setCell];exact hb.2⟩)⟩
theorem zZr {n k0 k g:Nat} {l:List It} {v kv:Value} {h:Hd} {ks:List It} {w:World} (hv:ItsK (·<n) k0 w v l) (hn:n<=w.heap.size) (hal:(nodesL l).length<=1000000000) (hE:Blk w g ([.int .i64 5,.int .i64 0,.int .i64 0,.int .i64 0]++qQi h kv) 126) (hk:ItsK (·<n) k w kv ks) (hl:(nodesL [It.mk h ks]).length<=1000000000) :
 Calls Tryz.prog 52 #[v,.slice (some ⟨g,0,none⟩) 1 1] w (Rn w fun w' y=>∃ ya yc,y=.tuple #[.slice ya 1 yc,.agg #[.int .i64 0,.int .i64 0]]/\ItsK (fun b=>w.heap.size<=b/\b<w'.heap.size) (k+1) w' (.slice ya 1 yc) [.mk h ks]):=by
 obtain ⟨w1,hw1⟩:∃ w1,w1=w.alloc (.cells #[.int .i64 0,.int .i64 0] 84):=⟨_,rfl⟩
 have hB1:Bel w w1:=by rw [hw1];exact (Br w).alloc _
 have HF1:Hi (Blk w1 w.heap.size [.int .i64 0,.int .i64 0] 84):=lH (by rw [hw1];exact Blk.new' w _ rfl #[.int .i64 0,.int .i64 0] 84)
 have HB1:=lH hB1
 have cO:Hi (Calls Tryz.prog 32 #[v] w1 fun e w2=>∃ a1 n1 c1,e=.returned (.slice a1 n1 c1)/\Bel w1 w2):=lH (by
  refine (qJy k0 n v l w1 (hv.agree (fun b hb=>hB1.block b (Zc hb hn))) (Za hn hB1.size) hal).mono ?_
  rintro e w2 ⟨b2,y,rfl,B,hO⟩
  obtain ⟨ya,yc,rfl,_,_⟩:=Rf hO.its
  exact ⟨_,_,_,rfl,b2⟩)
 have HE1:=lH (hE.bel hB1)
 have HK1:=lH (hk.later hB1 hn)
 have hn1:n<=w1.heap.size:=Za hn hB1.size
 clear hv hB1 hE hk
 go_enter Tryz.func52,Tryz.ntmps52
 go_upto_region 1 with fail
 rw [<- hw1]
 clear hw1
 go_upto_region 2 with (go_at_call 32;(with_reducible refine cO.o.mono ?_);rintro e w2 ⟨ya,yn,yc,rfl,b2⟩;have HB2:=lH b2;clear b2)
 have hB3:Bel w2 (w2.alloc (.cells #[.slice ya yn yc] 52)):=(Br w2).alloc _
 have hK3:Blk (w2.alloc (.cells #[.slice ya yn yc] 52)) w2.heap.size [.slice ya yn yc] 52:=Blk.new' w2 _ rfl _ _
 have h13:=Bt HB2.o hB3
 have HB13:=lH h13
 have HF3:=lH (HF1.o.bel h13)
 have cOne:=lH (zXi hK3 (HE1.o.bel h13) (HK1.o.later h13 hn1) (Za hn1 h13.size) hl)
 have hlt2:w1.heap.size<=w2.heap.size:=HB2.o.size
 clear hB3 hK3 h13 cO
 generalize hw3:(w2.alloc (.cells #[.slice ya yn yc] 52))=w3 at *
 clear hw3
 generalize hbx:w2.heap.size=bx at *
 clear hbx
 go_wp2
 go_loopw [13] (fun z wr=>(z=.int .i64 0/\wr=w3)∨(z=.int .i64 1/\∃ ya yc,w3.grownBy wr (some bx)/\Blk wr bx [.slice ya 1 yc] 52/\ItsK (fun b=>w3.heap.size<=b/\b<wr.heap.size) (k+1) wr (.slice ya 1 yc) [.mk h ks])) (fun z _=>1 - (intOf z).toNat)
 case atStart=>exact .inl ⟨rfl,rfl⟩
 case round=>
  rcases hrel with ⟨rfl,rfl⟩ | ⟨rfl,za,zc,q1,q2,q3⟩
  ·go_wp2_with (go_at_call 93;(with_reducible refine cOne.o.mono ?_);rintro r w6 ⟨rfl,za,zc,g1,g2,g3⟩;have G1:=lH g1;have G2:=lH g2;have G3:=lH g3;clear g1 g2 g3)
   go_roundw
   case rel=>exact .inr ⟨rfl,za,zc,G1.o,G2.o,G3.o⟩
   case measure=>decide
  ·have hlt:=HF1.o.lt
   have hF:=HF3.o.of (q1.block w.heap.size HF3.o.lt (fun e=>by cases e;omega))
   have f0:=hF.cell 0
   have f1:=hF.cell 1
   have g0:=hF.frozen 0
   have g1:=hF.frozen 1
   have x0:=q2.cell 0
   simp only [Zd,Ze] at f0 f1 x0
   have HF:=lH hF
   have Q1:=lH q1
   have Q3:=lH q3
   clear hF q1 q2 q3
   have hF9:Blk ((wr.setCell ⟨w.heap.size,0,none⟩ (.int .i64 0)).setCell ⟨w.heap.size,1,none⟩ (.int .i64 0)) w.heap.size [.int .i64 0,.int .i64 0] 84:=(HF.o.set 0 (.int .i64 0)).set 1 (.int .i64 0)
   have hB9:Bel w ((wr.setCell ⟨w.heap.size,0,none⟩ (.int .i64 0)).setCell ⟨w.heap.size,1,none⟩ (.int .i64 0)):=by
    have h0:=Bt HB1.o HB13.o
    have h1:Bel w wr:=⟨Q1.o.os.trans h0.os,Q1.o.tape.trans h0.tape,Q1.o.output.trans h0.output,Za h0.size Q1.o.size,fun b hb=>(Q1.o.block b (Zc hb h0.size) (fun e=>by cases e;omega)).trans (h0.block b hb)⟩
    exact (h1.setCell _ _ _ (Zb _)).setCell _ _ _ (Zb _)
   have hT9:ItsK (fun b=>w.heap.size<=b/\b<((wr.setCell ⟨w.heap.size,0,none⟩ (.int .i64 0)).setCell ⟨w.heap.size,1,none⟩ (.int .i64 0)).heap.size) (k+1) ((wr.setCell ⟨w.heap.size,0,none⟩ (.int .i64 0)).setCell ⟨w.heap.size,1,none⟩ (.int .i64 0)) (.slice za 1 zc) [.mk h ks]:=by
    have s3:=(Bt HB1.o HB13.o).size
    have s4:=HB13.o.size
    refine (Q3.o.agree (fun b hb=>?_)).mono (fun b hb=>⟨by omega,by simpa using hb.2⟩)
    rw [Below.heap_setCell _ _ _ _ (by show b≠w.heap.size;omega),Below.heap_setCell _ _ _ _ (by show b≠w.heap.size;omega)]
   have HB9:=lH hB9
   have HF9:=lH hF9
   have HT9:=lH hT9
   clear hB9 hF9 hT9
   go_wp2
   generalize (wr.setCell ⟨w.heap.size,0,none⟩ (.int .i64 0)).setCell ⟨w.heap.size,1,none⟩ (.int .i64 0)=w9 at *
   have c0:=HF9.o.cell 0
   have c1:=HF9.o.cell 1
   simp only [Zd,Ze] at c0 c1
   refine bodyPost_ret (v:=.tuple #[.slice za 1 zc,.agg #[.int .i64 0,.int .i64 0]]) (by simp [results,Tryz.results52,go_sem,c0,c1]) rfl ⟨HB9.o,_,rfl,za,zc,rfl,HT9.o⟩
theorem zKj {n k0 k base:Nat} {a b:List It} {v ev:Value} {w:World} (hv:ItsK (·<n) k0 w v a) (hn:n<=w.heap.size) (hA:qX4 a) (hB:qX4 b) (hL:(nodesL a++nodesL b).length<=1000000000) (hev:OfAt base k w ev a b) :
 Calls Tryz.prog 52 #[v,ev] w (Rn w fun w' y=>∃ ya yn yc,y=.tuple #[.slice ya yn yc,.agg #[.int .i64 0,.int .i64 0]]/\ItsK (fun x=>w.heap.size<=x/\x<w'.heap.size) (max (k+1) ((nodesL a++nodesL b).length+2)) w' (.slice ya yn yc) b):=by
 have hLs:=hL
 rw [Zj] at hLs
 have hv':=hv.raise hn
 unfold OfAt at hev
 split at hev
 ·obtain ⟨h,ks,g,kv,rfl,rfl,q1,q2,q3⟩:=hev
  refine (zZr hv' (Zb _) (by omega) q2 (q3.mono (fun x hx=>hx.2)) (by omega)).mono ?_
  rintro e w' ⟨hb,y,rfl,ya,yc,rfl,q⟩
  exact ⟨hb,_,rfl,ya,1,yc,rfl,q.le (Nat.le_max_left _ _)⟩
 ·obtain ⟨t',g1,g2,g3,⟨μ,F⟩,g5,g6⟩:=evs_go hA hB
  refine (qFm hv' (Zb _) hA hev.read g1 (L:=nodesL a++nodesL b) hL (fun m hm=>List.mem_append.2 (.inl hm)) g2).mono ?_
  rintro e w' ⟨S,lab,rfl,hb,hT⟩
  refine ⟨hb,_,rfl,(S (-1)).a,(S (-1)).n,(S (-1)).c,rfl,?_⟩
  have h:=zGi hT.rd g3 F ((nodesL a++nodesL b).length+2) (-1) (.inl rfl) (by omega)
  rw [its_nest F _ _ b (by omega) g5 g6] at h
  exact (h.mono (fun x hx=>⟨by omega,hx.2⟩)).le (Nat.le_max_right _ _)
theorem OfAt.le {base k k':Nat} (hk:k<=k') {w:World} {y:Value} {a b:List It} (h:OfAt base k w y a b):OfAt base k' w y a b:=by
 unfold OfAt at h ⊢
 split
 ·rename_i hA
  rw [if_pos hA] at h
  obtain ⟨hd,ks,g,v,h1,h2,h3,h4,h5⟩:=h
  exact ⟨hd,ks,g,v,h1,h2,h3,h4,h5.le hk⟩
 ·rename_i hA
  rw [if_neg hA] at h
  exact h
end Go.Proofs.YtklbmkaomojciaaGreat

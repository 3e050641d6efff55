/- tnlaw11.play: changes, with a flush where a number says so: walked. -/
import Derived.Test.YtklbmkaomojciaaGreatEngChange
set_option maxRecDepth 100000
set_option maxHeartbeats 4000000
namespace Go.Proofs.YtklbmkaomojciaaGreat
open Go.RowKit
theorem qHk {P:Program} {fn:Func} {p q:Tmp} {ty:TypeId} (h:fn.results = #[.cell p ty,.tmp q]) (tmps:Array Value) (w:World) (g:Nat) (t:TypeId) (cs:Array Value) (fr:Nat×Nat) (d:TypeDesc)
 (hp:tmps.getD p undef=.pointer (some ⟨g,0,none⟩)) (hg:w.heap[g]?=some (.cells cs t fr))
 (hu:P.underlying ty=some d) (hd:(match d with | .struct _ | .array _ _=>true | _=>false)=true) (hi:(P.info? ty).map (·.size)=some cs.size) :
 (results fn tmps).run P w=.ok (.tuple #[.agg cs,tmps.getD q undef]) w:=by
 have hp':tmps[p]?.getD undef=.pointer (some ⟨g,0,none⟩):=by simpa using hp
 simp [results,h,hp',asAddr,run_loadVar_row w g t ty cs fr d hg hu hd hi]
structure EngV (B:Nat->Prop) (w:World) (dv tv mv iv:Value) (E:Eng):Prop where
 doc:qKb B w dv E.doc
 told:ItsK B 100 w tv E.told
 memos:qJ2 B w mv E.memos
 dirty:qQa 1 qQf B w iv E.dirty
theorem EngV.agree {B:Nat->Prop} {w w':World} {dv tv mv iv:Value} {E:Eng} (h:EngV B w dv tv mv iv E) (ha:∀ b,B b->w'.heap[b]?=w.heap[b]?):EngV B w' dv tv mv iv E:=
 ⟨h.doc.agree ha,h.told.agree ha,h.memos.agree ha,qQa.agree h.dirty ha (fun _ _ _ h=>h)⟩
theorem EngV.mono {B B':Nat->Prop} {w:World} {dv tv mv iv:Value} {E:Eng} (h:EngV B w dv tv mv iv E) (hb:∀ b,B b->B' b):EngV B' w dv tv mv iv E:=
 ⟨h.doc.mono hb,h.told.mono hb,h.memos.mono hb,h.dirty.mono hb (fun _ _ _ h=>h)⟩
def chgR (E:Eng) (x:Chg):Eng:=if (qQy E.doc x).1=0 then chgE E x else ⟨[],[],[],[]⟩
theorem qD4 {B:Nat->Prop} {w:World} {dv tv mv iv:Value} {E:Eng} (h:EngV B w dv tv mv iv E) (hB:∀ b,B b->b<w.heap.size) (ok:EngOk E) (x:Chg) (hn:x.name.length<=9223372036854775807) (hv:x.value.length<=9223372036854775807) :
 Calls Tryz.prog 49 #[.agg #[dv,tv,mv,iv],chgV x] w (Rn w fun w' y=>∃ da dn dc ta tn tc ma mn mc ia im ic,y=.tuple #[.agg #[.slice da dn dc,.slice ta tn tc,.slice ma mn mc,.slice ia im ic],.int .i64 (if (qQy E.doc x).1=0 then (qQy E.doc x).2.1 else 0),.int .i64 (qQy E.doc x).1] /\
  EngV (fun b=>w.heap.size<=b/\b<w'.heap.size) w' (.slice da dn dc) (.slice ta tn tc) (.slice ma mn mc) (.slice ia im ic) (chgR E x)):=by
 have hA:=ok.alike
 have h60:=zY8 ok.once ok.range
 have h0:=h.mono hB
 refine (qBl x h0.doc h0.told h0.memos h0.dirty (Zb _) ok.good hn hv (qDc ok.good) (by have:=hA.2;omega) (by have:=ok.few;omega) (fun y hy=>by have:=ok.uses y hy;omega) (by omega)).mono ?_
 rintro e w' ⟨hb,y,rfl,dv',tv',mv',iv',rfl,q1,q2,q3,q4⟩
 obtain ⟨da,dc,rfl,_,_⟩:=Rf q1
 obtain ⟨ta,tc,rfl,_,_⟩:=Rf q2
 obtain ⟨ma,mc,rfl,_,_⟩:=Rf q3
 obtain ⟨ia,ic,rfl,_,_⟩:=Rf q4
 have e1:(qKl E.doc E.told E.memos E.dirty x).2.1=if (qQy E.doc x).1=0 then (qQy E.doc x).2.1 else 0:=by
  unfold qKl
  split <;> rfl
 have e2:(qKl E.doc E.told E.memos E.dirty x).1=(qQy E.doc x).1:=by
  unfold qKl
  split
  ·rename_i he
   rw [he]
  ·rfl
 rw [e1,e2]
 refine ⟨hb,_,rfl,da,_,dc,ta,_,tc,ma,_,mc,ia,_,ic,rfl,?_⟩
 by_cases he:(qQy E.doc x).1=0
 ·unfold chgR chgE
  unfold qKl at *
  simp only [if_pos he] at *
  exact ⟨q1,q2,q3,q4⟩
 ·unfold chgR
  unfold qKl at *
  simp only [if_neg he] at *
  exact ⟨q1,q2,q3,q4⟩
theorem qWj {B:Nat->Prop} {w:World} {dv tv mv iv:Value} {E:Eng} (h:EngV B w dv tv mv iv E) (hB:∀ b,B b->b<w.heap.size) (ok:EngOk E) :
 Calls Tryz.prog 48 #[.agg #[dv,tv,mv,iv]] w (Rn w fun w' y=>∃ da dn dc ta tn tc ma mn mc ea en ec,y=.tuple #[.agg #[.slice da dn dc,.slice ta tn tc,.slice ma mn mc,.slice none 0 0],.slice ea en ec,.int .i64 (qJm E.memos E.dirty (qXl E.doc))] /\
  EngV (fun b=>(B b∨w.heap.size<=b)/\b<w'.heap.size) w' (.slice da dn dc) (.slice ta tn tc) (.slice ma mn mc) (.slice none 0 0) (flushE E)/\OfAt w.heap.size 100 w' (.slice ea en ec) E.told (qKt E.doc)):=by
 have h0:=h.mono hB
 refine (qHn h0.doc h0.told h.memos hB h0.dirty (Zb _) ok).mono ?_
 rintro e w' ⟨hb,y,rfl,dv',tv',mv',ev,rfl,q1,q2,q3,q4⟩
 obtain ⟨da,dc,rfl,_,_⟩:=Rf q1
 obtain ⟨ta,tc,rfl,_,_⟩:=Rf q2
 obtain ⟨ma,mc,rfl,_,_⟩:=Rf q3
 obtain ⟨ea,en,ec,rfl⟩:=q4.form
 exact ⟨hb,_,rfl,da,_,dc,ta,_,tc,ma,_,mc,ea,en,ec,rfl,⟨q1.mono (fun b hb=>⟨.inr hb.1,hb.2⟩),q2.mono (fun b hb=>⟨.inr hb.1,hb.2⟩),q3,qQa.nil⟩,q4⟩
def EngC (lo g:Nat) (W:World) (E:Eng):Prop:=∃ da dn dc ta tn tc ma mn mc ia im ic,Blk W g [.slice da dn dc,.slice ta tn tc,.slice ma mn mc,.slice ia im ic] 70/\EngV (fun b=>lo<=b/\b<W.heap.size/\b≠g) W (.slice da dn dc) (.slice ta tn tc) (.slice ma mn mc) (.slice ia im ic) E
theorem EngC.bel {lo g:Nat} {W W':World} {E:Eng} (h:EngC lo g W E) (hb:Bel W W'):EngC lo g W' E:=by
 obtain ⟨da,dn,dc,ta,tn,tc,ma,mn,mc,ia,im,ic,h1,h2⟩:=h
 exact ⟨da,dn,dc,ta,tn,tc,ma,mn,mc,ia,im,ic,h1.bel hb,(h2.agree (fun b hq=>hb.block b hq.2.1)).mono (fun b hq=>⟨hq.1,Zc hq.2.1 hb.size,hq.2.2⟩)⟩
theorem qQa.bool_cell {B:Nat->Prop} {w:World} {a:Option Addr} {c:Nat} {l:List Bool} (h:qQa 1 zVl B w (.slice a l.length c) l) (j:Nat) (hj:j<l.length):∃ b off,a=some ⟨b,off,none⟩/\B b/\w.cell? ⟨b,off+j,none⟩=some (.bool l[j]):=by
 obtain ⟨b,off,cap,cs,h1,h2,h3,h4,h5⟩:=qQa.elem h j hj
 simp at h1
 have h6:=h4 0 (.bool l[j]) (by rw [show cs=[.bool l[j]] from h5];rfl)
 exact ⟨b,off,h1.1,h2,by simpa using h6⟩
theorem zQl {m n:Nat} {v fv:Value} {l:List Chg} {fl:List Bool} {w:World} (hv:zQq m w v l) (hf:zX5 n w fv fl) (hm:m<=w.heap.size) (hn:n<=w.heap.size) (hl:∀ x∈l,x.name.length<=9223372036854775807/\x.value.length<=9223372036854775807) :
 Calls Tryz.prog 46 #[v,fv] w (Rn w fun w' y=>∃ da dn dc ta tn tc ma mn mc,y=.tuple #[.agg #[.slice da dn dc,.slice ta tn tc,.slice ma mn mc,.slice none 0 0],.int .i64 (qJm (qX2 l fl).memos (qX2 l fl).dirty (qXl (qX2 l fl).doc))] /\
  EngV (fun b=>w.heap.size<=b/\b<w'.heap.size) w' (.slice da dn dc) (.slice ta tn tc) (.slice ma mn mc) (.slice none 0 0) (flushE (qX2 l fl))):=by
 obtain ⟨va,vc,rfl,v1,v2⟩:=Rf hv
 obtain ⟨fa,fc,rfl,f1,f2⟩:=Rf hf
 have HV:=lH hv
 have HF:=lH hf
 have HL:=lH hl
 clear hv hf hl
 have hB1:Bel w (w.alloc (.cells #[.slice none 0 0,.slice none 0 0,.slice none 0 0,.slice none 0 0] 70)):=(Br w).alloc _
 have hK1:Blk (w.alloc (.cells #[.slice none 0 0,.slice none 0 0,.slice none 0 0,.slice none 0 0] 70)) w.heap.size [.slice none 0 0,.slice none 0 0,.slice none 0 0,.slice none 0 0] 70:=Blk.new' w _ rfl _ _
 have HB1:=lH hB1
 have HK1:=lH hK1
 clear hB1 hK1
 go_enter Tryz.func46,Tryz.ntmps46
 go_upto_region 1 with fail
 generalize (w.alloc (.cells #[.slice none 0 0,.slice none 0 0,.slice none 0 0,.slice none 0 0] 70))=w1 at *
 go_upto_region 2 with (go_at_call 51;(with_reducible refine (qWc _).mono ?_);rintro e w2 ⟨b2,u1,rfl,dv,rfl,o2⟩;obtain ⟨na,nc,rfl,_,_⟩:=Rf o2;have HD2:=lH o2;have HB2:=lH b2;clear b2 o2)
 have hB3:Bel w2 (w2.alloc (.cells #[.slice na rootD.length nc,.slice none 0 0,.slice none 0 0,.slice none 0 0] 70)):=(Br w2).alloc _
 have hK3:Blk (w2.alloc (.cells #[.slice na rootD.length nc,.slice none 0 0,.slice none 0 0,.slice none 0 0] 70)) w2.heap.size [.slice na rootD.length nc,.slice none 0 0,.slice none 0 0,.slice none 0 0] 70:=Blk.new' w2 _ rfl _ _
 have hs3:(w2.alloc (.cells #[.slice na rootD.length nc,.slice none 0 0,.slice none 0 0,.slice none 0 0] 70)).heap.size=w2.heap.size+1:=by simp
 have hC3:EngC w1.heap.size w2.heap.size (w2.alloc (.cells #[.slice na rootD.length nc,.slice none 0 0,.slice none 0 0,.slice none 0 0] 70)) ⟨rootD,[],[],[]⟩:=⟨na,_,nc,none,0,0,none,0,0,none,0,0,hK3,⟨(HD2.o.agree (fun b hb=>hB3.block b hb.2)).mono (fun b hb=>⟨hb.1,by omega,by omega⟩),qQa.nil,qQa.nil,qQa.nil⟩⟩
 have HC3:=lH hC3
 have HB3:=lH (Bt HB2.o hB3)
 clear hB3 hK3 hs3 hC3
 generalize hg6:w2.heap.size=g6 at *
 have HG6:Hi (w1.heap.size<=g6):=lH (by rw [<- hg6];exact HB2.o.size)
 clear hg6 HD2
 generalize (w2.alloc (.cells #[.slice na rootD.length nc,.slice none 0 0,.slice none 0 0,.slice none 0 0] 70))=w3 at *
 go_upto_region 3 with fail
 go_loopw [17] (fun z wr=>∃ (j:Nat) (E:Eng),j<=l.length/\z=.int .i64 j/\EngC w1.heap.size g6 wr E/\EngOk E/\zBg fl (l.drop j) j E=qX2 l fl/\Bel w1 wr) (fun z _=>l.length - (intOf z).toNat)
 case atStart=>exact ⟨0,_,by omega,rfl,HC3.o,qV5,rfl,HB3.o⟩
 case round=>
  obtain ⟨j,E,hj,rfl,hC,hOk,hP,hB⟩:=hrel
  have HOK:=lH hOk
  have HP:=lH hP
  have HB:=lH hB
  have HC:=lH hC
  clear hOk hP hB hC
  by_cases hlt:j<l.length
  ·have hR:=qQa.later HV.o qDa (Bt HB1.o HB.o) hm
   obtain ⟨_,_,_,_,e1,_,_,_,_⟩:=qQa.elem hR j hlt
   simp at e1
   obtain ⟨rfl,rfl⟩:=e1
   obtain ⟨c0,c1,c2,c3,c4,c5⟩:=zHc hR j hlt
   have HPD:=lH ((zBc fl hlt E).symm.trans HP.o)
   obtain ⟨hn1,hn2⟩:=HL.o _ (Zl hlt)
   clear hR
   generalize l[j]=x at *
   have hBx:Bel wr (wr.alloc (.cells #[.int .i64 x.kind,.int .i64 x.node,.int .i64 x.dest,.int .i64 x.before,.string ⟨x.name.toArray⟩,.string ⟨x.value.toArray⟩] 40)):=(Br wr).alloc _
   have hKx:Blk (wr.alloc (.cells #[.int .i64 x.kind,.int .i64 x.node,.int .i64 x.dest,.int .i64 x.before,.string ⟨x.name.toArray⟩,.string ⟨x.value.toArray⟩] 40)) wr.heap.size [.int .i64 x.kind,.int .i64 x.node,.int .i64 x.dest,.int .i64 x.before,.string ⟨x.name.toArray⟩,.string ⟨x.value.toArray⟩] 40:=Blk.new' wr _ rfl _ _
   have HBX:=lH hBx
   have HKX:=lH hKx
   clear hBx hKx
   go_upto_region 5 with fail
   clear c0 c1 c2 c3 c4 c5
   generalize (wr.alloc (.cells #[.int .i64 x.kind,.int .i64 x.node,.int .i64 x.dest,.int .i64 x.before,.string ⟨x.name.toArray⟩,.string ⟨x.value.toArray⟩] 40))=w4 at *
   obtain ⟨da,dn,dc,ta,tn,tc,ma,mn,mc,ia,im,ic,hK4,hV4⟩:=HC.o.bel HBX.o
   have c0:=HKX.o.cell 0
   have c1:=HKX.o.cell 1
   have c2:=HKX.o.cell 2
   have c3:=HKX.o.cell 3
   have c4:=HKX.o.cell 4
   have c5:=HKX.o.cell 5
   have n0:=hK4.cell 0
   have n1:=hK4.cell 1
   have n2:=hK4.cell 2
   have n3:=hK4.cell 3
   simp only [Zd,Ze] at c0 c1 c2 c3 c4 c5 n0 n1 n2 n3
   have cA:=lH (qD4 hV4 (fun b hb=>hb.2.1) HOK.o x hn1 hn2)
   have hOK5:=qK8 HOK.o x
   have hEc:(qQy E.doc x).1≠0->chgE E x=E:=fun h=>by unfold chgE;rw [if_neg h]
   have hEr:(qQy E.doc x).1=0->chgR E x=chgE E x:=fun h=>by unfold chgR;rw [if_pos h]
   have HK4:=lH hK4
   have HV4:=lH hV4
   have HB4:=lH (Bt HB.o HBX.o)
   have HEC:=lH hEc
   have HER:=lH hEr
   have HOK5:=lH hOK5
   clear hK4 hV4 hEc hEr hOK5
   unfold chgV at cA
   generalize (if (qQy E.doc x).1=0 then (qQy E.doc x).2.1 else 0)=N0 at *
   generalize (qQy E.doc x).1=e0 at *
   have hg4:g6<w4.heap.size:=HK4.o.lt
   have HG4:=lH hg4
   clear hg4
   by_cases he:e0=0
   case' pos=>
    go_upto_region 7 with (go_at_call 49;(with_reducible refine cA.o.mono ?_);rintro e w5 ⟨b5,y5,rfl,pa,pn,pc,qa,qn,qc,ra,rn,rc,sa,sn,sc,rfl,v5⟩;have HB5:=lH b5;have HV5:=lH v5;clear b5 v5)
    clear c0 c1 c2 c3 c4 c5 n0 n1 n2 n3
    have hB6:Bel w5 (w5.alloc (.cells #[.slice pa pn pc,.slice qa qn qc,.slice ra rn rc,.slice sa sn sc] 70)):=(Br w5).alloc _
    have hK6:Blk (w5.alloc (.cells #[.slice pa pn pc,.slice qa qn qc,.slice ra rn rc,.slice sa sn sc] 70)) w5.heap.size [.slice pa pn pc,.slice qa qn qc,.slice ra rn rc,.slice sa sn sc] 70:=Blk.new' w5 _ rfl _ _
    have HB6:=lH hB6
    have HK6:=lH hK6
    clear hB6 hK6
    generalize (w5.alloc (.cells #[.slice pa pn pc,.slice qa qn qc,.slice ra rn rc,.slice sa sn sc] 70))=w6 at *
    have c0:=HK6.o.cell 0
    have c1:=HK6.o.cell 1
    have c2:=HK6.o.cell 2
    have c3:=HK6.o.cell 3
    have hK46:=(HK4.o.bel HB5.o).bel HB6.o
    have n0:=hK46.cell 0
    have n1:=hK46.cell 1
    have n2:=hK46.cell 2
    have n3:=hK46.cell 3
    have f0:=hK46.frozen 0
    have f1:=hK46.frozen 1
    have f2:=hK46.frozen 2
    have f3:=hK46.frozen 3
    simp only [Zd,Ze] at c0 c1 c2 c3 n0 n1 n2 n3
    have HK46:=lH hK46
    clear hK46
    go_upto_region 8 with fail
    clear c0 c1 c2 c3 n0 n1 n2 n3 f0 f1 f2 f3
    refine qQp (E:=fun W=>EngC w1.heap.size g6 W (chgE E x)/\Bel w1 W) ?_ ?_
    ·have hFq:FrE g6 w6 ((((w6.setCell ⟨g6,0,none⟩ (.slice pa pn pc)).setCell ⟨g6,1,none⟩ (.slice qa qn qc)).setCell ⟨g6,2,none⟩ (.slice ra rn rc)).setCell ⟨g6,3,none⟩ (.slice sa sn sc)):=((((FrE.refl _ w6).set _).set _).set _).set _
     have hKq:Blk ((((w6.setCell ⟨g6,0,none⟩ (.slice pa pn pc)).setCell ⟨g6,1,none⟩ (.slice qa qn qc)).setCell ⟨g6,2,none⟩ (.slice ra rn rc)).setCell ⟨g6,3,none⟩ (.slice sa sn sc)) g6 [.slice pa pn pc,.slice qa qn qc,.slice ra rn rc,.slice sa sn sc] 70:=(((HK46.o.set 0 _).set 1 _).set 2 _).set 3 _
     generalize ((((w6.setCell ⟨g6,0,none⟩ (.slice pa pn pc)).setCell ⟨g6,1,none⟩ (.slice qa qn qc)).setCell ⟨g6,2,none⟩ (.slice ra rn rc)).setCell ⟨g6,3,none⟩ (.slice sa sn sc))=wq at *
     have G4:=HG4.o
     have S6:=HB6.o.size
     have S4:=HB4.o.size
     have Sq:=hFq.size
     have h5:=HV5.o
     rw [HER.o he] at h5
     exact ⟨⟨pa,pn,pc,qa,qn,qc,ra,rn,rc,sa,sn,sc,hKq,(h5.agree (fun b hb=>(hFq.block b (by omega) (by omega)).trans (HB6.o.block b hb.2))).mono (fun b hb=>⟨by omega,by omega,by omega⟩)⟩,hFq.bel (Bt HB4.o (Bt HB5.o HB6.o)) HG6.o⟩
    clear HV5 HK6 HK46 HB5 HB6 HV4 HK4
    rintro wq ⟨hCq,hBq⟩
   case' neg=>
    have hne:(e0==0)=false:=by simpa using he
    go_upto_region 8 with (go_at_call 49;(with_reducible refine cA.o.mono ?_);rintro e w5 ⟨b5,y5,rfl,pa,pn,pc,qa,qn,qc,ra,rn,rc,sa,sn,sc,rfl,v5⟩;have HB5:=lH b5;have HV5:=lH v5;clear b5 v5)
    clear c0 c1 c2 c3 c4 c5 n0 n1 n2 n3
    refine qQp (E:=fun W=>EngC w1.heap.size g6 W (chgE E x)/\Bel w1 W) ⟨?_,Bt HB4.o (Bt HB5.o ((Br w5).alloc _))⟩ ?_
    ·rw [HEC.o he]
     exact (HC.o.bel HBX.o).bel (Bt HB5.o ((Br w5).alloc _))
    clear HV5 HB5 HV4 HK4 hne
    rintro wq ⟨hCq,hBq⟩
   all_goals
    obtain ⟨xa,xn,xc,ya,yn,yc,za,zn,zc,ua,un,uc,hKq,hVq⟩:=hCq
    have n0:=hKq.cell 0
    have n1:=hKq.cell 1
    have n2:=hKq.cell 2
    have n3:=hKq.cell 3
    have f0:=hKq.frozen 0
    have f1:=hKq.frozen 1
    have f2:=hKq.frozen 2
    have f3:=hKq.frozen 3
    simp only [Zd,Ze] at n0 n1 n2 n3
    have HKQ:=lH hKq
    have HVQ:=lH hVq
    have HBQ:=lH hBq
    clear cA he
    by_cases hfl:j<fl.length
    ·obtain ⟨fb,fo,rfl,_,cb⟩:=(qQa.later HF.o zZb (Bt HB1.o hBq) hn).bool_cell j hfl
     have hgd:fl[j]?.getD false=fl[j]:=by rw [Zi hfl];rfl
     rw [hgd] at HPD
     clear hgd hKq hVq hBq
     generalize fl[j]=fv at *
     cases fv with
     | true=>
       have cF:=lH (qWj HVQ.o (fun b hb=>hb.2.1) HOK5.o)
       generalize (qJm (chgE E x).memos (chgE E x).dirty (qXl (chgE E x).doc))=N1 at *
       go_wp2_with (go_at_call 48;(with_reducible refine cF.o.mono ?_);rintro e w7 ⟨b7,y7,rfl,pa,pn,pc,qa,qn,qc,ra,rn,rc,ea,en,ec,rfl,v7,o7⟩;have HB7:=lH b7;have HV7:=lH v7;have hk7:=HKQ.o.bel b7;have m0:=hk7.cell 0;have m1:=hk7.cell 1;have m2:=hk7.cell 2;have m3:=hk7.cell 3;have g0:=hk7.frozen 0;have g1:=hk7.frozen 1;have g2:=hk7.frozen 2;have g3:=hk7.frozen 3;simp only [Zd,Ze] at m0 m1 m2 m3;have HK7:=lH hk7;clear b7 v7 o7 hk7)
       go_roundw
       case rel=>
        refine ⟨j+1,flushE (chgE E x),by omega,by go_num,?_,qJu HOK5.o,HPD.o,?_⟩
        ·have hFq:FrE g6 w7 ((((w7.setCell ⟨g6,0,none⟩ (.slice pa pn pc)).setCell ⟨g6,1,none⟩ (.slice qa qn qc)).setCell ⟨g6,2,none⟩ (.slice ra rn rc)).setCell ⟨g6,3,none⟩ (.slice none 0 0)):=((((FrE.refl _ w7).set _).set _).set _).set _
         have hKz:Blk ((((w7.setCell ⟨g6,0,none⟩ (.slice pa pn pc)).setCell ⟨g6,1,none⟩ (.slice qa qn qc)).setCell ⟨g6,2,none⟩ (.slice ra rn rc)).setCell ⟨g6,3,none⟩ (.slice none 0 0)) g6 [.slice pa pn pc,.slice qa qn qc,.slice ra rn rc,.slice none 0 0] 70:=(((HK7.o.set 0 _).set 1 _).set 2 _).set 3 _
         have Sq:=hFq.size
         have G4:=HKQ.o.lt
         have SQ:=HBQ.o.size
         exact ⟨pa,pn,pc,qa,qn,qc,ra,rn,rc,none,0,0,hKz,(HV7.o.agree (fun b hb=>hFq.block b hb.2 (by omega))).mono (fun b hb=>⟨by omega,by omega,by omega⟩)⟩
        ·exact FrE.bel (((((FrE.refl g6 w7).set _).set _).set _).set _) (Bt HBQ.o HB7.o) HG6.o
       case measure=>simp [intOf];omega
     | false=>
       go_wp2
       go_roundw
       case rel=>exact ⟨j+1,chgE E x,by omega,by go_num,⟨xa,xn,xc,ya,yn,yc,za,zn,zc,ua,un,uc,HKQ.o,HVQ.o⟩,HOK5.o,HPD.o,HBQ.o⟩
       case measure=>simp [intOf];omega
    ·have hgd:fl[j]?.getD false=false:=by rw [List.getElem?_eq_none (by omega)];rfl
     rw [hgd] at HPD
     clear hgd hKq hVq hBq
     go_wp2
     go_roundw
     case rel=>exact ⟨j+1,chgE E x,by omega,by go_num,⟨xa,xn,xc,ya,yn,yc,za,zn,zc,ua,un,uc,HKQ.o,HVQ.o⟩,HOK5.o,HPD.o,HBQ.o⟩
     case measure=>simp [intOf];omega
  ·have hd:l.drop j=[]:=List.drop_of_length_le (by omega)
   have hPE:E=qX2 l fl:=by
    have:=HP.o
    rw [hd] at this
    exact this
   subst hPE
   obtain ⟨da,dn,dc,ta,tn,tc,ma,mn,mc,ia,im,ic,hK4,hV4⟩:=HC.o
   have n0:=hK4.cell 0
   have n1:=hK4.cell 1
   have n2:=hK4.cell 2
   have n3:=hK4.cell 3
   simp only [Zd,Ze] at n0 n1 n2 n3
   have cF:=lH (qWj hV4 (fun b hb=>hb.2.1) HOK.o)
   have HK4:=lH hK4
   clear hK4 hV4 hd
   generalize hN1:(qJm (qX2 l fl).memos (qX2 l fl).dirty (qXl (qX2 l fl).doc))=N1 at *
   have HN1:=lH hN1
   clear hN1
   go_upto_region 12 with (go_at_call 48;(with_reducible refine cF.o.mono ?_);rintro e w7 ⟨b7,y7,rfl,pa,pn,pc,qa,qn,qc,ra,rn,rc,ea,en,ec,rfl,v7,o7⟩;have HB7:=lH b7;have HV7:=lH v7;have hk7:=HK4.o.bel b7;have m0:=hk7.cell 0;have m1:=hk7.cell 1;have m2:=hk7.cell 2;have m3:=hk7.cell 3;have g0:=hk7.frozen 0;have g1:=hk7.frozen 1;have g2:=hk7.frozen 2;have g3:=hk7.frozen 3;simp only [Zd,Ze] at m0 m1 m2 m3;have HK7:=lH hk7;clear b7 v7 o7 hk7)
   have hFq:FrE g6 w7 ((((w7.setCell ⟨g6,0,none⟩ (.slice pa pn pc)).setCell ⟨g6,1,none⟩ (.slice qa qn qc)).setCell ⟨g6,2,none⟩ (.slice ra rn rc)).setCell ⟨g6,3,none⟩ (.slice none 0 0)):=((((FrE.refl _ w7).set _).set _).set _).set _
   have hKz:Blk ((((w7.setCell ⟨g6,0,none⟩ (.slice pa pn pc)).setCell ⟨g6,1,none⟩ (.slice qa qn qc)).setCell ⟨g6,2,none⟩ (.slice ra rn rc)).setCell ⟨g6,3,none⟩ (.slice none 0 0)) g6 [.slice pa pn pc,.slice qa qn qc,.slice ra rn rc,.slice none 0 0] 70:=(((HK7.o.set 0 _).set 1 _).set 2 _).set 3 _
   have HFQ:=lH hFq
   have HKZ:=lH hKz
   clear hFq hKz m0 m1 m2 m3 g0 g1 g2 g3 n0 n1 n2 n3
   generalize ((((w7.setCell ⟨g6,0,none⟩ (.slice pa pn pc)).setCell ⟨g6,1,none⟩ (.slice qa qn qc)).setCell ⟨g6,2,none⟩ (.slice ra rn rc)).setCell ⟨g6,3,none⟩ (.slice none 0 0))=w8 at *
   have h18:Bel w1 w8:=HFQ.o.bel (Bt HB.o HB7.o) HG6.o
   have hR:=HK1.o.bel h18
   have n0:=HKZ.o.cell 0
   have n1:=HKZ.o.cell 1
   have n2:=HKZ.o.cell 2
   have n3:=HKZ.o.cell 3
   have m0:=hR.cell 0
   have m1:=hR.cell 1
   have m2:=hR.cell 2
   have m3:=hR.cell 3
   have f0:=hR.frozen 0
   have f1:=hR.frozen 1
   have f2:=hR.frozen 2
   have f3:=hR.frozen 3
   simp only [Zd,Ze] at n0 n1 n2 n3 m0 m1 m2 m3
   have hlt1:w.heap.size<w1.heap.size:=HK1.o.lt
   have hG6:=HG6.o
   have hne:w.heap.size≠g6:=by omega
   have HRZ:Hi (Blk ((((w8.setCell ⟨w.heap.size,0,none⟩ (.slice pa pn pc)).setCell ⟨w.heap.size,1,none⟩ (.slice qa qn qc)).setCell ⟨w.heap.size,2,none⟩ (.slice ra rn rc)).setCell ⟨w.heap.size,3,none⟩ (.slice none 0 0)) w.heap.size [.slice pa pn pc,.slice qa qn qc,.slice ra rn rc,.slice none 0 0] 70):=lH ((((hR.set 0 _).set 1 _).set 2 _).set 3 _)
   have HFZ:Hi (FrE w.heap.size w8 ((((w8.setCell ⟨w.heap.size,0,none⟩ (.slice pa pn pc)).setCell ⟨w.heap.size,1,none⟩ (.slice qa qn qc)).setCell ⟨w.heap.size,2,none⟩ (.slice ra rn rc)).setCell ⟨w.heap.size,3,none⟩ (.slice none 0 0))):=lH (((((FrE.refl _ w8).set _).set _).set _).set _)
   have H18:=lH h18
   clear hR h18
   go_wp2
   generalize ((((w8.setCell ⟨w.heap.size,0,none⟩ (.slice pa pn pc)).setCell ⟨w.heap.size,1,none⟩ (.slice qa qn qc)).setCell ⟨w.heap.size,2,none⟩ (.slice ra rn rc)).setCell ⟨w.heap.size,3,none⟩ (.slice none 0 0))=wz at *
   obtain ⟨dd,hd1,hd2⟩:=qYc
   have S8:=HFQ.o.size
   have S9:=HFZ.o.size
   have G4:=HK4.o.lt
   have hBz:Bel w wz:=HFZ.o.bel (Bt HB1.o H18.o) (by omega)
   have S3:=HB.o.size
   have hVz:EngV (fun b=>w.heap.size<=b/\b<wz.heap.size) wz (.slice pa pn pc) (.slice qa qn qc) (.slice ra rn rc) (.slice none 0 0) (flushE (qX2 l fl)):=
    (HV7.o.agree (fun b hb=>(HFZ.o.block b (by omega) (by omega)).trans (HFQ.o.block b hb.2 (by omega)))).mono (fun b hb=>⟨by omega,by omega⟩)
   obtain rfl:=HN1.o
   refine bodyPost_ret (qHk rfl _ _ w.heap.size _ _ _ dd rfl HRZ.o hd1 (by revert hd2;cases dd <;> intro h <;> exact h) (by kernel_rfl)) rfl ?_
   exact ⟨hBz,_,rfl,_,_,_,_,_,_,_,_,_,rfl,hVz⟩
end Go.Proofs.YtklbmkaomojciaaGreat

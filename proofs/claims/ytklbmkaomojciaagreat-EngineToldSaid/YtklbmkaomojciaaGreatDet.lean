/- diff.Apply, for events that go: walked. -/
import Derived.Test.YtklbmkaomojciaaGreatDiffOwn
import Derived.Test.YtklbmkaomojciaaGreatItemsFn
import Derived.OrdersHeld
set_option maxRecDepth 100000
set_option maxHeartbeats 1000000
namespace Go.Proofs.YtklbmkaomojciaaGreat
open Go.RowKit
def evCells (e:Evt):List Value:=[.int .i64 e.kind,.int .i64 e.node,.int .i64 e.dest,.int .i64 e.spot]++qQi e.item.h (.slice none 0 0)
def rdEv:World->List Value->Evt->Prop:=fun _ cs e=>cs=evCells e
theorem EvC.of {w:World} {b o:Nat} {e:Evt} {cs:List Value} (h:Cells w b o cs) (hr:rdEv w cs e):EvC w b o e (.slice none 0 0):=by
 unfold rdEv at hr
 subst hr
 exact ⟨by simpa using h 0 _ rfl,h 1 _ rfl,h 2 _ rfl,h 3 _ rfl,h 4 _ rfl,h 5 _ rfl,h 6 _ rfl,h 7 _ rfl,h 8 _ rfl,h 9 _ rfl,h 10 _ rfl,h 11 _ rfl⟩
theorem GoesL.head {t t':Fl} {e:Evt} {es:List Evt} (h:GoesL t (e::es) t'):∃ t1,Goes t e t1/\GoesL t1 es t':=by
 cases h with
 | cons g r=>exact ⟨_,g,r⟩
theorem Kept.bel {base:Nat} {w w':World} {box:Addr} {S S':Int->Sv} {lab:Nat->Int} {t t':Fl} (h:Kept w w' box S S' t t') (hT:qQv base w S lab t) (hb:base<=box.block) {w0:World} (h0:Bel w0 w) (hbase:w0.heap.size<=base):Bel w0 w':=
 ⟨h.os.trans h0.os,h.tape.trans h0.tape,h.output.trans h0.output,Za h0.size h.size,fun b hb'=>(h.block b (Zc hb' h0.size) (by omega) (fun n hn e=>by
  have:=(hT.lt hn e).1
  omega)).trans (h0.block b hb')⟩
structure Mids (base:Nat) (w0 wr:World) (box:Addr) (L:List Int) (es:List Evt) (t':Fl) (i:Nat):Prop where
 le:i<=es.length
 bel:Bel w0 wr
 st:∃ t1 S lab,GoesL t1 (es.drop i) t'/\Wf t1/\qDy t1/\Fits L t1/\qQv base wr S lab t1/\BoxOk wr box S t1
theorem zHq {base n:Nat} {w0 wr:World} {box:Addr} {L:List Int} {es:List Evt} {ev:Value} {t':Fl} {i:Nat} (M:Mids base w0 wr box L es t' i) (hi:i<es.length) (hb:base=w0.heap.size) (hbb:base<=box.block) (hL:L.length<=1000000000) (heL:∀ e∈es,e.kind=2->e.item.h.node∈L)
 (hev:qQa 12 rdEv (·<n) w0 ev es) (hn:n<=w0.heap.size):∃ b off cap,ev=.slice (some ⟨b,off,none⟩) es.length cap /\
 Calls Tryz.prog 93 #[.pointer (some box),.pointer (some ⟨b,off+i*12,none⟩)] wr fun r w'=>r=.returned (.int .i64 0)/\Mids base w0 w' box L es t' (i+1):=by
 obtain ⟨hle,hB,t1,S,lab,g,hw,hh,hf,hT,hbx⟩:=M
 rw [List.drop_eq_getElem_cons hi] at g
 obtain ⟨t2,g1,g2⟩:=g.head
 obtain ⟨b,off,cap,cs,e1,hbn,-,hc,hr⟩:=qQa.elem hev i hi
 have hbw:b<w0.heap.size:=Zc hbn hn
 have hE:EvC wr b (off+i*12) es[i] (.slice none 0 0):=(EvC.of hc hr).bel hB
 refine ⟨b,off,cap,e1,(qB9 hT hw hh hbx hE g1 (fun n=>Za (hf.len hw n) hL) (by rw [hb];exact hB.size) (by omega) (fun n hn e=>by
  have:=(hT.lt hn e).1
  omega)).mono ?_⟩
 rintro r w' ⟨rfl,S',lab',k1,k2,k3⟩
 exact ⟨rfl,hi,k3.bel hT hbb hB (by omega),t2,S',lab',g2,g1.wf hw,g1.heads hw hh,g1.fits hw hf (heL _ (Zl hi)),k1,k2⟩
theorem qFm {n k:Nat} {l:List It} {es:List Evt} {v ev:Value} {w:World} {t':Fl} {L:List Int} (hl:ItsK (·<n) k w v l) (hn:n<=w.heap.size) (hal:qX4 l) (hev:qQa 12 rdEv (·<n) w ev es) (hG:GoesL (qQx l) es t') (hL:L.length<=1000000000) (hlL:∀ m,m∈nodesL l->m∈L) (heL:∀ e∈es,e.kind=2->e.item.h.node∈L) :
 Calls Tryz.prog 52 #[v,ev] w fun r w'=>∃ S lab,r=.returned (.tuple #[(S (-1)).v,.agg #[.int .i64 0,.int .i64 0]])/\Bel w w'/\qQv (w.heap.size+1) w' S lab t':=by
 have hnl:(nodesL l).length<=1000000000:=Za (qBs _ _ hal.1 hlL) hL
 obtain ⟨w1,hw1⟩:∃ w1,w1=w.alloc (.cells #[.int .i64 0,.int .i64 0] 84):=⟨_,rfl⟩
 have hB1:Bel w w1:=by rw [hw1];exact (Br w).alloc _
 have hs1:w1.heap.size=w.heap.size+1:=by rw [hw1];simp
 have HF1:Hi (Blk w1 w.heap.size [.int .i64 0,.int .i64 0] 84):=lH (by rw [hw1];exact Blk.new' w _ rfl #[.int .i64 0,.int .i64 0] 84)
 have HB1:=lH hB1
 have HS1:=lH hs1
 have cO:Hi (Calls Tryz.prog 32 #[v] w1 fun e w2=>∃ a1 n1 c1,e=.returned (.slice a1 n1 c1)/\Bel w1 w2/\∃ S0 lab0,(S0 (-1)).v=.slice a1 n1 c1/\qQv (w.heap.size+1) w2 S0 lab0 (qQx l)):=lH (by
  refine (qJy k n v l w1 (hl.agree (fun b hb=>hB1.block b (Zc hb hn))) (Za hn hB1.size) hnl).mono ?_
  rintro e w2 ⟨b2,y,rfl,B,hO⟩
  rw [hs1] at hO
  obtain ⟨S0,lab0,h1,h2⟩:=zGf hO hal
  exact ⟨(S0 (-1)).a,(S0 (-1)).n,(S0 (-1)).c,by rw [<- h1];rfl,b2,S0,lab0,rfl,h2⟩)
 obtain ⟨ea,ec,hEV,v1,v2⟩:=Rf hev
 subst hEV
 have HEV:=lH hev
 clear hev hl hB1 hs1
 go_enter Tryz.func52,Tryz.ntmps52
 go_upto_region 1 with fail
 rw [<- hw1]
 clear hw1
 go_upto_region 2 with (go_at_call 32;(with_reducible refine cO.o.mono ?_);rintro e w2 ⟨ya,yn,yc,rfl,b2,S0,lab0,hS0,hO⟩;have HB2:=lH b2;have HS0:=lH hS0;have HO:=lH hO;clear b2 hS0 hO)
 obtain ⟨w3,hw3⟩:∃ w3,w3=w2.alloc (.cells #[.slice ya yn yc] 52):=⟨_,rfl⟩
 rw [<- hw3]
 obtain ⟨bx,hbx⟩:∃ bx,bx=w2.heap.size:=⟨_,rfl⟩
 rw [<- hbx]
 have HB13:Hi (Bel w1 w3):=lH (by rw [hw3];exact HB2.o.alloc _)
 have HM0:Hi (Mids (w.heap.size+1) w1 w3 ⟨bx,0,none⟩ L es t' 0):=lH (by
  have hBox:Blk w3 bx [.slice ya yn yc] 52:=by rw [hw3];exact Blk.new' w2 _ hbx #[.slice ya yn yc] 52
  have hB23:Bel w2 w3:=by rw [hw3];exact (Br w2).alloc _
  exact ⟨Nat.zero_le _,HB13.o,qQx l,S0,lab0,by simpa using hG,qXr hal,qWr hal,qVv hal hlL,HO.o.bel hB23,⟨by rw [HS0.o,hBox.cell];rfl,hBox.frozen _,hBox.lt,fun m hm e=>by
   have h1:=(HO.o.lt hm e).2
   rw [hbx] at h1
   exact Nat.lt_irrefl _ h1⟩⟩)
 have HBX:Hi (w.heap.size+1<=bx):=lH (by rw [hbx,<- HS1.o];exact HB2.o.size)
 clear hw3 hbx hG
 have HST:Hi (∀ i wr,i<es.length->Mids (w.heap.size+1) w1 wr ⟨bx,0,none⟩ L es t' i->∃ b off,ea=some ⟨b,off,none⟩/\Calls Tryz.prog 93 #[.pointer (some ⟨bx,0,none⟩),.pointer (some ⟨b,off+i*12,none⟩)] wr fun r w'=>r=.returned (.int .i64 0)/\Mids (w.heap.size+1) w1 w' ⟨bx,0,none⟩ L es t' (i+1)):=lH (fun i wr hi M=>by
  obtain ⟨b,off,cap,e1,c⟩:=zHq (ev:=.slice ea es.length ec) M hi HS1.o.symm HBX.o hL heL (HEV.o.agree (fun b hb=>HB1.o.block b (Zc hb hn)) (fun _ _ _ hr=>hr)) (Za hn HB1.o.size)
  simp only [Value.slice.injEq] at e1
  exact ⟨b,off,e1.1,c⟩)
 go_wp2
 go_loopw [13] (fun z wr=>∃ i:Nat,z=.int .i64 i/\Mids (w.heap.size+1) w1 wr ⟨bx,0,none⟩ L es t' i) (fun z _=>es.length - (intOf z).toNat)
 case atStart=>exact ⟨0,rfl,HM0.o⟩
 case round=>
  obtain ⟨i,rfl,M⟩:=hrel
  have hle:=M.le
  have HM:=lH M
  clear M
  by_cases hlt:i<es.length
  ·have hltz:(i:Int)<(es.length:Int):=by omega
   obtain ⟨b,off,e1,c⟩:=HST.o i _ hlt HM.o
   subst e1
   have HC:=lH c
   clear c
   go_wp2_with (go_at_call 93;(with_reducible refine HC.o.mono ?_);rintro r w6 ⟨rfl,m⟩;have HM2:=lH m;clear m)
   go_roundw
   case rel=>exact ⟨i+1,by go_num,HM2.o⟩
   case measure=>simp [intOf];omega
  ·obtain ⟨-,bB,t1,S,lab,g,hw,-,-,hT,hbx⟩:=HM.o
   rw [List.drop_of_length_le (by omega)] at g
   have e:t1=t':=by cases g;rfl
   subst e
   have hc:wr.cell? ⟨bx,0,none⟩=some (.slice (S (-1)).a (S (-1)).n (S (-1)).c):=hbx.cell
   have hF:Blk wr w.heap.size [.int .i64 0,.int .i64 0] 84:=HF1.o.bel bB
   have f0:=hF.cell 0
   have f1:=hF.cell 1
   have g0:=hF.frozen 0
   have g1:=hF.frozen 1
   simp only [Zd,Ze] at f0 f1
   have HT:=lH hT
   have HB:=lH bB
   clear hT hbx bB hF g hw
   have hB9:Bel w ((wr.setCell ⟨w.heap.size,0,none⟩ (.int .i64 0)).setCell ⟨w.heap.size,1,none⟩ (.int .i64 0)):=((Bt HB1.o HB.o).setCell _ _ _ (Zb _)).setCell _ _ _ (Zb _)
   have hF9:Blk ((wr.setCell ⟨w.heap.size,0,none⟩ (.int .i64 0)).setCell ⟨w.heap.size,1,none⟩ (.int .i64 0)) w.heap.size [.int .i64 0,.int .i64 0] 84:=((HF1.o.bel HB.o).set 0 (.int .i64 0)).set 1 (.int .i64 0)
   have hT9:qQv (w.heap.size+1) ((wr.setCell ⟨w.heap.size,0,none⟩ (.int .i64 0)).setCell ⟨w.heap.size,1,none⟩ (.int .i64 0)) S lab t1:=fun m hm=>⟨(HT.o m hm).1.agree (fun b hb=>by
    have hlb:=(HT.o.lt hm hb).1
    rw [Below.heap_setCell _ _ _ _ (by show b≠w.heap.size;omega),Below.heap_setCell _ _ _ _ (by show b≠w.heap.size;omega)]) (fun _ _ _ hr=>by unfold rdIc at hr ⊢;exact hr),(HT.o m hm).2⟩
   have HB9:=lH hB9
   have HF9:=lH hF9
   have HT9:=lH hT9
   clear hB9 hF9 hT9
   go_wp2
   generalize (wr.setCell ⟨w.heap.size,0,none⟩ (.int .i64 0)).setCell ⟨w.heap.size,1,none⟩ (.int .i64 0)=w9 at *
   have c0:=HF9.o.cell 0
   have c1:=HF9.o.cell 1
   simp only [Zd,Ze] at c0 c1
   refine bodyPost_ret (v:=.tuple #[.slice (S (-1)).a (S (-1)).n (S (-1)).c,.agg #[.int .i64 0,.int .i64 0]]) (by simp [results,Tryz.results52,go_sem,c0,c1]) rfl ⟨S,lab,rfl,HB9.o,HT9.o⟩
end Go.Proofs.YtklbmkaomojciaaGreat
namespace Go.Proofs.YtklbmkaomojciaaGreat
section
variable {P:Program} {ops:Array Oper} {Q:Exit->Act->World->Prop} {md:Region.Mode} {S:World->Prop}
def qBd (P:Program) (R:Value->World->Prop):Result Next->Prop
 | .ok (.value v) w'=>R v w'
 | .ok .skip w'=>R undef w'
 | .ok (.enter f args) w'=>Calls P f args w' fun e w''=>∃ v,e=.returned v/\R v w''
 | _=>False
theorem qBd.upon {R:Value->World->Prop} {r:Result Next} (h:qBd P R r) {o:Oper} {a:Act} {next:Act->World->Prop} (hn:∀ v w',R v w'->next (a.put o.dst v) w'):o.upon P a next Q r:=by
 cases r with
 | ok n w'=>
   cases n <;> simp only [qBd,Oper.upon] at h ⊢
   case value u=>exact hn _ _ h
   case skip=>exact hn _ _ h
   case enter f args=>
    refine Calls.mono h fun e w'' he=>?_
    obtain ⟨v,rfl,hv⟩:=he
    exact hn _ _ hv
 | halt x w'=>simp only [qBd] at h
def Says (P:Program) (ops:Array Oper) (S:World->Prop) (o:Oper) (v:Value) (a:Act):Prop:=
 (Region.wanted o (yielded ops a.tmps)=true/\∀ w,S w->qBd P (fun u w'=>u=v/\S w') ((execOp a.eval o).run P w)) ∨
 (Region.wanted o (yielded ops a.tmps)=false/\v=undef)
theorem Says.of_same {o:Oper} {v:Value} {a a':Act} (hy:Says P ops S o v a) (he:execOp a'.eval o=execOp a.eval o)
 (hw:Region.wanted o (yielded ops a'.tmps)=Region.wanted o (yielded ops a.tmps)):Says P ops S o v a':=by
 unfold Says at *
 rw [he,hw]
 exact hy
theorem Says.wpOp {i:Nat} {o:Oper} {v:Value} {a:Act} (hi:ops[i]?=some o) (hy:Says P ops S o v a)
 {K:Act->World->Prop} {w:World} (hS:S w) (h:∀ w',S w'->K (a.put o.dst v) w'):wpOp P ops Q i K a w:=by
 unfold Go.wpOp
 simp only [hi]
 rcases hy with ⟨hw,hv⟩ | ⟨hw,rfl⟩
 ·simp only [hw,if_true,Oper.wp]
  exact .inl ((hv w hS).upon (fun u w' hu=>by obtain ⟨rfl,h'⟩:=hu;exact h w' h'))
 ·simp only [hw,Bool.false_eq_true,if_false];exact h w hS
def qFs (P:Program) (ops:Array Oper) (T:Option Value->World->Prop) (o:Oper) (a:Act):Prop:=
 Region.wanted o (yielded ops a.tmps)=true/\∀ w,T none w->qBd P (fun u w'=>T (some u) w') ((execOp a.eval o).run P w)
theorem qFs.of_same {T:Option Value->World->Prop} {o:Oper} {a a':Act} (hy:qFs P ops T o a) (he:execOp a'.eval o=execOp a.eval o)
 (hw:Region.wanted o (yielded ops a'.tmps)=Region.wanted o (yielded ops a.tmps)):qFs P ops T o a':=by
 unfold qFs at *
 rw [he,hw]
 exact hy
theorem qFs.wpOp {T:Option Value->World->Prop} {i:Nat} {o:Oper} {a:Act} (hi:ops[i]?=some o) (hy:qFs P ops T o a)
 {K:Act->World->Prop} {w:World} (hS:T none w) (h:∀ u w',T (some u) w'->K (a.put o.dst u) w'):wpOp P ops Q i K a w:=by
 unfold Go.wpOp
 simp only [hi]
 simp only [hy.1,if_true,Oper.wp]
 exact .inl ((hy.2 w hS).upon (fun u w' hu=>h u w' hu))
def Det (P:Program) (md:Region.Mode) (ops:Array Oper) (T:Option Value->World->Prop) (d:Nat) (stop:Array Bool) (F:Option Value->Act->Prop):Nat->Option Value->Array Bool->Act->Prop
 | 0,x,listed,a=>listed=stop/\F x a
 | n+1,x,listed,a=>Region.ready md ops listed≠[]/\∀ i∈Region.ready md ops listed,∃ o,ops[i]?=some o /\
    ((i=d/\x=none/\qFs P ops T o a/\∀ u,Det P md ops T d stop F n (some u) (listed.setIfInBounds i true) (a.put o.dst u)) ∨
     ∃ v,(∀ y,Says P ops (T y) o v a)/\Det P md ops T d stop F n x (listed.setIfInBounds i true) (a.put o.dst v))
theorem Det.sound {T:Option Value->World->Prop} {d:Nat} {stop:Array Bool} {F:Option Value->Act->Prop} {k:Nat} (hF:∀ x a w,F x a->T x w->wpAny P md ops Q k stop a w) :
 ∀ (n:Nat) (x:Option Value) (listed:Array Bool) (a:Act) (w:World),Det P md ops T d stop F n x listed a->T x w->wpAny P md ops Q (k+n) listed a w:=by
 intro n
 induction n with
 | zero=>rintro x listed a w ⟨rfl,h⟩ hS;exact hF x a w h hS
 | succ n ih=>
   rintro x listed a w ⟨hne,h⟩ hS
   refine ⟨fun h0=>absurd h0 hne,fun i hi=>?_⟩
   obtain ⟨o,ho,⟨_,rfl,hy,hd⟩ | ⟨v,hy,hd⟩⟩:=h i hi
   ·exact hy.wpOp ho hS (fun u w' hS'=>ih _ _ _ w' (hd u) hS')
   ·exact (hy x).wpOp ho hS (fun w' hS'=>ih _ _ _ w' hd hS')
theorem Det.take {T:Option Value->World->Prop} {d:Nat} {stop:Array Bool} {F:Option Value->Act->Prop} {i:Nat} {oi:Oper} {v:Value} (hi:ops[i]?=some oi) (hsel:∀ (j:Nat) (o:Oper) cs b,ops[j]?=some o->o.op≠.select cs b)
 (hl:∀ listed:Array Bool,listed.setIfInBounds i true=stop->listed.getD i true=false->∀ j,j∈Region.ready md ops listed->j=i) :
 ∀ (n:Nat) (x:Option Value) (listed:Array Bool) (a:Act),
  (∀ j oj,ops[j]?=some oj->j≠i->listed.getD j true=false->(∀ e∈oj.after,Region.binds md e=true->e.on≠i)->oi.apart ops oj=true) ->
  i∈Region.ready md ops listed->(∀ y,Says P ops (T y) oi v a) ->
  Det P md ops T d stop F n x (listed.setIfInBounds i true) (a.put oi.dst v)->Det P md ops T d stop F (n+1) x listed a:=by
 intro n
 induction n with
 | zero=>
   intro x listed a _ hr hy H
   refine ⟨(fun h=>by rw [h] at hr;cases hr),fun j hj=>?_⟩
   obtain rfl:=hl listed H.1 (mem_ready.1 hr).1 j hj
   exact ⟨oi,hi,.inr ⟨v,hy,H⟩⟩
 | succ n ih=>
   intro x listed a hfree hr hy H
   refine ⟨(fun h=>by rw [h] at hr;cases hr),fun j hj=>?_⟩
   by_cases hji:j=i
   ·subst hji;exact ⟨oi,hi,.inr ⟨v,hy,H⟩⟩
   ·obtain ⟨oj',hoj',hcase⟩:=H.2 j (ready_mono hj hji)
    obtain ⟨hjun,oj,hoj,hall⟩:=mem_ready.1 hj
    obtain rfl:oj'=oj:=by rw [hoj] at hoj';exact (Option.some.inj hoj').symm
    have hnot:∀ e∈oj'.after,Region.binds md e=true->e.on≠i:=fun e he hb heq=>by
     have h1:=hall e he hb
     have h0:=(mem_ready.1 hr).1
     rw [heq] at h1
     rcases Nat.lt_or_ge i listed.size with h' | h'
     ·simp [h'] at h0 h1;rw [h0] at h1;cases h1
     ·simp [Array.getElem?_eq_none h'] at h1
    obtain ⟨h1,h2,h3⟩:=Oper.apart_spec (hfree j oj' hoj hji hjun hnot)
    have hsi:∀ cs b,oi.op≠.select cs b:=fun cs b=>hsel i oi cs b hi
    have hsj:∀ cs b,oj'.op≠.select cs b:=fun cs b=>hsel j oj' cs b hoj
    have hyi':∀ u y,Says P ops (T y) oi v (a.put oj'.dst u):=fun u y=>(hy y).of_same (execOp_put oi hsi a oj'.dst u h3) (wanted_put oi a oj'.dst u h3)
    have hfree':∀ k ok,ops[k]?=some ok->k≠i->(listed.setIfInBounds j true).getD k true=false ->
     (∀ e∈ok.after,Region.binds md e=true->e.on≠i)->oi.apart ops ok=true:=fun k ok hk hki hun hno=>by
     refine hfree k ok hk hki ?_ hno
     by_cases hjk:j=k
     ·subst hjk;exact hjun
     ·rw [getD_set_ne true hjk] at hun;exact hun
    have hrest:∀ x' u,Det P md ops T d stop F n x' ((listed.setIfInBounds i true).setIfInBounds j true) ((a.put oi.dst v).put oj'.dst u)->Det P md ops T d stop F (n+1) x' (listed.setIfInBounds j true) (a.put oj'.dst u):=fun x' u hd=>by
     refine ih x' (listed.setIfInBounds j true) _ hfree' (ready_mono hr (Ne.symm hji)) (hyi' u) ?_
     rw [Array.setIfInBounds_comm _ _ hji,<- Act.put_comm a v u h2]
     exact hd
    refine ⟨oj',hoj,?_⟩
    rcases hcase with ⟨q1,q2,q3,q4⟩ | ⟨u,hyj,hd⟩
    ·exact .inl ⟨q1,q2,q3.of_same (execOp_put oj' hsj a oi.dst v h1).symm (wanted_put oj' a oi.dst v h1).symm,fun u=>hrest _ u (q4 u)⟩
    ·exact .inr ⟨u,fun y=>(hyj y).of_same (execOp_put oj' hsj a oi.dst v h1).symm (wanted_put oj' a oi.dst v h1).symm,hrest _ u hd⟩
def planGo (md:Region.Mode) (ops:Array Oper) (stop:Array Bool):List Nat->Array Bool->Bool
 | [],_=>true
 | i::is,listed=>Region.free md ops listed i&&(Region.ready md ops listed).contains i&&(Region.ready md ops (stop.setIfInBounds i false)==[i])&&planGo md ops stop is (listed.setIfInBounds i true)
def chainGo (md:Region.Mode) (ops:Array Oper):List Nat->Array Bool->Bool
 | [],listed=>Region.ready md ops listed==[]
 | j::js,listed=>(Region.ready md ops listed==[j])&&chainGo md ops js (listed.setIfInBounds j true)
def qQw (is:List Nat) (b:Array Bool):Array Bool:=is.foldl (fun b i=>b.setIfInBounds i true) b
def plan0 (md:Region.Mode) (ops:Array Oper) (is:List Nat) (js:List Nat):Bool:=
 let b:=Array.replicate ops.size false
 Region.noSelect ops&&(is.length+js.length==ops.size)&&planGo md ops (qQw is b) is b&&chainGo md ops js (qQw is b)
def pickL (l:List Oper) (is:List Nat):List Oper:=is.filterMap (l[·]?)
def DetL (P:Program) (ops:Array Oper) (T:Option Value->World->Prop) (F:Act->Prop):List Oper->Act->Prop
 | [],a=>F a
 | o::l,a=>∃ v,(∀ y,Says P ops (T y) o v a)/\DetL P ops T F l (a.put o.dst v)
theorem DetL.cons {T:Option Value->World->Prop} {F:Act->Prop} {o:Oper} {l:List Oper} {a:Act} {v:Value} (h:∀ y,Says P ops (T y) o v a) (k:DetL P ops T F l (a.put o.dst v)):DetL P ops T F (o::l) a:=⟨v,h,k⟩
theorem DetL.nil {T:Option Value->World->Prop} {F:Act->Prop} {a:Act} (h:F a):DetL P ops T F [] a:=h
theorem set_back {l s:Array Bool} {i:Nat} (h:l.setIfInBounds i true=s) (hf:l.getD i true=false):l=s.setIfInBounds i false:=by
 subst h
 apply Array.ext_getElem?
 intro j
 by_cases e:i=j
 ·subst e
  rcases Nat.lt_or_ge i l.size with h | h
  ·rw [Array.getElem?_setIfInBounds_self_of_lt (by simpa using h)]
   simp [h] at hf ⊢
   exact hf
  ·simp [h]
 ·rw [Array.getElem?_setIfInBounds_ne e,Array.getElem?_setIfInBounds_ne e]
theorem zY8 {l:List Oper}:∀ (js:List Nat) (listed:Array Bool) (a:Act) (w:World),chainGo md l.toArray js listed=true ->
 wpList P l.toArray Q (pickL l js) a w->wpAny P md l.toArray Q js.length listed a w:=by
 intro js
 induction js with
 | nil=>
   intro listed a w hc h
   have hc:Region.ready md l.toArray listed=[]:=by simpa [chainGo] using hc
   exact ⟨hc,h⟩
 | cons j js ih=>
   intro listed a w hc h
   simp only [chainGo,Bool.and_eq_true,beq_iff_eq] at hc
   obtain ⟨hr,hc⟩:=hc
   refine ⟨(fun h0=>by rw [hr] at h0;cases h0),fun i hi=>?_⟩
   rw [hr] at hi
   obtain rfl:i=j:=by simpa using hi
   obtain ⟨_,o,ho,_⟩:=mem_ready.1 (by rw [hr];simp:i∈Region.ready md l.toArray listed)
   have hp:pickL l (i::js)=o::pickL l js:=by
    have ho':l[i]?=some o:=by simpa using ho
    simp [pickL,ho']
   rw [hp] at h
   have hK:∀ a w,wpList P l.toArray Q (pickL l js) a w->wpAny P md l.toArray Q js.length (listed.setIfInBounds i true) a w:=fun a w h'=>ih _ a w hc h'
   unfold Go.wpOp
   simp only [ho]
   unfold wpList at h
   split
   ·rename_i hw
    rw [if_pos hw] at h
    exact h.imp (Oper.wp_mono hK) id
   ·rename_i hw
    rw [if_neg hw] at h
    exact hK _ _ h
theorem det_plan {T:Option Value->World->Prop} {d:Nat} {stop:Array Bool} {l:List Oper} (hs:Region.noSelect l.toArray=true) {F:Option Value->Act->Prop} {x:Option Value} {m:Nat}:∀ (is:List Nat) (listed:Array Bool) (a:Act),planGo md l.toArray stop is listed=true ->
 DetL P l.toArray T (fun a=>Det P md l.toArray T d stop F m x (qQw is listed) a) (pickL l is) a->Det P md l.toArray T d stop F (m+is.length) x listed a:=by
 intro is
 induction is with
 | nil=>intro listed a _ h;exact h
 | cons i is ih=>
   intro listed a hp h
   simp only [planGo,Bool.and_eq_true,beq_iff_eq] at hp
   obtain ⟨⟨⟨q1,q2⟩,q3⟩,q4⟩:=hp
   have q2':i∈Region.ready md l.toArray listed:=by simpa using q2
   obtain ⟨_,o,ho,_⟩:=mem_ready.1 q2'
   have hpk:pickL l (i::is)=o::pickL l is:=by
    have ho':l[i]?=some o:=by simpa using ho
    simp [pickL,ho']
   rw [hpk] at h
   obtain ⟨v,hy,hd⟩:=h
   refine Det.take ho (Region.noSelect_spec hs) ?_ (m+is.length) x listed a (Region.free_spec ho q1) q2' hy (ih _ _ q4 hd)
   intro listed' he hb y hyy
   rw [set_back he hb,q3] at hyy
   simpa using hyy
theorem qKr {id:Nat} {l:List Oper} {a:Act} {w:World} (is js:List Nat) (S:World->Prop) (hm:P.follows .mixedOrders=true) (hp:plan0 .any l.toArray is js=true) (hS:S w.drew)
 (h:DetL P l.toArray (fun _=>S) (fun a=>∀ w',S w'->wpList P l.toArray Q (pickL l js) a w') (pickL l is) a):(Code.region id l.toArray true).wp P Q a w:=by
 refine wp_region_any hm ?_
 simp only [plan0,Bool.and_eq_true,beq_iff_eq,List.size_toArray] at hp
 obtain ⟨⟨⟨p1,p2⟩,p3⟩,p4⟩:=hp
 have hd:Det P .any l.toArray (fun _=>S) l.length (qQw is (Array.replicate l.length false)) (fun _ a=>∀ w',S w'->wpList P l.toArray Q (pickL l js) a w') (0+is.length) none (Array.replicate l.length false) a:=by
  refine det_plan p1 is _ a p3 ?_
  have:∀ (L:List Oper) (a:Act),DetL P l.toArray (fun _=>S) (fun a=>∀ w',S w'->wpList P l.toArray Q (pickL l js) a w') L a ->
   DetL P l.toArray (fun _=>S) (fun a=>Det P .any l.toArray (fun _=>S) l.length (qQw is (Array.replicate l.length false)) (fun _ a=>∀ w',S w'->wpList P l.toArray Q (pickL l js) a w') 0 none (qQw is (Array.replicate l.length false)) a) L a:=by
   intro L
   induction L with
   | nil=>intro a h;exact ⟨rfl,h⟩
   | cons o L ih=>intro a ⟨v,h1,h2⟩;exact ⟨v,h1,ih _ h2⟩
  exact this _ _ h
 have:=Det.sound (Q:=Q) (k:=js.length) (fun x a w hF hw=>zY8 js _ a w p4 (hF w hw)) _ none _ a w.drew hd hS
 rw [show js.length+(0+is.length)=l.toArray.size by simp;omega] at this
 simpa using this
theorem Says.plain {o:Oper} {v:Value} {a:Act} (hw:Region.wanted o (yielded ops a.tmps)=true) (h:∀ w,S w->(execOp a.eval o).run P w=.ok (.value v) w):Says P ops S o v a:=
 .inl ⟨hw,fun w hS=>by rw [h w hS];exact ⟨rfl,hS⟩⟩
theorem Says.call {o:Oper} {v:Value} {a:Act} {f:FuncId} {args:Array Value} (hw:Region.wanted o (yielded ops a.tmps)=true) (hr:∀ w,(execOp a.eval o).run P w=.ok (.enter f args) w)
 (h:∀ w,S w->Calls P f args w (fun e w'=>e=.returned v/\S w')):Says P ops S o v a:=
 .inl ⟨hw,fun w hS=>by rw [hr w];exact Calls.mono (h w hS) fun e w'' ⟨he,hs⟩=>⟨v,he,rfl,hs⟩⟩
theorem Says.skip {o:Oper} {a:Act} (hw:Region.wanted o (yielded ops a.tmps)=false):Says P ops S o undef a:=.inr ⟨hw,rfl⟩
theorem qFs.plain {T:Option Value->World->Prop} {o:Oper} {a:Act} (hw:Region.wanted o (yielded ops a.tmps)=true) (h:∀ w,T none w->∃ v w',(execOp a.eval o).run P w=.ok (.value v) w'/\T (some v) w'):qFs P ops T o a:=
 ⟨hw,fun w hS=>by obtain ⟨v,w',h1,h2⟩:=h w hS;rw [h1];exact h2⟩
theorem qFs.call {T:Option Value->World->Prop} {o:Oper} {a:Act} {f:FuncId} {args:Array Value} (hw:Region.wanted o (yielded ops a.tmps)=true) (hr:∀ w,(execOp a.eval o).run P w=.ok (.enter f args) w)
 (h:∀ w,T none w->Calls P f args w (fun e w'=>∃ v,e=.returned v/\T (some v) w')):qFs P ops T o a:=
 ⟨hw,fun w hS=>by rw [hr w];exact Calls.mono (h w hS) fun e w'' ⟨v,he,hs⟩=>⟨v,he,hs⟩⟩
end
end Go.Proofs.YtklbmkaomojciaaGreat

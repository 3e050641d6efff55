/- Who listens knows it all: walked. -/
import Derived.Test.YtklbmkaomojciaaGreatDiffAll
set_option maxRecDepth 100000
set_option maxHeartbeats 4000000
namespace Go.Proofs.YtklbmkaomojciaaGreat
open Go.RowKit
theorem chg_told (E:Eng) (x:Chg):(chgE E x).told=E.told:=by
 unfold chgE
 split <;> rfl
theorem qGr {m n:Nat} {v fv:Value} {l:List Chg} {fl:List Bool} {w:World} (hv:zY5 m w v l) (hf:zG4 n w fv fl) (hm:m<=w.heap.size) (hn:n<=w.heap.size) (hl:∀ x∈l,x.name.length<=9223372036854775807/\x.value.length<=9223372036854775807) :
 Calls Tryz.prog 15 #[v,fv] w (Rb (.bool true) w):=by
 obtain ⟨va,vc,rfl,v1,v2⟩:=Rf hv
 obtain ⟨fa,fc,rfl,f1,f2⟩:=Rf hf
 have cA:=lH (qD5 w)
 have HV:=lH hv
 have HF:=lH hf
 have HL:=lH hl
 clear hv hf hl
 go_enter Tryz.func15,Tryz.ntmps15
 go_upto_region 4 with (first
 | (go_at_call 45;(with_reducible refine qKb cA.o fun w1 HB1=>?_))
 | (go_at_call 51;(with_reducible refine (qVs _).mono ?_);rintro e w2 ⟨b2,u1,rfl,dv,rfl,o2⟩;obtain ⟨na,nc,rfl,_,_⟩:=Rf o2;have HD2:=lH o2;have HB2:=lH b2;clear b2 o2))
 have hB3:Bel w2 (w2.alloc (.cells #[.slice na rootD.length nc,.slice none 0 0,.slice none 0 0,.slice none 0 0] 70)):=(Br w2).alloc _
 have hK3:Blk (w2.alloc (.cells #[.slice na rootD.length nc,.slice none 0 0,.slice none 0 0,.slice none 0 0] 70)) w2.heap.size [.slice na rootD.length nc,.slice none 0 0,.slice none 0 0,.slice none 0 0] 70:=Blk.new' w2 _ rfl _ _
 have hs3:(w2.alloc (.cells #[.slice na rootD.length nc,.slice none 0 0,.slice none 0 0,.slice none 0 0] 70)).heap.size=w2.heap.size+1:=by simp
 have hC3:EngC w1.heap.size w2.heap.size (w2.alloc (.cells #[.slice na rootD.length nc,.slice none 0 0,.slice none 0 0,.slice none 0 0] 70)) ⟨rootD,[],[],[]⟩:=⟨na,_,nc,none,0,0,none,0,0,none,0,0,hK3,⟨(HD2.o.agree (fun b hb=>hB3.block b hb.2)).mono (fun b hb=>⟨hb.1,by omega,by omega⟩),qQa.nil,qQa.nil,qQa.nil⟩⟩
 have HC3:=lH hC3
 have HB3:=lH (Bt HB2.o hB3)
 clear hB3 hK3 hs3 hC3
 generalize hg6:w2.heap.size=g6 at *
 have HG6:Hi (w1.heap.size<=g6):=lH (by rw [<- hg6];exact HB2.o.size)
 clear hg6 HD2 cA
 generalize (w2.alloc (.cells #[.slice na rootD.length nc,.slice none 0 0,.slice none 0 0,.slice none 0 0] 70))=w3 at *
 go_upto_region 6 with fail
 go_loopw [22,6] (fun z hv wr=>∃ (j:Nat) (E:Eng) (ha:Option Addr) (hp:Nat),j<=l.length/\z=.int .i64 j/\hv=.slice ha E.told.length hp/\EngC w1.heap.size g6 wr E/\EngOk E/\ItsK (fun b=>b<wr.heap.size/\b≠g6) 200 wr (.slice ha E.told.length hp) E.told/\Bel w1 wr) (fun z _ _=>l.length - (intOf z).toNat)
 case atStart=>exact ⟨0,⟨rootD,[],[],[]⟩,none,0,by omega,rfl,rfl,HC3.o,qD1,qQa.nil,HB3.o⟩
 case round=>
  obtain ⟨j,E,ha,hp,hj,rfl,rfl,hC,hOk,hH,hB⟩:=hrel
  have HOK:=lH hOk
  have HH:=lH hH
  have HB:=lH hB
  have HC:=lH hC
  clear hOk hH hB hC
  by_cases hlt:j<l.length
  ·have hR:=qQa.later HV.o zH5 (Bt HB1.o HB.o) hm
   obtain ⟨_,_,_,_,e1,_,_,_,_⟩:=qQa.elem hR j hlt
   simp at e1
   obtain ⟨rfl,rfl⟩:=e1
   obtain ⟨c0,c1,c2,c3,c4,c5⟩:=zBa hR j hlt
   obtain ⟨hn1,hn2⟩:=HL.o _ (Zl hlt)
   clear hR
   generalize l[j]=x at *
   have hBx:Bel wr (wr.alloc (.cells #[.int .i64 x.kind,.int .i64 x.node,.int .i64 x.dest,.int .i64 x.before,.string ⟨x.name.toArray⟩,.string ⟨x.value.toArray⟩] 40)):=(Br wr).alloc _
   have hKx:Blk (wr.alloc (.cells #[.int .i64 x.kind,.int .i64 x.node,.int .i64 x.dest,.int .i64 x.before,.string ⟨x.name.toArray⟩,.string ⟨x.value.toArray⟩] 40)) wr.heap.size [.int .i64 x.kind,.int .i64 x.node,.int .i64 x.dest,.int .i64 x.before,.string ⟨x.name.toArray⟩,.string ⟨x.value.toArray⟩] 40:=Blk.new' wr _ rfl _ _
   have HBX:=lH hBx
   have HKX:=lH hKx
   clear hBx hKx
   go_upto_region 8 with fail
   clear c0 c1 c2 c3 c4 c5
   generalize (wr.alloc (.cells #[.int .i64 x.kind,.int .i64 x.node,.int .i64 x.dest,.int .i64 x.before,.string ⟨x.name.toArray⟩,.string ⟨x.value.toArray⟩] 40))=w4 at *
   obtain ⟨da,dn,dc,ta,tn,tc,ma,mn,mc,ia,im,ic,hK4,hV4⟩:=HC.o.bel HBX.o
   have c0:=HKX.o.cell 0
   have c1:=HKX.o.cell 1
   have c2:=HKX.o.cell 2
   have c3:=HKX.o.cell 3
   have c4:=HKX.o.cell 4
   have c5:=HKX.o.cell 5
   have n0:=hK4.cell 0
   have n1:=hK4.cell 1
   have n2:=hK4.cell 2
   have n3:=hK4.cell 3
   simp only [Zd,Ze] at c0 c1 c2 c3 c4 c5 n0 n1 n2 n3
   have cA:=lH (zKt hV4 (fun b hb=>hb.2.1) HOK.o x hn1 hn2)
   have hOK5:=qGb HOK.o x
   have hEc:(qQ4 E.doc x).1≠0->chgE E x=E:=fun h=>by unfold chgE;rw [if_neg h]
   have hEr:(qQ4 E.doc x).1=0->chgR E x=chgE E x:=fun h=>by unfold chgR;rw [if_pos h]
   have HK4:=lH hK4
   have HV4:=lH hV4
   have HB4:=lH (Bt HB.o HBX.o)
   have HH4:Hi (ItsK (fun b=>b<w4.heap.size/\b≠g6) 200 w4 (.slice ha E.told.length hp) E.told):=lH ((HH.o.agree (fun b hb=>HBX.o.block b hb.1)).mono (fun b hb=>⟨Zc hb.1 HBX.o.size,hb.2⟩))
   have HEC:=lH hEc
   have HER:=lH hEr
   have HOK5:=lH hOK5
   have HTE:=lH (chg_told E x)
   clear hK4 hV4 hEc hEr hOK5 HH
   unfold chgV at cA
   generalize (if (qQ4 E.doc x).1=0 then (qQ4 E.doc x).2.1 else 0)=N0 at *
   generalize (qQ4 E.doc x).1=e0 at *
   have hg4:g6<w4.heap.size:=HK4.o.lt
   have HG4:=lH hg4
   clear hg4
   by_cases he:e0=0
   case' pos=>
    go_upto_region 10 with (go_at_call 49;(with_reducible refine cA.o.mono ?_);rintro e w5 ⟨b5,y5,rfl,pa,pn,pc,qa,qn,qc,ra,rn,rc,sa,sn,sc,rfl,v5⟩;have HB5:=lH b5;have HV5:=lH v5;clear b5 v5)
    clear c0 c1 c2 c3 c4 c5 n0 n1 n2 n3
    have hB6:Bel w5 (w5.alloc (.cells #[.slice pa pn pc,.slice qa qn qc,.slice ra rn rc,.slice sa sn sc] 70)):=(Br w5).alloc _
    have hK6:Blk (w5.alloc (.cells #[.slice pa pn pc,.slice qa qn qc,.slice ra rn rc,.slice sa sn sc] 70)) w5.heap.size [.slice pa pn pc,.slice qa qn qc,.slice ra rn rc,.slice sa sn sc] 70:=Blk.new' w5 _ rfl _ _
    have HB6:=lH hB6
    have HK6:=lH hK6
    clear hB6 hK6
    generalize (w5.alloc (.cells #[.slice pa pn pc,.slice qa qn qc,.slice ra rn rc,.slice sa sn sc] 70))=w6 at *
    have c0:=HK6.o.cell 0
    have c1:=HK6.o.cell 1
    have c2:=HK6.o.cell 2
    have c3:=HK6.o.cell 3
    have hK46:=(HK4.o.bel HB5.o).bel HB6.o
    have n0:=hK46.cell 0
    have n1:=hK46.cell 1
    have n2:=hK46.cell 2
    have n3:=hK46.cell 3
    have f0:=hK46.frozen 0
    have f1:=hK46.frozen 1
    have f2:=hK46.frozen 2
    have f3:=hK46.frozen 3
    simp only [Zd,Ze] at c0 c1 c2 c3 n0 n1 n2 n3
    have HK46:=lH hK46
    clear hK46
    go_upto_region 11 with fail
    clear c0 c1 c2 c3 n0 n1 n2 n3 f0 f1 f2 f3
    refine qQq (E:=fun W=>EngC w1.heap.size g6 W (chgE E x)/\Bel w1 W/\w4.heap.size<=W.heap.size/\∀ b,b<w4.heap.size->b≠g6->W.heap[b]?=w4.heap[b]?) ?_ ?_
    ·have hFq:FrE g6 w6 ((((w6.setCell ⟨g6,0,none⟩ (.slice pa pn pc)).setCell ⟨g6,1,none⟩ (.slice qa qn qc)).setCell ⟨g6,2,none⟩ (.slice ra rn rc)).setCell ⟨g6,3,none⟩ (.slice sa sn sc)):=((((FrE.refl _ w6).set _).set _).set _).set _
     have hKq:Blk ((((w6.setCell ⟨g6,0,none⟩ (.slice pa pn pc)).setCell ⟨g6,1,none⟩ (.slice qa qn qc)).setCell ⟨g6,2,none⟩ (.slice ra rn rc)).setCell ⟨g6,3,none⟩ (.slice sa sn sc)) g6 [.slice pa pn pc,.slice qa qn qc,.slice ra rn rc,.slice sa sn sc] 70:=(((HK46.o.set 0 _).set 1 _).set 2 _).set 3 _
     generalize ((((w6.setCell ⟨g6,0,none⟩ (.slice pa pn pc)).setCell ⟨g6,1,none⟩ (.slice qa qn qc)).setCell ⟨g6,2,none⟩ (.slice ra rn rc)).setCell ⟨g6,3,none⟩ (.slice sa sn sc))=wq at *
     have G4:=HG4.o
     have S6:=HB6.o.size
     have S5:=HB5.o.size
     have S4:=HB4.o.size
     have Sq:=hFq.size
     have h5:=HV5.o
     rw [HER.o he] at h5
     exact ⟨⟨pa,pn,pc,qa,qn,qc,ra,rn,rc,sa,sn,sc,hKq,(h5.agree (fun b hb=>(hFq.block b (by omega) (by omega)).trans (HB6.o.block b hb.2))).mono (fun b hb=>⟨by omega,by omega,by omega⟩)⟩,hFq.bel (Bt HB4.o (Bt HB5.o HB6.o)) HG6.o,by omega,fun b h1 h2=>(hFq.block b (by omega) h2).trans ((Bt HB5.o HB6.o).block b h1)⟩
    clear HV5 HK6 HK46 HB5 HB6 HV4 HK4
    rintro wq ⟨hCq,hBq,hsq,hbq⟩
   case' neg=>
    have hne:(e0==0)=false:=by simpa using he
    go_upto_region 11 with (go_at_call 49;(with_reducible refine cA.o.mono ?_);rintro e w5 ⟨b5,y5,rfl,pa,pn,pc,qa,qn,qc,ra,rn,rc,sa,sn,sc,rfl,v5⟩;have HB5:=lH b5;have HV5:=lH v5;clear b5 v5)
    clear c0 c1 c2 c3 c4 c5 n0 n1 n2 n3
    refine qQq (E:=fun W=>EngC w1.heap.size g6 W (chgE E x)/\Bel w1 W/\w4.heap.size<=W.heap.size/\∀ b,b<w4.heap.size->b≠g6->W.heap[b]?=w4.heap[b]?) ⟨?_,Bt HB4.o (Bt HB5.o ((Br w5).alloc _)),(Bt HB5.o ((Br w5).alloc _)).size,fun b h1 _=>(Bt HB5.o ((Br w5).alloc _)).block b h1⟩ ?_
    ·rw [HEC.o he]
     exact (HC.o.bel HBX.o).bel (Bt HB5.o ((Br w5).alloc _))
    clear HV5 HB5 HV4 HK4 hne
    rintro wq ⟨hCq,hBq,hsq,hbq⟩
   all_goals
    have HHQ:Hi (ItsK (fun b=>b<wq.heap.size/\b≠g6) 200 wq (.slice ha E.told.length hp) E.told):=lH ((HH4.o.agree (fun b hb=>hbq b hb.1 hb.2)).mono (fun b hb=>⟨Zc hb.1 hsq,hb.2⟩))
    have HCQ:=lH hCq
    have HBQ:=lH hBq
    clear cA he hCq hBq hsq hbq HH4
    obtain ⟨cB,hcB⟩:∃ c,c=(fl[j]?.getD false||((j:Int)==(l.length:Int) - 1)):=⟨_,rfl⟩
    have HCB:=lH hcB
    clear hcB
    go_cut [53] from 37 to 53 (fun z wx=>z=.bool cB/\wx=wq)
    case first=>
     have hsub:IntKind.i64.wrap ((l.length:Int) - 1)=(l.length:Int) - 1:=by rw [IntKind.wrap_i64];omega
     by_cases hfl:j<fl.length
     ·obtain ⟨fb,fo,rfl,_,cb⟩:=(qQa.later HF.o zV7 (Bt HB1.o HBQ.o) hn).bool_cell j hfl
      have hgd:fl[j]?.getD false=fl[j]:=by rw [Zi hfl];rfl
      rw [hgd] at HCB
      clear hgd
      generalize fl[j]=fv at *
      cases fv with
      | true=>
        have HC1:Hi (cB=true):=lH (by rw [HCB.o,Bool.true_or])
        go_wp2
        go_meet
        exact ⟨by rw [HC1.o],rfl⟩
      | false=>
        have HC1:Hi (cB=((j:Int)==(l.length:Int) - 1)):=lH (by rw [HCB.o,Bool.false_or])
        go_wp2
        go_meet
        exact ⟨by rw [HC1.o],rfl⟩
     ·have hgd:fl[j]?.getD false=false:=by rw [List.getElem?_eq_none (by omega)];rfl
      have HC1:Hi (cB=((j:Int)==(l.length:Int) - 1)):=lH (by rw [HCB.o,hgd,Bool.false_or])
      clear hgd
      go_wp2
      go_meet
      exact ⟨by rw [HC1.o],rfl⟩
    case rest=>
     obtain ⟨rfl,rfl⟩:=hcut
     cases cB with
     | false=>
       have HHF:Hi (ItsK (fun b=>b<wc.heap.size/\b≠g6) 200 wc (.slice ha (chgE E x).told.length hp) (chgE E x).told):=lH (by rw [HTE.o];exact HHQ.o)
       have HTL:Hi ((chgE E x).told.length=E.told.length):=lH (by rw [HTE.o])
       go_wp2
       go_roundw
       case rel=>
        exact ⟨j+1,chgE E x,ha,hp,by omega,by go_num,by rw [HTL.o],HCQ.o,HOK5.o,HHF.o,HBQ.o⟩
       case measure=>simp [intOf];omega
     | true=>
       obtain ⟨xa,xn,xc,ya,yn,yc,za,zn,zc,ua,un,uc,hKq,hVq⟩:=HCQ.o
       have n0:=hKq.cell 0
       have n1:=hKq.cell 1
       have n2:=hKq.cell 2
       have n3:=hKq.cell 3
       simp only [Zd,Ze] at n0 n1 n2 n3
       have cF:=lH (zQ7 hVq (fun b hb=>hb.2.1) HOK5.o)
       have HKQ:=lH hKq
       clear hKq hVq HCB
       generalize hN1:(qX0 (chgE E x).memos (chgE E x).dirty (qVl (chgE E x).doc))=N1 at *
       clear hN1
       go_upto_region 14 with (go_at_call 48;(with_reducible refine cF.o.mono ?_);rintro e w7 ⟨b7,y7,rfl,pa,pn,pc,qa,qn,qc,ra,rn,rc,ea,en,ec,rfl,v7,o7⟩;have HB7:=lH b7;have HV7:=lH v7;have HO7:=lH o7;have hk7:=HKQ.o.bel (Bt b7 ((Br w7).alloc (.cells #[.slice pa pn pc,.slice qa qn qc,.slice ra rn rc,.slice none 0 0] 70)));have m0:=hk7.cell 0;have m1:=hk7.cell 1;have m2:=hk7.cell 2;have m3:=hk7.cell 3;have g0:=hk7.frozen 0;have g1:=hk7.frozen 1;have g2:=hk7.frozen 2;have g3:=hk7.frozen 3;simp only [Zd,Ze] at m0 m1 m2 m3;have HK7:=lH hk7;clear b7 v7 o7 hk7)
       have hb8:Bel w7 (w7.alloc (.cells #[.slice pa pn pc,.slice qa qn qc,.slice ra rn rc,.slice none 0 0] 70)):=(Br w7).alloc _
       have HB8:=lH hb8
       clear n0 n1 n2 n3 m0 m1 m2 m3 g0 g1 g2 g3 hb8 cF
       generalize (w7.alloc (.cells #[.slice pa pn pc,.slice qa qn qc,.slice ra rn rc,.slice none 0 0] 70))=w8 at *
       have hFq:FrE g6 w8 ((((w8.setCell ⟨g6,0,none⟩ (.slice pa pn pc)).setCell ⟨g6,1,none⟩ (.slice qa qn qc)).setCell ⟨g6,2,none⟩ (.slice ra rn rc)).setCell ⟨g6,3,none⟩ (.slice none 0 0)):=((((FrE.refl _ w8).set _).set _).set _).set _
       have hKz:Blk ((((w8.setCell ⟨g6,0,none⟩ (.slice pa pn pc)).setCell ⟨g6,1,none⟩ (.slice qa qn qc)).setCell ⟨g6,2,none⟩ (.slice ra rn rc)).setCell ⟨g6,3,none⟩ (.slice none 0 0)) g6 [.slice pa pn pc,.slice qa qn qc,.slice ra rn rc,.slice none 0 0] 70:=(((HK7.o.set 0 _).set 1 _).set 2 _).set 3 _
       generalize ((((w8.setCell ⟨g6,0,none⟩ (.slice pa pn pc)).setCell ⟨g6,1,none⟩ (.slice qa qn qc)).setCell ⟨g6,2,none⟩ (.slice ra rn rc)).setCell ⟨g6,3,none⟩ (.slice none 0 0))=w9 at *
       have S7:=HB7.o.size
       have S8:=HB8.o.size
       have S9:=hFq.size
       have G4:=HKQ.o.lt
       have SQ:=HBQ.o.size
       have h79:∀ b,b<w7.heap.size->b≠g6->w9.heap[b]?=w7.heap[b]?:=fun b h1 h2=>(hFq.block b (by omega) h2).trans (HB8.o.block b h1)
       have hC9:EngC w1.heap.size g6 w9 (qZz (chgE E x)):=⟨pa,pn,pc,qa,qn,qc,ra,rn,rc,none,0,0,hKz,(HV7.o.agree (fun b hb=>h79 b hb.2 (by omega))).mono (fun b hb=>⟨by omega,by omega,by omega⟩)⟩
       have hB9:Bel w1 w9:=hFq.bel (Bt HBQ.o (Bt HB7.o HB8.o)) HG6.o
       have hH9:ItsK (·<w9.heap.size) 200 w9 (.slice ha E.told.length hp) E.told:=(HHQ.o.agree (fun b hb=>(h79 b (by omega) hb.2).trans (HB7.o.block b hb.1))).mono (fun b hb=>by omega)
       have hO9:=HO7.o.agree (w':=w9) (by omega) (fun b h1 h2=>h79 b h2 (by omega))
       rw [HTE.o] at hO9
       have hA1:=HOK.o.alike
       have hA2:=(qXy HOK5.o).alike
       have hT9:ItsK (·<w9.heap.size) 200 w9 (.slice qa qn qc) (qXl (chgE E x).doc):=(((HV7.o.told.agree (fun b hb=>h79 b hb.2 (by omega))).mono (fun b hb=>by omega)).le (by omega))
       have hL120:(nodesL E.told++nodesL (qXl (chgE E x).doc)).length<=120:=by
        have h2:(nodesL (qXl (chgE E x).doc)).length<=60:=hA2.2
        rw [Zj]
        omega
       have cAp:=lH (zKj (b:=qXl (chgE E x).doc) hH9 (Zb _) hA1.1 hA2.1 (by omega) hO9)
       have hmx:max (100+1) ((nodesL E.told++nodesL (qXl (chgE E x).doc)).length+2)<=200:=by omega
       have HMX:=lH hmx
       have HC9:=lH hC9
       have HB9:=lH hB9
       have HT9:=lH hT9
       have HOF:=lH (qXy HOK5.o)
       have HG9:Hi (g6<w9.heap.size):=lH (by omega)
       have HKZ:=lH hKz
       clear hFq hKz h79 hC9 hB9 hH9 hO9 hA1 hA2 hT9 hL120 hmx HO7 HV7 HK7 HHQ
       go_upto_region 15 with (go_at_call 52;(with_reducible refine cAp.o.mono ?_);rintro e w10 ⟨b10,y10,rfl,la,ln,lc,rfl,q10⟩;have HB10:=lH b10;have HQ10:=lH (q10.le HMX.o);clear b10 q10)
       have hb11:Bel w10 (w10.alloc (.cells #[.int .i64 0,.int .i64 0] 84)):=(Br w10).alloc _
       have hf11:Blk (w10.alloc (.cells #[.int .i64 0,.int .i64 0] 84)) w10.heap.size [.int .i64 0,.int .i64 0] 84:=Blk.new' w10 _ rfl _ _
       have HB11:=lH (Bt HB10.o hb11)
       have HQ11:=lH (HQ10.o.agree (fun b hb=>hb11.block b hb.2))
       have HS11:=lH hb11.size
       generalize (w10.alloc (.cells #[.int .i64 0,.int .i64 0] 84))=w11 at *
       have f0:=hf11.cell 0
       have k1:=(HKZ.o.bel HB11.o).cell 1
       simp only [Zd,Ze] at f0 k1
       obtain ⟨_,_,e2,_,_⟩:=Rf HQ11.o
       simp at e2
       obtain ⟨rfl,rfl,rfl⟩:=e2
       have cS:=lH (qGo 200 w11.heap.size (.slice la (qXl (chgE E x).doc).length lc) (.slice qa qn qc) (qXl (chgE E x).doc) w11 (HQ11.o.mono (fun b hb=>Zc hb.2 HS11.o)) (HT9.o.up HB11.o (Zb _)) (Zb _))
       clear hb11 hf11 HQ10 cAp
       have HTT:Hi (qXl (chgE E x).doc=(qZz (chgE E x)).told):=lH rfl
       generalize hTT:qXl (chgE E x).doc=TT at *
       clear hTT
       go_wp2_with (go_at_call 31;(with_reducible refine qKb cS.o fun w12 HB12=>?_))
       go_roundw
       case rel=>
        have hq:=HQ11.o
        rw [HTT.o] at hq
        refine ⟨j+1,qZz (chgE E x),la,lc,by omega,by go_num,by rw [HTT.o],HC9.o.bel (Bt HB11.o HB12.o),HOF.o,(hq.agree (fun b hb=>HB12.o.block b (Zc hb.2 HS11.o))).mono (fun b hb=>⟨?_,?_⟩),Bt HB9.o (Bt HB11.o HB12.o)⟩
        ·have:=HS11.o;have:=HB12.o.size;omega
        ·have:=HG9.o;omega
       case measure=>simp [intOf];omega
  ·go_wp2
   go_ret
   exact ⟨rfl,Bt HB1.o HB.o⟩
end Go.Proofs.YtklbmkaomojciaaGreat

/- A change, with its end cut off; a document built by changes: the document's answer, walked. -/
import Derived.Test.YtklbmkaomojciaaGreatRefChange
set_option maxRecDepth 100000
set_option maxHeartbeats 4000000
namespace Go.Proofs.YtklbmkaomojciaaGreat
open Go.RowKit
theorem zZo {d:Dc} {j:Nat} (h:j<d.length):lastF (d.take (j+1)) 0 1=if d[j].live&&decide (lastF (d.take j) 0 1<=j) then j+1 else lastF (d.take j) 0 1:=by
 rw [Zk h,zQb]
 simp [List.length_take,Nat.min_eq_left (Nat.le_of_lt h)]
theorem qKu (m:Nat) (v:Value) (d:Dc) (x:Chg) (w:World) (hv:qQq m w v d) (hm:m<=w.heap.size) (g:Good d) (hn:x.name.length<=9223372036854775807) (hl:x.value.length<=9223372036854775807) :
 Calls Tryz.prog 22 #[v,chgV x] w (qQc w (qQ1 d x)):=by
 obtain ⟨va,vc,rfl,v1,v2⟩:=Rf hv
 have hB0:Bel w (w.alloc (.cells #[.int .i64 x.kind,.int .i64 x.node,.int .i64 x.dest,.int .i64 x.before,.string ⟨x.name.toArray⟩,.string ⟨x.value.toArray⟩] 40)):=(Br w).alloc _
 have HV:=lH hv
 have cI:=lH (qZb m _ d x.node false _ (hv.later hB0 hm))
 have HB0:=lH hB0
 have HG:=lH g
 by_cases c1:x.kind<1
 ·have HR:Hi (qQ1 d x=(1,0,[])):=lH (by unfold qQ1;rw [if_pos (by simp [c1])])
  clear hv hB0 g
  unfold chgV
  go_enter Tryz.func22,Tryz.ntmps22
  go_wp2
  go_ret3
  exact qQc.no HR.o HB0.o
 by_cases c2:10<x.kind
 ·have HR:Hi (qQ1 d x=(1,0,[])):=lH (by unfold qQ1;rw [if_pos (by simp [c2])])
  clear hv hB0 g
  unfold chgV
  go_enter Tryz.func22,Tryz.ntmps22
  go_wp2
  go_ret3
  exact qQc.no HR.o HB0.o
 cases hi:isM d x.node false with
 | false=>
   rw [hi] at cI
   have HR:Hi (qQ1 d x=(6,0,[])):=lH (by unfold qQ1;rw [if_neg (by simp;omega),if_pos (by simp [hi])])
   clear hv hB0 g
   unfold chgV
   go_enter Tryz.func22,Tryz.ntmps22
   go_wp2_with (go_at_call 28;refine cI.o.mono ?_;rintro e w1 ⟨rfl,rfl⟩)
   go_ret3
   exact qQc.no HR.o HB0.o
 | true=>
   rw [hi] at cI
   have cC:=lH (qVh m _ d x _ (hv.later hB0 hm) (Za hm hB0.size) g hi hn hl (by omega) (by omega))
   have hch:=fun h=>qXc (x:=x) g hi h
   have HCH:=lH hch
   have HR1:(qQ4 d x).1≠0->Hi (qQ1 d x=((qQ4 d x).1,0,[])):=fun h=>lH (by unfold qQ1;rw [if_neg (by simp;omega),if_neg (by simp [hi]),if_neg h])
   have HR2:(qQ4 d x).1=0->Hi (qQ1 d x=(0,(qQ4 d x).2.1,qK2 (qQ4 d x).2.2)):=fun h=>lH (by unfold qQ1;rw [if_neg (by simp;omega),if_neg (by simp [hi]),if_pos h])
   clear hv hB0 g hch hi
   generalize qQ4 d x=r at *
   obtain ⟨e,n,D⟩:=r
   simp only at HR1 HR2 HCH
   by_cases he:e=0
   ·have HR:=HR2 he
    obtain ⟨⟨rk,gD⟩,hlenD⟩:=HCH.o he
    have hpos:=gD.pos
    subst he
    have hle1:=qBm D 0 1 (by omega)
    have hT:Hi (qK2 D=D.take (lastF D 0 1)):=lH rfl
    clear HR1 HR2 HCH gD
    unfold chgV
    go_enter Tryz.func22,Tryz.ntmps22
    go_wp2_with (first
 | (go_at_call 28;refine cI.o.mono ?_;rintro e w1 ⟨rfl,rfl⟩)
 | (go_at_call 68;refine cC.o.mono ?_;rintro e w1 ⟨b1,x1,rfl,u1,rfl,o1⟩;obtain ⟨yb,yo,yc,_,_,_,rfl,hc1,hc2,_,_⟩:=qQq.node o1 0 hpos;have HB1:=lH (Bt HB0.o b1);have HD1:=lH o1;clear b1 o1))
    go_loop [37,10] (fun i s=>∃ j:Nat,j<=D.length/\i=.int .i64 j/\s=.int .i64 (lastF (D.take j) 0 1:Nat)) (fun i _=>D.length - (intOf i).toNat)
    case atStart=>exact ⟨0,by omega,rfl,rfl⟩
    case round=>
     obtain ⟨j,hj,rfl,rfl⟩:=hrel
     by_cases hlt:j<D.length
     ·obtain ⟨b,off,cap',av,kv,sv,e1,-,-,hbb,hN⟩:=HD1.o.node j hlt
      simp at e1
      obtain ⟨⟨rfl,rfl⟩,rfl⟩:=e1
      have c1:=hN.live
      have HS:=lH (zZo hlt)
      clear hN
      have hql:=qBm (D.take j) 0 1
      generalize lastF (D.take j) 0 1=q at *
      cases hl:D[j].live with
      | false=>
        rw [hl] at c1 HS
        clear hl
        go_wp2
        go_round
        case rel=>exact ⟨j+1,by omega,by go_num,by rw [HS.o];rfl⟩
        case measure=>simp [intOf];omega
      | true=>
        rw [hl] at c1 HS
        clear hl
        by_cases hq:q<=j
        ·have hq2:decide ((q:Int)<=(j:Int))=true:=by simp;omega
         go_wp2
         go_round
         case rel=>exact ⟨j+1,by omega,by go_num,by rw [HS.o,if_pos (by simp [hq])];go_num⟩
         case measure=>simp [intOf];omega
        ·have hq2:decide ((q:Int)<=(j:Int))=false:=by simp;omega
         go_wp2
         go_round
         case rel=>exact ⟨j+1,by omega,by go_num,by rw [HS.o,if_neg (by simp [hq])]⟩
         case measure=>simp [intOf];omega
     ·have hT2:D.take j=D:=Zn (by omega)
      rw [hT2]
      clear hT2
      have hR3:=lH (qQb.take HD1.o (lastF D 0 1) (by omega))
      have hle2:lastF D 0 1<=yc:=by omega
      rw [hT.o] at HR
      clear hT
      generalize lastF D 0 1=q at *
      go_wp2
      go_ret3
      exact qQc.yes HR.o HB1.o hR3.o
   ·have HR:=HR1 he
    have hne:(e != 0)=true:=by simpa using he
    clear HR1 HR2 HCH
    unfold chgV
    go_enter Tryz.func22,Tryz.ntmps22
    go_wp2_with (first
 | (go_at_call 28;refine cI.o.mono ?_;rintro e w1 ⟨rfl,rfl⟩)
 | (go_at_call 68;refine cC.o.mono ?_;rintro e w1 ⟨b1,x1,rfl,u1,rfl,o1⟩;obtain ⟨y1,z1,rfl,_,_⟩:=Rf o1;have HB1:=lH (Bt HB0.o b1);clear b1 o1))
    go_ret3
    exact qQc.no HR.o HB1.o
def rdChg:World->List Value->Chg->Prop:=fun _ cs x=>cs=[.int .i64 x.kind,.int .i64 x.node,.int .i64 x.dest,.int .i64 x.before,.string ⟨x.name.toArray⟩,.string ⟨x.value.toArray⟩]
theorem qHi:qHs rdChg:=fun _ _ _ _ h=>h
abbrev qHk (n:Nat) (w:World) (v:Value) (l:List Chg):Prop:=qQb 6 rdChg (·<n) w v l
theorem zZg {m:Nat} {w:World} {b o len cap:Nat} {l:List Chg} (h:qHk m w (.slice (some ⟨b,o,none⟩) len cap) l) (i:Nat) (hi:i<l.length) :
 w.cell? ⟨b,o+i*6,none⟩=some (.int .i64 l[i].kind)/\w.cell? ⟨b,o+i*6+1,none⟩=some (.int .i64 l[i].node)/\w.cell? ⟨b,o+i*6+2,none⟩=some (.int .i64 l[i].dest)/\w.cell? ⟨b,o+i*6+3,none⟩=some (.int .i64 l[i].before) /\
 w.cell? ⟨b,o+i*6+4,none⟩=some (.string ⟨l[i].name.toArray⟩)/\w.cell? ⟨b,o+i*6+5,none⟩=some (.string ⟨l[i].value.toArray⟩):=by
 obtain ⟨b',off',cap',cs,h1,_,h2,h3,h4⟩:=qQb.elem h i hi
 simp at h1
 obtain ⟨⟨rfl,rfl⟩,_,_⟩:=h1
 cases h4
 exact ⟨by simpa using h3.at 0 (by simp),by simpa using h3.at 1 (by simp),by simpa using h3.at 2 (by simp),by simpa using h3.at 3 (by simp),by simpa using h3.at 4 (by simp),by simpa using h3.at 5 (by simp)⟩
theorem root_at (w:World) (g:Nat) (hg:g=w.heap.size):qQq (g+1) (w.alloc (.cells #[.bool true,.string ⟨#[109,97,105,110]⟩,.string ⟨#[]⟩,.slice none 0 0,.int .i64 (-1),.slice none 0 0,.bool false,.slice none 0 0,.bool false] 65)) (.slice (some ⟨g,0,none⟩) 1 1) rootD:=by
 have hb:=Blk.new' w g hg #[.bool true,.string ⟨#[109,97,105,110]⟩,.string ⟨#[]⟩,.slice none 0 0,.int .i64 (-1),.slice none 0 0,.bool false,.slice none 0 0,.bool false] 65
 refine .inr ⟨g,0,1,rfl,by decide,by omega,fun i hi=>?_⟩
 obtain rfl:i=0:=by simp [rootD] at hi;exact hi
 refine ⟨by omega,_,?_,fun j u hu=>?_,⟨.slice none 0 0,.slice none 0 0,.slice none 0 0,rfl,qQb.nil,qQb.nil,qQb.nil⟩⟩
 ·rfl
 ·rw [hb.cell]
  simpa [rootD,mainT] using hu
theorem qV5 (m:Nat) (v:Value) (l:List Chg) (w:World) (hv:qHk m w v l) (hm:m<=w.heap.size) (hl:∀ x∈l,x.name.length<=9223372036854775807/\x.value.length<=9223372036854775807) :
 Calls Tryz.prog 16 #[v] w (Rn w fun w' y=>qQq w'.heap.size w' y (qZq l)):=by
 obtain ⟨va,vc,rfl,v1,v2⟩:=Rf hv
 have HV:=lH hv
 have HL:=lH hl
 clear hv hl
 have hr0:=root_at w w.heap.size rfl
 have hB0:Bel w (w.alloc (.cells #[.bool true,.string ⟨#[109,97,105,110]⟩,.string ⟨#[]⟩,.slice none 0 0,.int .i64 (-1),.slice none 0 0,.bool false,.slice none 0 0,.bool false] 65)):=(Br w).alloc _
 have HR0:=lH hr0
 have HB0:=lH hB0
 clear hr0 hB0
 go_enter Tryz.func16,Tryz.ntmps16
 go_wp2
 go_loopw [13,3] (fun i o wr=>∃ (j:Nat),j<=l.length/\i=.int .i64 j/\qQq wr.heap.size wr o (qZq (l.take j))/\Bel w wr) (fun i _ _=>l.length - (intOf i).toNat)
 case atStart=>exact ⟨0,by omega,rfl,(by have:=HR0.o;simpa [qZq] using this),HB0.o⟩
 case round=>
  obtain ⟨j,hj,rfl,hD,hB⟩:=hrel
  have hR:=qQb.later HV.o qHi hB hm
  by_cases hlt:j<l.length
  ·obtain ⟨_,_,_,_,e1,_,_,_,_⟩:=qQb.elem hR j hlt
   simp at e1
   obtain ⟨rfl,rfl⟩:=e1
   obtain ⟨c0,c1,c2,c3,c4,c5⟩:=zZg hR j hlt
   have hst:Hi (qZq (l.take (j+1))=qZ9 (qZq (l.take j)) l[j]):=lH (by unfold qZq;rw [Zk hlt,List.foldl_append];rfl)
   have hgood:=qWx (l.take j)
   obtain ⟨hn1,hn2⟩:=HL.o _ (Zl hlt)
   clear hR
   generalize l[j]=x at *
   generalize qZq (l.take j)=D at *
   have hBx:Bel wr (wr.alloc (.cells #[.int .i64 x.kind,.int .i64 x.node,.int .i64 x.dest,.int .i64 x.before,.string ⟨x.name.toArray⟩,.string ⟨x.value.toArray⟩] 40)):=(Br wr).alloc _
   have cA:=lH (qKu wr.heap.size _ D x _ (hD.later hBx (Zb _)) hBx.size hgood hn1 hn2)
   have HBX:=lH (Bt hB hBx)
   have HDX:=lH ((hD.later hBx (Zb _)).raise hBx.size)
   obtain ⟨oa,oc,rfl,o1,o2⟩:=Rf hD
   unfold chgV at cA
   clear hD hB hBx
   have hstep:qZ9 D x=if (qQ1 D x).1=0 then (qQ1 D x).2.2 else D:=rfl
   rw [hstep] at hst
   clear hstep
   generalize qQ1 D x=r at *
   obtain ⟨e,n,D2⟩:=r
   simp only at hst
   by_cases he:e=0
   ·rw [if_pos he] at hst
    subst he
    go_wp2_with (go_at_call 22;refine cA.o.mono ?_;rintro e w1 ⟨b1,x1,rfl,u1,rfl,o1⟩;obtain ⟨y1,z1,rfl,_,_⟩:=Rf o1;have HB1:=lH (Bt HBX.o b1);have HD1:=lH o1;clear b1 o1)
    go_roundw
    case rel=>exact ⟨j+1,by omega,by go_num,by rw [hst.o];exact HD1.o,HB1.o⟩
    case measure=>simp [intOf];omega
   ·rw [if_neg he] at hst
    have hne:(e==0)=false:=by simpa using he
    go_wp2_with (go_at_call 22;refine cA.o.mono ?_;rintro e w1 ⟨b1,x1,rfl,u1,rfl,o1⟩;obtain ⟨y1,z1,rfl,_,_⟩:=Rf o1;have HB1:=lH (Bt HBX.o b1);have HD1:=lH ((HDX.o.later b1 (Zb _)).raise b1.size);clear b1 o1)
    go_roundw
    case rel=>exact ⟨j+1,by omega,by go_num,by rw [hst.o];exact HD1.o,HB1.o⟩
    case measure=>simp [intOf];omega
  ·have HR:Hi (qZq (l.take j)=qZq l):=lH (by rw [Zn (by omega)])
   rw [HR.o] at hD
   obtain ⟨oa,oc,rfl,o1,o2⟩:=Rf hD
   have HD:=lH hD
   have HB:=lH hB
   clear hR hD hB
   go_wp2
   go_ret
   exact ⟨HB.o,_,rfl,HD.o⟩
end Go.Proofs.YtklbmkaomojciaaGreat

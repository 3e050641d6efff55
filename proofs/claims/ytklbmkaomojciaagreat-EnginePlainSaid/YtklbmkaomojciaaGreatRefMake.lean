/- A new node: the document's answer, walked. -/
import Derived.Test.YtklbmkaomojciaaGreatRefPutW
import Derived.OwnWalk
set_option maxRecDepth 100000
set_option maxHeartbeats 4000000
namespace Go.Proofs.YtklbmkaomojciaaGreat
open Go.RowKit
theorem free_eq {d:Dc} {j:Nat} (hj:j<=d.length) (h1:∀ q (h:q<d.length),q<j->d[q].live=true) (h2:∀ h:j<d.length,d[j].live=false):qZi d=j:=by
 unfold qZi
 rcases Nat.lt_or_ge j d.length with h | h
 ·rw [List.findIdx_eq h]
  exact ⟨by simp [h2 h],fun q hq=>by simp [h1 q (by omega) hq]⟩
 ·obtain rfl:j=d.length:=by omega
  rw [List.findIdx_eq_length]
  intro x hx
  obtain ⟨q,hq,rfl⟩:=List.getElem_of_mem hx
  simp [h1 q hq hq]
theorem qDm {d:Dc} {x:Nd} {t before:Int} {sh:Bool} (h:60<=qZi d):qZd d x t before sh=(5,0,[]):=by unfold qZd;rw [if_pos h]
theorem zQq {d:Dc} {x:Nd} {t before:Int} {sh:Bool} (h:qZi d<60):qZd d x t before sh=((putM (qQn d (qZi d) { x with live:=true,up:=t,inS:=sh }) (qZi d) t before sh).1,(qZi d:Int),(putM (qQn d (qZi d) { x with live:=true,up:=t,inS:=sh }) (qZi d) t before sh).2):=by
 unfold qZd;rw [if_neg (by omega)]
theorem qZ3 (m:Nat) (v:Value) (d:Dc) (x:Nd) (av kv sv:Value) (t before:Int) (sh:Bool) (w:World) (hv:qQq m w v d) (hm:m<=w.heap.size) (hd:d.length<=900)
 (hA:qZy m w av x.attrs) (hK:qQ6 m w kv x.kids) (hS:qQ6 m w sv x.shadow)
 (ht:isM (qQn d (qZi d) { x with live:=true,up:=t,inS:=sh }) t false=true) (hlen:(listM (nd (qQn d (qZi d) { x with live:=true,up:=t,inS:=sh }) t) sh).length<=12)
 (hg:(listM (nd (qQn d (qZi d) { x with live:=true,up:=t,inS:=sh }) t) sh).length<12->qV4 (putD (qQn d (qZi d) { x with live:=true,up:=t,inS:=sh }) (qZi d) t before sh) 100 (qZi d)) :
 Calls Tryz.prog 117 #[v,ndV x av kv sv,.int .i64 t,.int .i64 before,.bool sh] w (Rn w fun w' y=>∃ u,y=.tuple #[u,.int .i64 (qZd d x t before sh).2.1,.int .i64 (qZd d x t before sh).1]/\qQq w'.heap.size w' u (qZd d x t before sh).2.2):=by
 obtain ⟨va,vc,rfl,v1,v2⟩:=Rf hv
 obtain ⟨aa,ac,rfl,a1,a2⟩:=Rf hA
 obtain ⟨ka,kc,rfl,k1,k2⟩:=Rf hK
 obtain ⟨sa,sc,rfl,s1,s2⟩:=Rf hS
 have HV:=lH hv
 have HA:=lH hA
 have HK:=lH hK
 have HS:=lH hS
 have HT:=lH ht
 have HLN:=lH hlen
 have HG:=lH hg
 clear hv hA hK hS ht hlen hg
 unfold ndV
 go_enter Tryz.func117,Tryz.ntmps117
 go_wp2
 go_loop [13] (fun i=>∃ j:Nat,j<=d.length/\i=.int .i64 j/\∀ q (h:q<d.length),q<j->d[q].live=true) (fun i=>d.length - (intOf i).toNat)
 case atStart=>exact ⟨0,by omega,rfl,by intro q h h2;omega⟩
 case round=>
  obtain ⟨j,hj,rfl,hF⟩:=hrel
  have HF:=lH hF
  clear hF
  have hB0:Bel w (w.alloc (.cells #[.bool x.live,.string ⟨x.tag.toArray⟩,.string ⟨x.text.toArray⟩,.slice aa x.attrs.length ac,.int .i64 x.up,.slice ka x.kids.length kc,.bool x.hasS,.slice sa x.shadow.length sc,.bool x.inS] 65)):=(Br w).alloc _
  have hcase:(∃ h:j<d.length,d[j].live=true)∨(∀ h:j<d.length,d[j].live=false):=by
   by_cases h:j<d.length
   ·cases hl:d[j].live with
    | true=>exact .inl ⟨h,hl⟩
    | false=>exact .inr (fun _=>hl)
   ·exact .inr (fun h'=>absurd h' h)
  rcases hcase with ⟨hlt,hl⟩ | hl
  ·obtain ⟨b,off,cap',av,kv,sv,e1,-,-,hbb,hN⟩:=HV.o.node j hlt
   simp at e1
   obtain ⟨rfl,rfl⟩:=e1
   have c1:=(Bel.cells hB0 _ _ (by omega)).trans hN.live
   rw [hl] at c1
   clear hN hB0
   have HL:=lH hl
   clear hl
   go_wp2
   go_round
   case rel=>exact ⟨j+1,by omega,by go_num,fun q h hq=>by
    by_cases e:q=j
    ·subst e;exact HL.o
    ·exact HF.o q h (by omega)⟩
   case measure=>simp [intOf];omega
  ·have HE:=lH (free_eq hj HF.o hl)
   have c1:∀ h:j<d.length,∃ b off,Value.slice va d.length vc=.slice (some ⟨b,off,none⟩) d.length vc/\(w.alloc (.cells #[.bool x.live,.string ⟨x.tag.toArray⟩,.string ⟨x.text.toArray⟩,.slice aa x.attrs.length ac,.int .i64 x.up,.slice ka x.kids.length kc,.bool x.hasS,.slice sa x.shadow.length sc,.bool x.inS] 65)).cell? ⟨b,off+j*9,none⟩=some (.bool false):=by
    intro h
    obtain ⟨b,off,cap',av,kv,sv,e1,-,-,hbb,hN⟩:=HV.o.node j h
    simp at e1
    obtain ⟨e1,e2⟩:=e1
    refine ⟨b,off,by rw [e1],(Bel.cells hB0 _ _ (by omega)).trans ?_⟩
    rw [hN.live,hl h]
   have HB0:=lH hB0
   have HSB:∃ sb,Hi (sb=sh):=⟨sh,lH rfl⟩
   clear hl hB0
   by_cases h60:60<=j
   ·have HR:=lH (qDm (x:=x) (t:=t) (before:=before) (sh:=sh) (by rw [HE.o];exact h60))
    by_cases hlt:j<d.length
    ·obtain ⟨b,off,e1,c1⟩:=c1 hlt
     simp at e1
     obtain rfl:=e1
     go_wp2
     go_ret3
     exact ⟨HB0.o,_,rfl,_,by rw [HR.o];rfl,by rw [HR.o];exact qQb.nil⟩
    ·clear c1
     go_wp2
     go_ret3
     exact ⟨HB0.o,_,rfl,_,by rw [HR.o];rfl,by rw [HR.o];exact qQb.nil⟩
   ·have HR:=lH (zQq (x:=x) (t:=t) (before:=before) (sh:=sh) (by rw [HE.o];omega))
    rw [HE.o] at HR HT HLN HG
    have hBX:Bel w (w.alloc (.cells #[.bool true,.string ⟨x.tag.toArray⟩,.string ⟨x.text.toArray⟩,.slice aa x.attrs.length ac,.int .i64 t,.slice ka x.kids.length kc,.bool x.hasS,.slice sa x.shadow.length sc,.bool sh] 65)):=(Br w).alloc _
    have hx1:({ x with live:=true,up:=t,inS:=sh }:Nd).attrs=x.attrs:=rfl
    have cW:=lH (qQw m _ d j { x with live:=true,up:=t,inS:=sh } _ _ _ _ (HV.o.later hBX hm) (Za hm hBX.size) (by omega) hj (qQb.later HA.o qQh hBX hm) (qQb.later HK.o qQd hBX hm) (qQb.later HS.o qQd hBX hm))
    have hlen1:(qQn d j { x with live:=true,up:=t,inS:=sh }).length<=1000:=by rw [qQ8];split <;> omega
    have HBX:=lH hBX
    clear hBX hx1
    generalize hD:qQn d j { x with live:=true,up:=t,inS:=sh }=D at *
    by_cases hlt:j<d.length
    ·obtain ⟨b,off,e1,c1⟩:=c1 hlt
     simp at e1
     obtain rfl:=e1
     go_wp2_with (first
 | (go_at_call 114;refine cW.o.mono ?_;rintro e w4 ⟨b4,x4,rfl,o4⟩;obtain ⟨y4,z4,rfl,_,_⟩:=Rf o4;have HB4:=lH (Bt HBX.o b4);have cP:=lH (qJ9 w4.heap.size _ D j t before sh w4 o4 (Zb _) hlen1 HT.o HLN.o HG.o);clear b4 o4)
 | (go_at_call 113;refine cP.o.mono ?_;rintro e w5 ⟨b5,x5,rfl,u5,rfl,o5⟩;obtain ⟨y5,z5,rfl,_,_⟩:=Rf o5;have HB5:=lH (Bt HB4.o b5);have HD5:=lH o5;clear b5 o5))
     go_ret3
     exact ⟨HB5.o,_,rfl,_,by rw [HR.o];rfl,by rw [HR.o];exact HD5.o⟩
    ·clear c1
     go_wp2_with (first
 | (go_at_call 114;refine cW.o.mono ?_;rintro e w4 ⟨b4,x4,rfl,o4⟩;obtain ⟨y4,z4,rfl,_,_⟩:=Rf o4;have HB4:=lH (Bt HBX.o b4);have cP:=lH (qJ9 w4.heap.size _ D j t before sh w4 o4 (Zb _) hlen1 HT.o HLN.o HG.o);clear b4 o4)
 | (go_at_call 113;refine cP.o.mono ?_;rintro e w5 ⟨b5,x5,rfl,u5,rfl,o5⟩;obtain ⟨y5,z5,rfl,_,_⟩:=Rf o5;have HB5:=lH (Bt HB4.o b5);have HD5:=lH o5;clear b5 o5))
     go_ret3
     exact ⟨HB5.o,_,rfl,_,by rw [HR.o];rfl,by rw [HR.o];exact HD5.o⟩
end Go.Proofs.YtklbmkaomojciaaGreat

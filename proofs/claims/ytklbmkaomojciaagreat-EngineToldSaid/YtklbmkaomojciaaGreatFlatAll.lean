/- Slots, what is given, what is shown: walked. -/
import Derived.Test.YtklbmkaomojciaaGreatIntsFunc
import Derived.Deep.RegionHeld
set_option maxRecDepth 100000
set_option maxHeartbeats 2000000
namespace Go.Proofs.YtklbmkaomojciaaGreat
open Go.RowKit
theorem qWo {d:Dc} (g:Good d):d.length<=1000000000:=Za g.len (by omega)
theorem qW8 (m:Nat) (v:Value) (d:Dc) (n:Int) (w:World) (hv:qZb m w v d) (hm:m<=w.heap.size) (g:Good d) (h:isM d n false=true) :
 Calls Tryz.prog 137 #[v,.int .i64 n] w (Rn w fun w' x=>qQb 1 qQf w.heap.size 3 w' x (allM d n)):=by
 obtain ⟨r,gr⟩:=g.tree
 exact qV2 100 m v d n w hv hm (grows gr 100 _ h (by omega)).ends (Za (zZh gr h) (qWo g))
theorem qG6 {d:Dc} (g:Good d):(nd d 0).up = -1:=by obtain ⟨r,gr⟩:=g.tree;exact gr.root.2.2.1
theorem zX0 {d:Dc} (g:Good d) {n x:Int} (h:isM d n false=true) (hx:x∈allM d n):isM d x false=true:=by obtain ⟨r,gr⟩:=g.tree;exact qBa gr h hx
theorem qV9 {d:Dc} (g:Good d) {n:Int} (h:isM d n false=true):(allM d n).length<=60:=by obtain ⟨r,gr⟩:=g.tree;exact Za (zZh gr h) g.len
theorem qW1 (m:Nat) (v:Value) (d:Dc) (n:Int) (w:World) (hv:qZb m w v d) (hm:m<=w.heap.size) (g:Good d) :
 Calls Tryz.prog 145 #[v,.int .i64 n] w (Rb (.int .i64 (slotR d n)) w):=by
 have hP:slotR d n=qHv d n:=by obtain ⟨r,gr⟩:=g.tree;exact (slotP_eq gr n).symm
 rw [hP]
 clear hP
 have cI:=lH (qQ6 m _ d n false w hv)
 cases hi:isM d n false with
 | false=>
   rw [hi] at cI
   have hr:qHv d n = -1:=by unfold qHv;rw [if_pos (by simp [hi])]
   rw [hr]
   obtain ⟨va,vc,rfl,v1,v2⟩:=Rf hv
   go_enter Tryz.func145,Tryz.ntmps145
   go_wp2_with (go_at_call 56;refine cI.o.mono ?_;rintro e w1 ⟨rfl,rfl⟩)
   go_ret
   exact ⟨rfl,Br _⟩
 | true=>
   rw [hi] at cI
   obtain ⟨p,hp,rfl,-⟩:=qQz.1 hi
   obtain ⟨b,off,cap',av,kv,sv,rfl,v1,v2,hbb,hN⟩:=hv.node p hp
   have c4:=hN.up
   have c8:=hN.inS
   have hnd:=qQ2 hp
   have R1:Hi (d[p].up<0->qHv d p = -1):=lH (fun h=>by unfold qHv;rw [hnd,if_pos (by simp [h])])
   have R2:Hi (d[p].inS=true->qHv d p = -1):=lH (fun h=>by unfold qHv;rw [hnd,if_pos (by simp [h])])
   have R3:Hi ((nd d d[p].up).hasS=false->qHv d p = -1):=lH (fun h=>by unfold qHv;rw [hnd,if_pos (by simp [h])])
   have R4:Hi (¬ d[p].up<0->d[p].inS=false->(nd d d[p].up).hasS=true->qHv d p=((allM d d[p].up).find? (fun k=>qXg d d[p].up (said d p qJt) k&&decide (k≠d[p].up))).getD (-1)):=lH (fun h1 h2 h3=>by
    unfold qHv;rw [hnd,if_neg (by simp [h2,h3,hi];omega)])
   have hup:Hi (¬ d[p].up<0->isM d d[p].up false=true):=lH (fun h=>by
    have:=zZ5 g hi (by intro e;have e2:=qG6 g;rw [<- e,hnd] at e2;omega)
    rwa [hnd] at this)
   have HV:=lH hv
   clear hN hnd hi hv
   generalize d[p].up=u at *
   generalize d[p].inS=ins at *
   by_cases hu:u<0
   ·have hr:=R1.o hu
    rw [hr]
    clear R1 R2 R3 R4 hr hup
    go_enter Tryz.func145,Tryz.ntmps145
    go_wp2_with (go_at_call 56;refine cI.o.mono ?_;rintro e w1 ⟨rfl,rfl⟩)
    go_ret
    exact ⟨rfl,Br _⟩
   have hupI:=hup.o hu
   clear hup R1
   cases ins with
   | true=>
     have hr:=R2.o rfl
     rw [hr]
     clear R2 R3 R4 hr hupI
     go_enter Tryz.func145,Tryz.ntmps145
     go_wp2_with (go_at_call 56;refine cI.o.mono ?_;rintro e w1 ⟨rfl,rfl⟩)
     go_ret
     exact ⟨rfl,Br _⟩
   | false=>
     clear R2
     have HUI:=lH hupI
     obtain ⟨q,hq,rfl,-⟩:=qQz.1 hupI
     obtain ⟨_,_,_,_,_,_,e2,-,-,-,hQ⟩:=HV.o.node q hq
     simp at e2
     obtain ⟨⟨rfl,rfl⟩,rfl⟩:=e2
     have q6:=hQ.hasS
     rw [qQ2 hq] at R3 R4
     clear hQ hupI
     generalize d[q].hasS=hs at *
     cases hs with
     | false=>
       have hr:=R3.o rfl
       rw [hr]
       clear R3 R4 hr
       go_enter Tryz.func145,Tryz.ntmps145
       go_wp2_with (go_at_call 56;refine cI.o.mono ?_;rintro e w1 ⟨rfl,rfl⟩)
       go_ret
       exact ⟨rfl,Br _⟩
     | true=>
       have hr:=R4.o hu rfl rfl
       rw [hr]
       clear R3 R4 hr
       have cA:=lH (qZo m _ d p qJt w HV.o hm)
       have cL:Hi (∀ W,Bel w W->Calls Tryz.prog 137 #[.slice (some ⟨b,off,none⟩) d.length cap',.int .i64 (q:Int)] W (Rn W fun w' x=>qQb 1 qQf W.heap.size 3 w' x (allM d q))):=lH (fun W h=>
        qW8 m _ d q W (HV.o.later h hm) (Za hm h.size) g HUI.o)
       have HALL:Hi (∀ x∈allM d (q:Int),isM d x false=true):=lH (fun x hx=>zX0 g HUI.o hx)
       have hLl:=qV9 g HUI.o
       have hgl:=qWo g
       have hse:(qKo d (p:Int) qJt).getD []=said d p qJt:=rfl
       rw [hse] at cA
       clear hse
       generalize said d p qJt=want at *
       generalize (qKo d (p:Int) qJt).isSome=okk at *
       generalize hLe:allM d (q:Int)=L at *
       clear hLe HUI
       go_enter Tryz.func145,Tryz.ntmps145
       go_wp2_with (first
 | (go_at_call 56;refine cI.o.mono ?_;rintro e w1 ⟨rfl,rfl⟩)
 | (go_at_call 76;refine qKb cA.o fun w1 HB1=>?_)
 | (go_at_call 137;refine (cL.o _ HB1.o).mono ?_;rintro e w2 ⟨b2,y2,rfl,o2⟩;have HL:=lH o2.read;have HB2:=lH (Bt HB1.o b2);obtain ⟨la,lc,rfl,l1,l2⟩:=Rf o2.read;clear b2 o2))
       go_loopw [58] (fun z wr=>∃ j:Nat,j<=L.length/\z=.int .i64 j/\(L.take j).find? (fun k=>qXg d q want k&&decide (k≠(q:Int)))=none/\Bel w2 wr) (fun z _=>L.length - (intOf z).toNat)
       case atStart=>exact ⟨0,by omega,rfl,rfl,Br _⟩
       case round=>
        obtain ⟨j,hj,rfl,hF,hB⟩:=hrel
        have HF:=lH hF
        have HB:=lH (Bt HB2.o hB)
        have HBW:=lH hB
        have HR:=lH (qQa.later HL.o qQc hB (Zb _))
        have hvr:=HV.o.later HB.o hm
        have hmr:=Za hm HB.o.size
        clear hF hB
        by_cases hlt:j<L.length
        ·obtain ⟨_,_,_,_,e1,_,_,_,_⟩:=qQa.elem HR.o j hlt
         simp at e1
         obtain ⟨rfl,rfl⟩:=e1
         have cx:=HR.o.int_cell j hlt
         have hkI:=HALL.o _ (Zl hlt)
         have HN:=lH (fun h=>qDj HF.o hlt h)
         have HH:=lH (fun h=>zZ4 HF.o hlt h)
         clear HR
         generalize L[j]=k at *
         obtain ⟨kk,hkk,rfl,-⟩:=qQz.1 hkI
         obtain ⟨_,_,_,_,_,_,e2,-,-,-,hK⟩:=hvr.node kk hkk
         simp at e2
         obtain ⟨⟨rfl,rfl⟩,rfl⟩:=e2
         have k1:=hK.tag
         have hkn:=qQ2 hkk
         have cS:=lH (qK2 m _ d (kk:Int) wr hvr hgl)
         have cN:=lH (qZo m _ d (kk:Int) nameT wr hvr hmr)
         have hse:(qKo d (kk:Int) nameT).getD []=said d kk nameT:=rfl
         rw [hse] at cN
         have hOk:qXg d q want (kk:Int)=(decide (d[kk].tag=qJt)&&decide (qQ1 d kk=q)&&decide (said d kk nameT=want)):=by unfold qXg;rw [hkn]
         simp only [hOk] at HN HH
         clear hK hvr hmr hse hkI hkn hOk
         generalize d[kk].tag=tg at *
         generalize qQ1 d (kk:Int)=sc at *
         generalize said d (kk:Int) nameT=nm at *
         generalize (qKo d (kk:Int) nameT).isSome=ok2 at *
         by_cases ht:tg=qJt
         ·have hb:(tg==[115,108,111,116])=true:=by rw [ht];rfl
          by_cases hsc:sc=(q:Int)
          ·have hb2:(sc != (q:Int))=false:=by simpa using hsc
           by_cases hkq:kk=q
           ·have hb3:((kk:Int)==(q:Int))=true:=by simp [hkq]
            have HF2:=lH (HN.o (by simp [hkq]))
            clear HN HH ht hsc hkq
            go_wp2_with (first
 | (go_at_call 151;refine cS.o.mono ?_;rintro e w3 ⟨rfl,rfl⟩))
            go_roundw
            case rel=>exact ⟨j+1,by omega,by go_num,HF2.o,HBW.o⟩
            case measure=>simp [intOf];omega
           ·have hb3:((kk:Int)==(q:Int))=false:=by simp;omega
            by_cases hnm:nm=want
            ·have hb4:(nm==want)=true:=by simpa using hnm
             have HF2:=lH (HH.o (by simp [ht,hsc,hnm];omega))
             clear HN HH ht hsc hkq hnm
             go_wp2_with (first
 | (go_at_call 151;refine cS.o.mono ?_;rintro e w3 ⟨rfl,rfl⟩)
 | (go_at_call 76;refine qQe cN.o HB fun w4 HB4=>?_))
             go_ret
             exact ⟨qQr (by rw [HF2.o];rfl),HB4.o⟩
            ·have hb4:(nm==want)=false:=by simpa using hnm
             have HF2:=lH (HN.o (by simp [hnm]))
             clear HN HH ht hsc hkq hnm
             go_wp2_with (first
 | (go_at_call 151;refine cS.o.mono ?_;rintro e w3 ⟨rfl,rfl⟩)
 | (go_at_call 76;refine qQe cN.o HBW fun w4 HB4=>?_))
             go_roundw
             case rel=>exact ⟨j+1,by omega,by go_num,HF2.o,HB4.o⟩
             case measure=>simp [intOf];omega
          ·have hb2:(sc != (q:Int))=true:=by simpa using hsc
           have HF2:=lH (HN.o (by simp [hsc]))
           clear HN HH ht hsc
           go_wp2_with (first
 | (go_at_call 151;refine cS.o.mono ?_;rintro e w3 ⟨rfl,rfl⟩))
           go_roundw
           case rel=>exact ⟨j+1,by omega,by go_num,HF2.o,HBW.o⟩
           case measure=>simp [intOf];omega
         ·have hb:(tg==[115,108,111,116])=false:=by
           have:(tg==qJt)=false:=by simpa using ht
           exact this
          have HF2:=lH (HN.o (by simp [ht]))
          clear HN HH ht
          go_wp2
          go_roundw
          case rel=>exact ⟨j+1,by omega,by go_num,HF2.o,HBW.o⟩
          case measure=>simp [intOf];omega
        ·have HE:Hi (L.find? (fun k=>qXg d q want k&&decide (k≠(q:Int)))=none):=lH (by have:=HF.o;rwa [Zn (by omega)] at this)
         clear HR hvr
         go_wp2
         go_ret
         exact ⟨qQr (by rw [HE.o];rfl),HB.o⟩
theorem zWe {d:Dc} (g:Good d) {s:Int} (h:isM d s false=true):isM d (qQ1 d s) false=true:=by
 obtain ⟨r,gr⟩:=g.tree
 rcases qHx gr h with ⟨a,-⟩ | ⟨x,a,b,c,e,-⟩
 ·rw [a];exact gr.is0
 ·rw [e];exact gr.upIs a.top c (fun h=>h)
theorem qF0 {d:Dc} (g:Good d) (s:Int):(givenR d s).length<=12:=by
 unfold givenR
 split
 ·exact Za (List.length_filter_le _ _) (qK1 g _).1
 ·simp
theorem qDo {d:Dc} (g:Good d) (s:Int):(kidsR d s).length<=12:=by
 unfold kidsR
 split
 ·simp
 ·split
  ·exact (qK1 g _).2.1
  ·split
   ·exact (qK1 g _).1
   ·exact qF0 g s
theorem qGu (m:Nat) (v:Value) (d:Dc) (s k:Int) (g0 g1:Nat) (w:World) (hv:qZb m w v d) (hm:m<=w.heap.size) (g:Good d) (h0:w.cell? ⟨g0,0,none⟩=some v) (h1:w.cell? ⟨g1,0,none⟩=some (.int .i64 s)) :
 Calls Tryz.prog 188 #[.int .i64 k,.pointer (some ⟨g0,0,none⟩),.pointer (some ⟨g1,0,none⟩)] w (Rb (.bool (slotR d k != s)) w):=by
 obtain ⟨va,vc,rfl,v1,v2⟩:=Rf hv
 have cS:=lH (qW1 m _ d k w.drew hv hm g)
 have HS:Hi (∀ W,Bel w W->W.cell? ⟨g0,0,none⟩=some (.slice va d.length vc)/\W.cell? ⟨g1,0,none⟩=some (.int .i64 s)):=lH (fun W hW=>
  ⟨(Bel.cells hW _ _ (World.block_lt_of_cell? w _ h0)).trans h0,(Bel.cells hW _ _ (World.block_lt_of_cell? w _ h1)).trans h1⟩)
 clear hv
 generalize slotR d k=sl at *
 go_enter Tryz.func188,Tryz.ntmps188
 go_upto_region 1 with fail
 go_region_held (fun w'=>w'.cell? ⟨g0,0,none⟩=some (.slice va d.length vc)/\w'.cell? ⟨g1,0,none⟩=some (.int .i64 s)) (first | exact HS.o _ (Br w).drew | exact HS.o _ HB2.o) (first | (go_at_call 145;refine cS.o.mono ?_;rintro e w2 ⟨rfl,b2⟩;have HB2:=lH (Bt (Br w).drew b2);clear b2))
 all_goals
  go_wp2
  go_ret
  exact ⟨rfl,HB2.o⟩
theorem qWg (m:Nat) (v:Value) (d:Dc) (s:Int) (w:World) (hv:qZb m w v d) (hm:m<=w.heap.size) (g:Good d) :
 Calls Tryz.prog 146 #[v,.int .i64 s] w (Rn w fun w' y=>qQb 1 qQf w.heap.size 3 w' y (givenR d s)):=by
 obtain ⟨va,vc,rfl,v1,v2⟩:=Rf hv
 obtain ⟨W0,hW0⟩:∃ W0,W0=(w.alloc (.cells #[.slice va d.length vc] 24)).alloc (.cells #[.int .i64 s] 3):=⟨_,rfl⟩
 have hB0:Bel w W0:=by rw [hW0];exact ((Br w).alloc _).alloc _
 have hk0:Blk W0 w.heap.size [.slice va d.length vc] 24:=by rw [hW0];exact (Blk.new' w _ rfl _ _).bel ((Br _).alloc _)
 have hk1:Blk W0 (w.heap.size+1) [.int .i64 s] 3:=by rw [hW0];exact Blk.new' _ _ (by simp) _ _
 have hs0:W0.heap.size=w.heap.size+2:=by rw [hW0];simp
 have HV0:=lH (hv.later hB0 hm)
 have hm0:m<=W0.heap.size:=by omega
 have HB0:=lH hB0
 have HK0:=lH hk0
 have HK1:=lH hk1
 have x0:=hk0.cell 0
 have x1:=hk1.cell 0
 simp only [Zd] at x0 x1
 have cI:=lH (qQ6 m _ d s true W0 HV0.o)
 clear hB0 hk0 hk1 hv
 cases hi:isM d s true with
 | false=>
   rw [hi] at cI
   have hr:givenR d s=[]:=by unfold givenR qX5;rw [if_neg (by simp [hi])]
   rw [hr]
   go_enter Tryz.func146,Tryz.ntmps146
   go_upto_region 1 with fail
   rw [<- hW0]
   clear hW0
   go_wp2_with (go_at_call 56;refine cI.o.mono ?_;rintro e w1 ⟨rfl,rfl⟩)
   go_ret
   exact ⟨HB0.o,_,rfl,qQb.nil _ _ _⟩
 | true=>
   rw [hi] at cI
   obtain ⟨p,hp,rfl,-⟩:=qQz.1 (qZr hi)
   obtain ⟨b,off,cap',av,kv,sv,e1,-,-,hbb,hN⟩:=HV0.o.node p hp
   simp at e1
   obtain ⟨rfl,rfl⟩:=e1
   have c1:=hN.tag
   have hsl:qX5 d (p:Int)=decide (d[p].tag=qJt):=by unfold qX5;rw [hi,qQ2 hp];simp
   have hHI:=zWe g (qZr hi)
   have cS:=lH (qK2 m _ d (p:Int) W0 HV0.o (qWo g))
   have hWI:=fun h:qX5 d (p:Int)=true=>(show qXd d p (qQ1 d p)=true/\(p:Int)≠qQ1 d p from by obtain ⟨r,gr⟩:=g.tree;exact zV1 gr h)
   have hNH:=fun h:(nd d (qQ1 d (p:Int))).hasS=false=>(show givenR d (p:Int)=[] from by obtain ⟨r,gr⟩:=g.tree;exact zJs gr h)
   have HWI:=lH hWI
   have HNH:=lH hNH
   have HSL:=lH hsl
   clear hN hi hWI hNH hsl
   generalize d[p].tag=tg at *
   by_cases ht:tg=qJt
   ·have hb:(tg==[115,108,111,116])=true:=by rw [ht];rfl
    obtain ⟨hw1,hw2⟩:=HWI.o (by rw [HSL.o];simp [ht])
    have hr:givenR d (p:Int)=(nd d (qQ1 d p)).kids.filter (fun k=>!(slotR d k != (p:Int))):=by
     unfold givenR;rw [HSL.o,if_pos (by simp [ht])]
     refine List.filter_congr (fun k _=>?_)
     by_cases h:slotR d k=(p:Int) <;> simp [h]
    have HR0:=lH hr
    clear hr HSL HWI ht
    have cW:=lH (qV8 m _ d (p:Int) (qQ1 d p) W0 HV0.o (qWo g))
    rw [hw1] at cW
    generalize qQ1 d (p:Int)=h0 at *
    obtain ⟨q,hq,rfl,-⟩:=qQz.1 hHI
    have hpq:((p:Int)==(q:Int))=false:=by simpa using hw2
    clear hw1 hw2 hHI
    obtain ⟨_,_,_,_,_,_,e2,-,-,-,hQ⟩:=HV0.o.node q hq
    simp at e2
    obtain ⟨⟨rfl,rfl⟩,rfl⟩:=e2
    have q5:=hQ.kids
    have q6:=hQ.hasS
    have QK:=lH hQ.kidsAt
    have hKl:(nd d (q:Int)).kids.length<=12:=(qK1 g (q:Int)).1
    rw [qQ2 hq] at hKl HNH HR0
    clear hQ
    generalize d[q].kids=K at *
    generalize d[q].hasS=hs at *
    cases hs with
    | false=>
      rw [HNH.o rfl]
      clear HR0 HNH
      go_enter Tryz.func146,Tryz.ntmps146
      go_upto_region 1 with fail
      rw [<- hW0]
      clear hW0
      go_wp2_with (first
 | (go_at_call 56;refine cI.o.mono ?_;rintro e w1 ⟨rfl,rfl⟩)
 | (go_at_call 151;refine cS.o.mono ?_;rintro e w1 ⟨rfl,rfl⟩))
      go_ret
      exact ⟨HB0.o,_,rfl,qQb.nil _ _ _⟩
    | true=>
      rw [HR0.o]
      clear HR0 HNH
      have cC:=lH (qZq m _ K W0 QK.o hm0 (by omega))
      have hTells:∀ W,Bel W0 W->zHt 188 #[.pointer (some ⟨w.heap.size,0,none⟩),.pointer (some ⟨w.heap.size+1,0,none⟩)] (fun x=>slotR d x != (p:Int)) W0.heap.size W:=by
       intro W hW W' hW' x
       have hb':Bel W0 W':=Below.trans hW hW'
       exact qGu m _ d (p:Int) x w.heap.size (w.heap.size+1) W' (HV0.o.later hb' hm0) (Za hm0 hb'.size) g ((HK0.o.bel hb').cell 0) ((HK1.o.bel hb').cell 0)
      have eG:=enters_of (P:=Tryz.prog) Tryz.func188 (by kernel_rfl) rfl
      have cD:Hi (∀ W y,Bel W0 W->qQb 1 qQf W0.heap.size 3 W y K->Calls Tryz.prog 181 #[y,.func (.func 188) #[] #[.pointer (some ⟨w.heap.size,0,none⟩),.pointer (some ⟨w.heap.size+1,0,none⟩)]] W fun e w'=>Below W0.heap.size W w'/\∃ y,e=.returned y/\qQb 1 qQf W0.heap.size 3 w' y (K.filter (fun x=>!(slotR d x != (p:Int))))):=lH (fun W y hW hy=>
       qXh 188 _ (fun x=>slotR d x != (p:Int)) eG W0.heap.size y K W hy hW.size (by omega) (hTells W hW))
      clear hTells eG
      obtain ⟨ka,kc,rfl,k1,k2⟩:=Rf QK.o
      go_enter Tryz.func146,Tryz.ntmps146
      go_upto_region 1 with fail
      rw [<- hW0]
      clear hW0
      go_wp2_with (first
 | (go_at_call 56;refine cI.o.mono ?_;rintro e w1 ⟨rfl,rfl⟩)
 | (go_at_call 151;refine cS.o.mono ?_;rintro e w1 ⟨rfl,rfl⟩)
 | (go_at_call 178;refine cW.o.mono ?_;rintro e w1 ⟨rfl,rfl⟩)
 | (go_at_call 127;refine cC.o.mono ?_;rintro e w2 ⟨b2,y2,rfl,o2⟩;have HB2:=lH b2;have HO2:=lH o2;obtain ⟨ya,yc,rfl,_,_⟩:=Rf o2.read;clear b2 o2)
 | (go_at_call 181;refine (cD.o _ _ HB2.o HO2.o).mono ?_;rintro e w3 ⟨b3,y3,rfl,o3⟩;have HB3:=lH (Below.trans HB2.o b3);have HO3:=lH o3;clear b3 o3))
      go_ret
      exact ⟨Below.trans HB0.o (Below.mono HB3.o HB0.o.size),_,rfl,HO3.o.base_le HB0.o.size⟩
   ·have hb:(tg==[115,108,111,116])=false:=by
     have:(tg==qJt)=false:=by simpa using ht
     exact this
    have hr:givenR d (p:Int)=[]:=by unfold givenR;rw [HSL.o];simp [ht]
    rw [hr]
    clear hr HSL HWI HNH ht
    go_enter Tryz.func146,Tryz.ntmps146
    go_upto_region 1 with fail
    rw [<- hW0]
    clear hW0
    go_wp2_with (go_at_call 56;refine cI.o.mono ?_;rintro e w1 ⟨rfl,rfl⟩)
    go_ret
    exact ⟨HB0.o,_,rfl,qQb.nil _ _ _⟩
theorem qW7 (m:Nat) (v:Value) (d:Dc) (n:Int) (w:World) (hv:qZb m w v d) (hm:m<=w.heap.size) (g:Good d) :
 Calls Tryz.prog 170 #[v,.int .i64 n] w (Rn w fun w' y=>qQb 1 qQf w.heap.size 3 w' y (kidsR d n)):=by
 have cI:=lH (qQ6 m _ d n false w hv)
 cases hi:isM d n false with
 | false=>
   rw [hi] at cI
   have hr:kidsR d n=[]:=by unfold kidsR;rw [if_pos (by simp [hi])]
   rw [hr]
   obtain ⟨va,vc,rfl,v1,v2⟩:=Rf hv
   go_enter Tryz.func170,Tryz.ntmps170
   go_wp2_with (go_at_call 56;refine cI.o.mono ?_;rintro e w1 ⟨rfl,rfl⟩)
   go_ret
   exact ⟨Br _,_,rfl,qQb.nil _ _ _⟩
 | true=>
   rw [hi] at cI
   obtain ⟨p,hp,rfl,-⟩:=qQz.1 hi
   obtain ⟨b,off,cap',av,kv,sv,rfl,v1,v2,hbb,hN⟩:=hv.node p hp
   have c1:=hN.tag
   have c5:=hN.kids
   have c6:=hN.hasS
   have c7:=hN.shadow
   have hk:kidsR d p=if d[p].hasS then d[p].shadow else if (givenR d p).isEmpty then d[p].kids else givenR d p:=by unfold kidsR;rw [hi,qQ2 hp];rfl
   rw [hk]
   have HGE:Hi (d[p].tag≠qJt->givenR d p=[]):=lH (fun h=>by unfold givenR qX5;rw [qQ2 hp,if_neg (by simp [h])])
   have NK:=lH hN.kidsAt
   have NS:=lH hN.shadowAt
   have cG:=lH (qWg m _ d p w hv hm g)
   have hgl:=qF0 g p
   have hkl:(nd d (p:Int)).kids.length<=12:=(qK1 g _).1
   have hsl:(nd d (p:Int)).shadow.length<=12:=(qK1 g _).2.1
   rw [qQ2 hp] at hkl hsl
   clear hN hk hi hv
   generalize d[p].hasS=hs at *
   generalize d[p].tag=tg at *
   generalize d[p].shadow=S at *
   generalize d[p].kids=K at *
   generalize givenR d p=G at *
   have cCK:Hi (∀ W,Bel w W->Calls Tryz.prog 127 #[kv] W (Rn W fun w' y=>qQb 1 qQf W.heap.size 3 w' y K)):=lH (fun W h=>qZq m _ K W (qQa.later NK.o qQc h hm) (Za hm h.size) (by omega))
   have cCS:Hi (Calls Tryz.prog 127 #[sv] w (Rn w fun w' y=>qQb 1 qQf w.heap.size 3 w' y S)):=lH (qZq m _ S w NS.o hm (by omega))
   obtain ⟨ka,kc,rfl,k1,k2⟩:=Rf NK.o
   obtain ⟨sa,sc,rfl,s1,s2⟩:=Rf NS.o
   cases hs with
   | true=>
     go_enter Tryz.func170,Tryz.ntmps170
     go_wp2_with (first
 | (go_at_call 56;refine cI.o.mono ?_;rintro e w1 ⟨rfl,rfl⟩)
 | (go_at_call 127;refine cCS.o.mono ?_;rintro e w2 ⟨b2,y2,rfl,o2⟩;have HB2:=lH b2;have HO2:=lH o2;clear b2 o2))
     go_ret
     exact ⟨HB2.o,_,rfl,HO2.o⟩
   | false=>
     by_cases ht:tg=qJt
     ·have hb:(tg==[115,108,111,116])=true:=by rw [ht];rfl
      have c5':∀ W',Bel w W'->W'.cell? ⟨b,off+p*9+5,none⟩=some (.slice ka K.length kc):=fun W' hW=>(Bel.cells hW _ _ (by omega)).trans c5
      have HC5:=lH c5'
      clear c5 c5' ht HGE
      by_cases hG:G=[]
      ·subst hG
       go_enter Tryz.func170,Tryz.ntmps170
       go_wp2_with (first
 | (go_at_call 56;refine cI.o.mono ?_;rintro e w1 ⟨rfl,rfl⟩)
 | (go_at_call 146;refine cG.o.mono ?_;rintro e w2 ⟨b2,y2,rfl,o2⟩;obtain ⟨ga,gc,rfl,_,_⟩:=Rf o2.read;have c5:=HC5.o _ b2;have HB2:=lH b2;clear b2 o2)
 | (go_at_call 127;refine (cCK.o _ HB2.o).mono ?_;rintro e w3 ⟨b3,y3,rfl,o3⟩;have HB3:=lH (Bt HB2.o b3);have HO3:=lH o3;clear b3 o3))
       go_ret
       exact ⟨HB3.o,_,rfl,HO3.o.base_le HB2.o.size⟩
      ·have hG2:G.isEmpty=false:=by simpa using hG
       have hG3:0<G.length:=by
        cases G with
        | nil=>exact absurd rfl hG
        | cons a l=>simp
       rw [hG2]
       go_enter Tryz.func170,Tryz.ntmps170
       go_wp2_with (first
 | (go_at_call 56;refine cI.o.mono ?_;rintro e w1 ⟨rfl,rfl⟩)
 | (go_at_call 146;refine cG.o.mono ?_;rintro e w2 ⟨b2,y2,rfl,o2⟩;obtain ⟨ga,gc,rfl,_,_⟩:=Rf o2.read;have HO2:=lH o2;have HB2:=lH b2;clear b2 o2))
       go_ret
       exact ⟨HB2.o,_,rfl,HO2.o⟩
     ·have hb:(tg==[115,108,111,116])=false:=by
       have:(tg==qJt)=false:=by simpa using ht
       exact this
      have hG:=HGE.o ht
      subst hG
      clear HGE ht cG
      go_enter Tryz.func170,Tryz.ntmps170
      go_wp2_with (first
 | (go_at_call 56;refine cI.o.mono ?_;rintro e w1 ⟨rfl,rfl⟩)
 | (go_at_call 127;refine (cCK.o _ (Br _)).mono ?_;rintro e w3 ⟨b3,y3,rfl,o3⟩;have HB3:=lH b3;have HO3:=lH o3;clear b3 o3))
      go_ret
      exact ⟨HB3.o,_,rfl,HO3.o⟩
theorem qYf (m:Nat) (v:Value) (d:Dc) (n:Int) (w:World) (hv:qZb m w v d) (hm:m<=w.heap.size) (g:Good d) :
 Calls Tryz.prog 97 #[v,.int .i64 n] w (Rb (.int .i64 (upR d n)) w):=by
 have hP:upR d n=upP d n:=by obtain ⟨r,gr⟩:=g.tree;exact qGa gr n
 rw [hP]
 clear hP
 have cI:=lH (qQ6 m _ d n false w hv)
 cases hi:isM d n false with
 | false=>
   rw [hi] at cI
   have hr:upP d n = -1:=by unfold upP;rw [if_pos (by simp [hi])]
   rw [hr]
   obtain ⟨va,vc,rfl,v1,v2⟩:=Rf hv
   go_enter Tryz.func97,Tryz.ntmps97
   go_wp2_with (go_at_call 56;refine cI.o.mono ?_;rintro e w1 ⟨rfl,rfl⟩)
   go_ret
   exact ⟨rfl,Br _⟩
 | true=>
   rw [hi] at cI
   obtain ⟨p,hp,rfl,-⟩:=qQz.1 hi
   obtain ⟨b,off,cap',av,kv,sv,rfl,v1,v2,hbb,hN⟩:=hv.node p hp
   have c4:=hN.up
   have c8:=hN.inS
   have hnd:=qQ2 hp
   have hup:Hi (¬ d[p].up<0->isM d d[p].up false=true):=lH (fun h=>by
    have:=zZ5 g hi (by intro e;have e2:=qG6 g;rw [<- e,hnd] at e2;omega)
    rwa [hnd] at this)
   have hU:Hi (upP d p=if d[p].up<0 then -1 else if d[p].inS then d[p].up else if (nd d d[p].up).hasS then slotR d p else if decide ((nd d d[p].up).tag=qJt)&&!(givenR d d[p].up).isEmpty then -1 else d[p].up):=lH (by
    unfold upP;rw [hi,hnd];simp only [Bool.not_true,Bool.false_or,decide_eq_true_eq])
   rw [hU.o]
   have cS:=lH (qW1 m _ d p w hv hm g)
   have cG:Hi (∀ x,Calls Tryz.prog 146 #[.slice (some ⟨b,off,none⟩) d.length cap',.int .i64 x] w (Rn w fun w' y=>qQb 1 qQf w.heap.size 3 w' y (givenR d x))):=lH (fun x=>qWg m _ d x w hv hm g)
   have HGL:=lH (qF0 g)
   have HV:=lH hv
   clear hN hnd hi hv hU
   generalize d[p].up=u at *
   generalize d[p].inS=ins at *
   generalize slotR d p=sl at *
   by_cases hu:u<0
   ·rw [if_pos hu]
    go_enter Tryz.func97,Tryz.ntmps97
    go_wp2_with (go_at_call 56;refine cI.o.mono ?_;rintro e w1 ⟨rfl,rfl⟩)
    go_ret
    exact ⟨rfl,Br _⟩
   rw [if_neg hu]
   have hupI:=hup.o hu
   clear hup
   cases ins with
   | true=>
     clear hupI
     go_enter Tryz.func97,Tryz.ntmps97
     go_wp2_with (go_at_call 56;refine cI.o.mono ?_;rintro e w1 ⟨rfl,rfl⟩)
     go_ret
     exact ⟨rfl,Br _⟩
   | false=>
     rw [if_neg (by simp)]
     obtain ⟨q,hq,rfl,-⟩:=qQz.1 hupI
     obtain ⟨_,_,_,_,_,_,e2,-,-,-,hQ⟩:=HV.o.node q hq
     simp at e2
     obtain ⟨⟨rfl,rfl⟩,rfl⟩:=e2
     have q1:=hQ.tag
     have q6:=hQ.hasS
     rw [qQ2 hq]
     have cGq:=lH (cG.o (q:Int))
     have hgl:=HGL.o (q:Int)
     clear hQ hupI cG HGL
     generalize d[q].hasS=hs at *
     generalize d[q].tag=tg at *
     generalize givenR d (q:Int)=G at *
     cases hs with
     | true=>
       go_enter Tryz.func97,Tryz.ntmps97
       go_wp2_with (first
 | (go_at_call 56;refine cI.o.mono ?_;rintro e w1 ⟨rfl,rfl⟩)
 | (go_at_call 145;refine qKb cS.o fun w2 HB2=>?_))
       go_ret
       exact ⟨rfl,HB2.o⟩
     | false=>
       rw [if_neg (by simp)]
       by_cases ht:tg=qJt
       ·have hb:(tg==[115,108,111,116])=true:=by rw [ht];rfl
        by_cases hG:G=[]
        ·subst hG
         rw [if_neg (by simp)]
         clear ht
         go_enter Tryz.func97,Tryz.ntmps97
         go_wp2_with (first
 | (go_at_call 56;refine cI.o.mono ?_;rintro e w1 ⟨rfl,rfl⟩)
 | (go_at_call 146;refine cGq.o.mono ?_;rintro e w2 ⟨b2,y2,rfl,o2⟩;obtain ⟨ga,gc,rfl,_,_⟩:=Rf o2.read;have HB2:=lH b2;clear b2 o2))
         go_ret
         exact ⟨rfl,HB2.o⟩
        ·have hG2:G.isEmpty=false:=by simpa using hG
         have hG3:0<G.length:=by
          cases G with
          | nil=>exact absurd rfl hG
          | cons a l=>simp
         rw [if_pos (by simp [ht,hG2])]
         clear ht
         go_enter Tryz.func97,Tryz.ntmps97
         go_wp2_with (first
 | (go_at_call 56;refine cI.o.mono ?_;rintro e w1 ⟨rfl,rfl⟩)
 | (go_at_call 146;refine cGq.o.mono ?_;rintro e w2 ⟨b2,y2,rfl,o2⟩;obtain ⟨ga,gc,rfl,_,_⟩:=Rf o2.read;have HB2:=lH b2;clear b2 o2))
         go_ret
         exact ⟨rfl,HB2.o⟩
       ·have hb:(tg==[115,108,111,116])=false:=by
         have:(tg==qJt)=false:=by simpa using ht
         exact this
        rw [if_neg (by simp [ht])]
        clear ht
        go_enter Tryz.func97,Tryz.ntmps97
        go_wp2_with (go_at_call 56;refine cI.o.mono ?_;rintro e w1 ⟨rfl,rfl⟩)
        go_ret
        exact ⟨rfl,Br _⟩
end Go.Proofs.YtklbmkaomojciaaGreat

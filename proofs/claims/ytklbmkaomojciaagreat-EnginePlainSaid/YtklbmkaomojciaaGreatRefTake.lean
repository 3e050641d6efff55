/- A node taken out of its list: the document's answer. -/
import Derived.Test.YtklbmkaomojciaaGreatRefWith
import Derived.Test.YtklbmkaomojciaaGreatBlk
import Derived.Deep.RegionWith
import Derived.Deep.Cut
import Derived.Deep.DeepCutAuto
set_option maxRecDepth 100000
set_option maxHeartbeats 2000000
namespace Go.Proofs.YtklbmkaomojciaaGreat
open Go.RowKit
def qXh (w W:World) (C:List Value):Prop:=Bel w W/\Blk W w.heap.size C 65
theorem qXh.bel {w W W':World} {C:List Value} (h:qXh w W C) (b:Bel W W'):qXh w W' C:=⟨Bt h.1 b,h.2.bel b⟩
theorem qXh.drew {w W:World} {C:List Value} (h:qXh w W C):qXh w W.drew C:=⟨h.1.drew,h.2.drew⟩
def qJo (g n:Nat) (w:World) (v:Value) (l:List Int):Prop:=qQb 1 qQ3 (fun b=>g<b/\b<n) w v l
theorem qJo.bel {g:Nat} {w w':World} {v:Value} {l:List Int} (h:qJo g w.heap.size w v l) (b:Bel w w'):qJo g w'.heap.size w' v l:=
 (qQb.agree h (qQi.mono (qQi.below b) (fun _ h=>h.2)) (fun _ _ _ h=>h)).mono (fun _ h=>⟨h.1,Zc h.2 b.size⟩) (fun _ _ _ h=>h)
theorem qJo.set {g n:Nat} {w:World} {v:Value} {l:List Int} (h:qJo g n w v l) (j:Nat) (u:Value):qJo g n (w.setCell ⟨g,j,none⟩ u) v l:=
 qQb.agree h (qQi.setCell _ _ (fun h=>Nat.lt_irrefl _ h.1)) (fun _ _ _ h=>h)
theorem qJo.ints {g n:Nat} {w:World} {v:Value} {l:List Int} (h:qJo g n w v l):qQ6 n w v l:=qQb.mono h (fun _ h=>h.2) (fun _ _ _ h=>h)
theorem qQl (w:World) (a:Addr) (v:Value):(w.setCell a v).heap.size=w.heap.size:=by simp [World.setCell]
def qW8 (w:World) (C:List Value) (kv sv:Value) (lk ls:List Int) (W:World):Prop:=Bel w W/\Blk W w.heap.size ((C.set 5 kv).set 7 sv) 65/\qJo w.heap.size W.heap.size W kv lk/\qJo w.heap.size W.heap.size W sv ls
theorem qW8.mk1 {w W:World} {C:List Value} {kv sv:Value} {lk ls:List Int} (h:qXh w W C) (hk:qJo w.heap.size W.heap.size W kv lk) (hs:qJo w.heap.size W.heap.size W sv ls) :
 qW8 w C kv sv lk ls ((W.setCell ⟨w.heap.size,5,none⟩ kv).setCell ⟨w.heap.size,7,none⟩ sv):=by
 refine ⟨(h.1.setCell _ _ _ (Zb _)).setCell _ _ _ (Zb _),(h.2.set 5 kv).set 7 sv,?_,?_⟩
 ·rw [qQl,qQl];exact ((hk.set 5 kv).set 7 sv)
 ·rw [qQl,qQl];exact ((hs.set 5 kv).set 7 sv)
theorem qW8.mk2 {w W:World} {C:List Value} {kv sv:Value} {lk ls:List Int} (h:qXh w W C) (hk:qJo w.heap.size W.heap.size W kv lk) (hs:qJo w.heap.size W.heap.size W sv ls) :
 qW8 w C kv sv lk ls ((W.setCell ⟨w.heap.size,7,none⟩ sv).setCell ⟨w.heap.size,5,none⟩ kv):=by
 refine ⟨(h.1.setCell _ _ _ (Zb _)).setCell _ _ _ (Zb _),?_,?_,?_⟩
 ·rw [List.set_comm _ _ (by omega)];exact (h.2.set 7 sv).set 5 kv
 ·rw [qQl,qQl];exact ((hk.set 7 sv).set 5 kv)
 ·rw [qQl,qQl];exact ((hs.set 7 sv).set 5 kv)
theorem qKa {g base:Nat} {e:TypeId} {w:World} {v:Value} {l:List Int} (h:qQg 1 qQ3 base e w v l) (hg:g<base):qJo g w.heap.size w v l:=
 h.row.mono (fun _ h=>⟨by omega,h.2.1⟩) (fun _ _ _ h=>h)
theorem qKv (B:Nat->Prop) (v:Value) (d:Dc) (k:Int) (w:World) (hvB:qKf B w v d) (hBl:∀ b,B b->b<w.heap.size) (hd:d.length<=1000) (hk:isM d k false=true) (hp:isM d (nd d k).up false=true)
 (hl1:(nd d (nd d k).up).kids.length<=1000) (hl2:(nd d (nd d k).up).shadow.length<=1000) :
 Calls Tryz.prog 112 #[v,.int .i64 k] w (Rn w fun w' y=>qKf (fun b=>B b∨(w.heap.size<=b/\b<w'.heap.size)) w' y (qZf d k)):=by
 obtain ⟨m,hmm⟩:∃ m,m=w.heap.size:=⟨_,rfl⟩
 have hm:m<=w.heap.size:=by omega
 have hv:qQq m w v d:=hvB.mono (fun b h=>by have:=hBl b h;omega)
 obtain ⟨k,hkk,rfl,-⟩:=qZg.1 hk
 obtain ⟨b,off,cap',av0,kv0,sv0,e1,-,-,hbb,hN⟩:=hv.node k hkk
 rw [qQv hkk] at hp hl1 hl2
 have hT:qZf d k=qQn d d[k].up.toNat { nd d d[k].up with kids:=qQk (nd d d[k].up).kids k,shadow:=qQk (nd d d[k].up).shadow k }:=by unfold qZf;rw [qQv hkk]
 rw [hT]
 have hup:=hN.up
 clear hT hN
 generalize d[k].up=u at *
 obtain ⟨p,hpp,rfl,-⟩:=qZg.1 hp
 obtain ⟨b',off',cap2,av,kv,sv,e2,v1,v2,hbb2,hP,hPB⟩:=hvB.node hBl p hpp
 rw [<- hmm] at hP
 subst e1
 simp at e2
 obtain ⟨⟨rfl,rfl⟩,rfl⟩:=e2
 rw [qQv hpp] at hl1 hl2 ⊢
 have p0:=hP.live
 have p1:=hP.tag
 have p2:=hP.text
 have p3:=hP.atts
 have p4:=hP.up
 have p5:=hP.kids
 have p6:=hP.hasS
 have p7:=hP.shadow
 have p8:=hP.inS
 have pa:=lH hP.attsAt
 have pk:=hP.kidsAt
 have ps:=hP.shadowAt
 generalize hX:d[p]=X at *
 obtain ⟨xl,xt,xx,xa,xu,xk,xh,xs,xi⟩:=X
 simp only at p0 p1 p2 p3 p4 p5 p6 p7 p8 pa pk ps hl1 hl2 hPB
 obtain ⟨ka,kc,rfl,k1,k2⟩:=Rf pk
 obtain ⟨sa,sc,rfl,s1,s2⟩:=Rf ps
 obtain ⟨aa,ac,rfl,a1,a2⟩:=Rf pa.o
 have HV:=lH hvB
 have HPB:=lH hPB
 have PK:=lH pk
 have PS:=lH ps
 clear hP hv hvB hPB pk ps hk hp
 go_enter Tryz.func112,Tryz.ntmps112
 go_wp2
 obtain ⟨w0,hw0⟩:∃ w0:World,w0=w.alloc (.cells #[.bool xl,.string ⟨xt.toArray⟩,.string ⟨xx.toArray⟩,.slice aa xa.length ac,.int .i64 xu,.slice ka xk.length kc,.bool xh,.slice sa xs.length sc,.bool xi] 65):=⟨_,rfl⟩
 have hK:Blk w0 w.heap.size [.bool xl,.string ⟨xt.toArray⟩,.string ⟨xx.toArray⟩,.slice aa xa.length ac,.int .i64 xu,.slice ka xk.length kc,.bool xh,.slice sa xs.length sc,.bool xi] 65:=by rw [hw0];exact Blk.new' _ _ rfl _ _
 have hB0:Bel w w0:=by rw [hw0];exact (Br w).alloc _
 rw [<- hw0]
 clear hw0 p0 p1 p2 p3 p4 p5 p6 p7 p8
 have hS0:qXh w w0 _:=⟨hB0,hK⟩
 have PA:=pa
 clear pa
 generalize hC:[Value.bool xl,.string ⟨xt.toArray⟩,.string ⟨xx.toArray⟩,.slice aa xa.length ac,.int .i64 xu,.slice ka xk.length kc,.bool xh,.slice sa xs.length sc,.bool xi]=C at *
 have F:∀ W,qXh w W C->W.cell? ⟨w.heap.size,5,none⟩=some (.slice ka xk.length kc)/\W.cell? ⟨w.heap.size,7,none⟩=some (.slice sa xs.length sc)/\W.frozen? ⟨w.heap.size,5,none⟩=false/\W.frozen? ⟨w.heap.size,7,none⟩=false:=by
  intro W h
  refine ⟨?_,?_,h.2.frozen 5,h.2.frozen 7⟩
  ·rw [h.2.cell 5,<- hC];rfl
  ·rw [h.2.cell 7,<- hC];rfl
 obtain ⟨q5,q7,f5,f7⟩:=F w0 hS0
 have cK:∀ W,qXh w W C->Calls Tryz.prog 168 #[.slice ka xk.length kc,.int .i64 k] W (fun e W'=>∃ a n c,e=.returned (.slice a n c)/\qXh w W' C/\Bel W W'/\qJo w.heap.size W'.heap.size W' (.slice a n c) (qQk xk k)):=by
  intro W hW
  refine (qJ2 m _ xk k _ (qQb.later PK.o qQd hW.1 hm) (Za hm hW.1.size) (by omega)).mono ?_
  rintro e w1 ⟨b1,x1,rfl,o1⟩
  obtain ⟨y1,z1,rfl,_,_⟩:=Rf o1.read
  exact ⟨_,_,_,rfl,hW.bel b1,b1,qKa o1 hW.2.lt⟩
 have cS:∀ W,qXh w W C->Calls Tryz.prog 168 #[.slice sa xs.length sc,.int .i64 k] W (fun e W'=>∃ a n c,e=.returned (.slice a n c)/\qXh w W' C/\Bel W W'/\qJo w.heap.size W'.heap.size W' (.slice a n c) (qQk xs k)):=by
  intro W hW
  refine (qJ2 m _ xs k _ (qQb.later PS.o qQd hW.1 hm) (Za hm hW.1.size) (by omega)).mono ?_
  rintro e w1 ⟨b1,x1,rfl,o1⟩
  obtain ⟨y1,z1,rfl,_,_⟩:=Rf o1.read
  exact ⟨_,_,_,rfl,hW.bel b1,b1,qKa o1 hW.2.lt⟩
 have HS0:=lH hS0.drew
 have HF:=lH F
 clear hS0 F hB0 hK
 have HCK:=lH cK
 have HCS:=lH cS
 clear cK cS
 go_cut [] from 14 to 23 (fun w3=>∃ a1 n1 c1 a2 n2 c2,qW8 w C (.slice a1 n1 c1) (.slice a2 n2 c2) (qQk xk k) (qQk xs k) w3)
 case first=>
  go_region_with (first
 | (go_at_call_of 168 (Value.slice ka xk.length kc);refine (HCK.o _ ?_).mono ?_;(first | exact HS1.o | exact HS0.o);rintro e wk ⟨yk,nk,zk,rfl,hS1,b1,o1⟩;obtain ⟨q5,q7,f5,f7⟩:=HF.o _ hS1;have HS1:=lH hS1;have BK:=lH b1;have XK:=lH o1;clear hS1 b1 o1)
 | (go_at_call_of 168 (Value.slice sa xs.length sc);refine (HCS.o _ ?_).mono ?_;(first | exact HS1.o | exact HS0.o);rintro e ws ⟨ys,ns,zs,rfl,hS1,b1,o1⟩;obtain ⟨q5,q7,f5,f7⟩:=HF.o _ hS1;have HS1:=lH hS1;have BS:=lH b1;have XS:=lH o1;clear hS1 b1 o1))
  all_goals
   go_wp2_with fail
   go_meet
   refine ⟨yk,nk,zk,ys,ns,zs,?_⟩
   first
    | exact qW8.mk1 HS1.o XK.o (XS.o.bel BK.o)
    | exact qW8.mk1 HS1.o (XK.o.bel BS.o) XS.o
    | exact qW8.mk2 HS1.o XK.o (XS.o.bel BK.o)
    | exact qW8.mk2 HS1.o (XK.o.bel BS.o) XS.o
 case rest=>
  obtain ⟨yk,nk,zk,ys,ns,zs,hE⟩:=hcut
  clear q5 q7 f5 f7 HS0 HF HCK HCS
  obtain ⟨e1,e2,e3,e4⟩:=hE
  rw [<- hC] at e2
  have n0:=e2.cell 0
  have n1:=e2.cell 1
  have n2:=e2.cell 2
  have n3:=e2.cell 3
  have n4:=e2.cell 4
  have n5:=e2.cell 5
  have n6:=e2.cell 6
  have n7:=e2.cell 7
  have n8:=e2.cell 8
  simp at n0 n1 n2 n3 n4 n5 n6 n7 n8
  have hup3:=(Bel.cells e1 _ _ (by omega)).trans hup
  have hsz:=e1.size
  have hAg:qQi B w wc:=qQi.mono (qQi.below e1) hBl
  have cW:=lH (qKw (fun b=>B b∨(w.heap.size<=b/\b<wc.heap.size)) _ d p { live:=xl,tag:=xt,text:=xx,attrs:=xa,up:=xu,kids:=qQk xk k,hasS:=xh,shadow:=qQk xs k,inS:=xi } _ _ _ wc.drew ((HV.o.agree hAg).mono (fun _ h=>.inl h)) (fun b h=>h.elim (fun h=>Zc (hBl b h) hsz) (fun h=>h.2)) (by omega) (by omega)
   ((qQb.agree HPB.o hAg (fun _ _ _ h=>h)).mono (fun _ h=>.inl h) (fun _ _ _ h=>h)) (qQb.mono e3 (fun _ h=>.inr ⟨Nat.le_of_lt h.1,h.2⟩) (fun _ _ _ h=>h)) (qQb.mono e4 (fun _ h=>.inr ⟨Nat.le_of_lt h.1,h.2⟩) (fun _ _ _ h=>h)))
  clear hAg
  have HE1:=lH e1
  clear e1 e2 e3 e4 hup
  go_wp2
  go_region_with (go_at_call 114;refine cW.o.mono ?_;rintro e w4 ⟨b4,x4,rfl,o4⟩)
  all_goals
   go_wp2
   go_ret
   exact ⟨Bt HE1.o.drew b4,_,rfl,qKf.mono o4 (fun b h=>h.elim (fun h=>h.elim .inl (fun h=>.inr ⟨h.1,Zc h.2 b4.size⟩)) (fun h=>.inr ⟨Za hsz h.1,h.2⟩))⟩
end Go.Proofs.YtklbmkaomojciaaGreat

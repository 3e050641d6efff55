/- A node put in another one's list: the document's answer, walked. -/
import Derived.Test.YtklbmkaomojciaaGreatRefTake
import Derived.Test.YtklbmkaomojciaaGreatMemStep
import Derived.Test.YtklbmkaomojciaaGreatRefAttrs
set_option maxRecDepth 100000
set_option maxHeartbeats 4000000
namespace Go.Proofs.YtklbmkaomojciaaGreat
open Go.RowKit
theorem qDs {l:List Int} {b:Int} {j:Nat} (hj:j<l.length):atF b (l.take (j+1)) 0 (-1)=if l[j]=b then (j:Int) else atF b (l.take j) 0 (-1):=by
 rw [Zk hj,atF_snoc]
 simp [List.length_take,Nat.min_eq_left (Nat.le_of_lt hj)]
theorem putM_neg {d:Dc} {k t before:Int} {sh:Bool} {L:List Int} (hL:L=listM (nd d t) sh) (h:qJq L before<0):putM d k t before sh=(8,[]):=by
 subst hL;unfold putM;rw [if_pos h]
theorem zZh {d:Dc} {k t before:Int} {sh:Bool} {L:List Int} (hL:L=listM (nd d t) sh) (h:0<=qJq L before) (h2:12<=L.length):putM d k t before sh=(5,[]):=by
 subst hL;unfold putM;rw [if_neg (by omega),if_pos h2]
theorem zQr {d:Dc} {k t before:Int} {sh:Bool} {L:List Int} (hL:L=listM (nd d t) sh) (h:0<=qJq L before) (h2:L.length<12) (h3:16<((qJ3 (putD d k t before sh) k).length:Int) - 1+qKk (putD d k t before sh) k):putM d k t before sh=(3,[]):=by
 subst hL;unfold putM;rw [if_neg (by omega),if_neg (by omega),if_pos h3]
theorem putM_ok {d:Dc} {k t before:Int} {sh:Bool} {L:List Int} (hL:L=listM (nd d t) sh) (h:0<=qJq L before) (h2:L.length<12) (h3:¬ 16<((qJ3 (putD d k t before sh) k).length:Int) - 1+qKk (putD d k t before sh) k):putM d k t before sh=(0,putD d k t before sh):=by
 subst hL;unfold putM;rw [if_neg (by omega),if_neg (by omega),if_neg h3]
theorem qQg.drew {α:Type} {sz:Nat} {rd:World->List Value->α->Prop} {base:Nat} {e:TypeId} {w:World} {v:Value} {l:List α} (hst:qHs rd) (h:qQg sz rd base e w v l):qQg sz rd base e w.drew v l:=h.agree (fun _ _=>rfl) (fun _ _ _ h=>hst _ _ _ _ h)
theorem own_a (w:World) (C:Array Value):qQg 1 qQ3 w.heap.size 3 ((w.alloc (.cells #[] 3)).alloc (.cells C 3)).drew (.slice (some ⟨w.heap.size,0,none⟩) 0 0) []:=
 ((qK9 (rd:=qQ3) w w.heap.size w.heap.size 3 rfl (Zb _)).alloc qQd _).drew qQd
theorem own_b (w:World) (C:Array Value) (e:TypeId):qQg 1 qQ3 w.heap.size 3 ((w.alloc (.cells C e)).alloc (.cells #[] 3)).drew (.slice (some ⟨w.heap.size+1,0,none⟩) 0 0) []:=
 (qK9 (rd:=qQ3) (w.alloc (.cells C e)) w.heap.size (w.heap.size+1) 3 (by simp) (by omega)).drew qQd
theorem own_c (w:World):qQg 1 qQ3 w.heap.size 3 (w.alloc (.cells #[] 3)).drew (.slice (some ⟨w.heap.size,0,none⟩) 0 0) []:=
 (qK9 (rd:=qQ3) w w.heap.size w.heap.size 3 rfl (Zb _)).drew qQd
theorem lit_a (w:World) (k:Int):Blk ((w.alloc (.cells #[] 3)).alloc (.cells #[.int .i64 k] 3)).drew (w.heap.size+1) [.int .i64 k] 3:=(Blk.new' _ _ (by simp) #[.int .i64 k] _).drew
theorem lit_b (w:World) (k:Int):Blk ((w.alloc (.cells #[.int .i64 k] 3)).alloc (.cells #[] 3)).drew w.heap.size [.int .i64 k] 3:=
 ((Blk.new' w _ rfl #[.int .i64 k] _).bel (Bel.alloc (Br _) _)).drew
theorem lit_c (w:World) (k:Int):Blk (w.alloc (.cells #[.int .i64 k] 3)) w.heap.size [.int .i64 k] 3:=Blk.new' w _ rfl #[.int .i64 k] _
theorem qX8 {w:World} {g:Nat} {k:Int} {e:TypeId} (h:Blk w g [.int .i64 k] e):qQb 1 qQ3 (fun _=>True) w (.slice (some ⟨g,0,none⟩) 1 1) [k]:=by
 refine .inr ⟨g,0,1,rfl,by simp,by omega,fun i hi=>?_⟩
 obtain rfl:i=0:=by simpa using hi
 refine ⟨trivial,[.int .i64 k],rfl,fun j u hu=>?_,rfl⟩
 rw [h.cell];simpa using hu
theorem ne_a (w:World):(Value.slice (some ⟨w.heap.size,0,none⟩) 0 0).ownBlock≠some (w.heap.size+1):=by simp [Value.ownBlock]
theorem ne_b (w:World):(Value.slice (some ⟨w.heap.size+1,0,none⟩) 0 0).ownBlock≠some w.heap.size:=by simp [Value.ownBlock]
theorem qQb.nothing {α:Type} {sz:Nat} {rd:World->List Value->α->Prop} {B:Nat->Prop} {w:World} {a:Addr} (ha:a.spot=none:=by rfl):qQb sz rd B w (.slice (some a) 0 0) []:=by
 obtain ⟨b,o,s⟩:=a
 obtain rfl:s=none:=ha
 exact .inr ⟨b,o,0,rfl,Zb _,by omega,fun i hi=>by simp at hi⟩
theorem qKj {P:Program} {c:Code} {Q:Exit->Act->World->Prop} {a:Act} {W:World} {E:World->Prop} (hE:E W) (h:∀ w,E w->c.wp P Q a w):c.wp P Q a W:=h W hE
def qH5 (n:Nat) (w:World) (g:Nat) (X:Nd) (av kv sv:Value):Prop:=
 Blk w g [.bool X.live,.string ⟨X.tag.toArray⟩,.string ⟨X.text.toArray⟩,av,.int .i64 X.up,kv,.bool X.hasS,sv,.bool X.inS] 65/\qZy n w av X.attrs/\qQ6 n w kv X.kids/\qQ6 n w sv X.shadow
def qBg (d:Dc) (k t before:Int) (sh:Bool):Nd:=qZ0 (nd d t) sh (insM (listM (nd d t) sh) (qJq (listM (nd d t) sh) before).toNat k)
theorem putD_len (d:Dc) (k t before:Int) (sh:Bool):(putD d k t before sh).length<=d.length+1:=by unfold putD;rw [qQ8];split <;> omega
theorem qFk {m g:Nat} {w wc:World} {av:Value} {l:List Att} (h:qZy m w av l) (hb:Bel w wc) (hm:m<=w.heap.size) (hg:g=w.heap.size) (j:Nat) (u:Value):qZy (wc.setCell ⟨g,j,none⟩ u).heap.size (wc.setCell ⟨g,j,none⟩ u) av l:=by
 subst hg
 have hs:=hb.size
 exact (qQb.later h qQh (hb.setCell _ _ _ (Zb _)) hm).mono (fun _ h=>by rw [qQl];omega) (fun _ _ _ h=>h)
theorem qFn {m g:Nat} {w wc:World} {av:Value} {l:List Int} (h:qQ6 m w av l) (hb:Bel w wc) (hm:m<=w.heap.size) (hg:g=w.heap.size) (j:Nat) (u:Value):qQ6 (wc.setCell ⟨g,j,none⟩ u).heap.size (wc.setCell ⟨g,j,none⟩ u) av l:=by
 subst hg
 have hs:=hb.size
 exact (qQb.later h qQd (hb.setCell _ _ _ (Zb _)) hm).mono (fun _ h=>by rw [qQl];omega) (fun _ _ _ h=>h)
section
variable {m A p:Nat} {d:Dc} {k before:Int} {w wc:World} {L:List Int} {xl xh xi:Bool} {xt xx:Txt} {xa:List Att} {xu:Int} {xk xs:List Int} {av kv sv yv:Value}
theorem box5 (hX:nd d (p:Int)={ live:=xl,tag:=xt,text:=xx,attrs:=xa,up:=xu,kids:=xk,hasS:=xh,shadow:=xs,inS:=xi }) (hL:L=listM (nd d (p:Int)) false) (hA:qJq L before=(A:Int)) (hB:Bel w wc)
 (hK:Blk wc w.heap.size [.bool xl,.string ⟨xt.toArray⟩,.string ⟨xx.toArray⟩,av,.int .i64 xu,kv,.bool xh,sv,.bool xi] 65) (ha:qZy m w av xa) (_hk:qQ6 m w kv xk) (hs:qQ6 m w sv xs) (hI:qJo w.heap.size wc.heap.size wc yv (insM L A k)) (hm:m<=w.heap.size) :
 Bel w (wc.setCell ⟨w.heap.size,5,none⟩ yv)/\qH5 (wc.setCell ⟨w.heap.size,5,none⟩ yv).heap.size (wc.setCell ⟨w.heap.size,5,none⟩ yv) w.heap.size (qBg d k p before false) av yv sv:=by
 have e:qBg d k p before false={ live:=xl,tag:=xt,text:=xx,attrs:=xa,up:=xu,kids:=insM L A k,hasS:=xh,shadow:=xs,inS:=xi }:=by
  unfold qBg;rw [<- hL,hA,hX];rfl
 rw [e]
 exact ⟨hB.setCell _ _ _ (Zb _),hK.set 5 yv,qFk ha hB hm rfl _ _,by rw [qQl];exact (hI.set 5 yv).ints,qFn hs hB hm rfl _ _⟩
theorem box7 (hX:nd d (p:Int)={ live:=xl,tag:=xt,text:=xx,attrs:=xa,up:=xu,kids:=xk,hasS:=xh,shadow:=xs,inS:=xi }) (hL:L=listM (nd d (p:Int)) true) (hA:qJq L before=(A:Int)) (hB:Bel w wc)
 (hK:Blk wc w.heap.size [.bool xl,.string ⟨xt.toArray⟩,.string ⟨xx.toArray⟩,av,.int .i64 xu,kv,.bool xh,sv,.bool xi] 65) (ha:qZy m w av xa) (hk:qQ6 m w kv xk) (_hs:qQ6 m w sv xs) (hI:qJo w.heap.size wc.heap.size wc yv (insM L A k)) (hm:m<=w.heap.size) :
 Bel w (wc.setCell ⟨w.heap.size,7,none⟩ yv)/\qH5 (wc.setCell ⟨w.heap.size,7,none⟩ yv).heap.size (wc.setCell ⟨w.heap.size,7,none⟩ yv) w.heap.size (qBg d k p before true) av kv yv:=by
 have e:qBg d k p before true={ live:=xl,tag:=xt,text:=xx,attrs:=xa,up:=xu,kids:=xk,hasS:=xh,shadow:=insM L A k,inS:=xi }:=by
  unfold qBg;rw [<- hL,hA,hX];rfl
 rw [e]
 exact ⟨hB.setCell _ _ _ (Zb _),hK.set 7 yv,qFk ha hB hm rfl _ _,qFn hk hB hm rfl _ _,by rw [qQl];exact (hI.set 7 yv).ints⟩
end
theorem qZ2 {wc W w1:World} {N:Nat} (g1:W.grownBy w1 (some N)) (h:Bel wc W) (hN:wc.heap.size<=N):Bel wc w1:=Below.grown h g1 h.size (fun k hk=>by cases hk;exact hN)
theorem qJ9 (m:Nat) (v:Value) (d:Dc) (k t before:Int) (sh:Bool) (w:World) (hv:qQq m w v d) (hm:m<=w.heap.size) (hd:d.length<=1000) (ht:isM d t false=true)
 (hlen:(listM (nd d t) sh).length<=12) (hg:(listM (nd d t) sh).length<12->qV4 (putD d k t before sh) 100 k) :
 Calls Tryz.prog 113 #[v,.int .i64 k,.int .i64 t,.int .i64 before,.bool sh] w (Rn w fun w' y=>∃ u,y=.tuple #[u,.int .i64 (putM d k t before sh).1]/\qQq w'.heap.size w' u (putM d k t before sh).2):=by
 obtain ⟨p,hpp,rfl,-⟩:=qZg.1 ht
 obtain ⟨b,off,cap',av,kv,sv,rfl,v1,v2,hbb,hP⟩:=hv.node p hpp
 have HP:=lH (rfl:putM d k (p:Int) before sh=putM d k (p:Int) before sh)
 have HG:=lH hg
 have p0:=hP.live
 have p1:=hP.tag
 have p2:=hP.text
 have p3:=hP.atts
 have p4:=hP.up
 have p5:=hP.kids
 have p6:=hP.hasS
 have p7:=hP.shadow
 have p8:=hP.inS
 have pa:=lH hP.attsAt
 have pk:=hP.kidsAt
 have ps:=hP.shadowAt
 have hX:nd d (p:Int)=d[p]:=qQv hpp
 obtain ⟨L,hL⟩:∃ L,L=listM (nd d (p:Int)) sh:=⟨_,rfl⟩
 obtain ⟨lv,hlv⟩:∃ lv,lv=if sh then sv else kv:=⟨_,rfl⟩
 have pl:qQ6 m w lv L:=by rw [hL,hX,hlv];cases sh <;> assumption
 rw [<- hL] at hlen
 generalize d[p]=X at *
 obtain ⟨xl,xt,xx,xa,xu,xk,xh,xs,xi⟩:=X
 simp only at p0 p1 p2 p3 p4 p5 p6 p7 p8 pa pk ps
 obtain ⟨ka,kc,rfl,k1,k2⟩:=Rf pk
 obtain ⟨sa,sc,rfl,s1,s2⟩:=Rf ps
 obtain ⟨aa,ac,rfl,a1,a2⟩:=Rf pa.o
 obtain ⟨la,lc,hlf,l1,l2⟩:=Rf pl
 have hsel:(sh=true/\Value.slice sa xs.length sc=.slice la L.length lc)∨(sh=false/\Value.slice ka xk.length kc=.slice la L.length lc):=by
  rw [hlf] at hlv;cases sh
  ·exact .inr ⟨rfl,by simpa using hlv.symm⟩
  ·exact .inl ⟨rfl,by simpa using hlv.symm⟩
 rw [hlf] at pl
 have HV:=lH hv
 have PK:=lH pk
 have PS:=lH ps
 have PL:=lH pl
 have HX:=lH hX
 have HL:=lH hL
 clear hP hv pk ps ht hlv hlf pl hg hX hL
 have hq5:∃ u5,u5=(if sh then Value.slice ka xk.length kc else .slice la L.length lc)/\u5=.slice ka xk.length kc:=by
  rcases hsel with ⟨rfl,e⟩ | ⟨rfl,e⟩
  ·exact ⟨_,rfl,rfl⟩
  ·exact ⟨_,rfl,e.symm⟩
 have hq7:∃ u7,u7=(if sh then .slice la L.length lc else Value.slice sa xs.length sc)/\u7=.slice sa xs.length sc:=by
  rcases hsel with ⟨rfl,e⟩ | ⟨rfl,e⟩
  ·exact ⟨_,rfl,e.symm⟩
  ·exact ⟨_,rfl,rfl⟩
 obtain ⟨u5,h5,g5⟩:=hq5
 obtain ⟨u7,h7,g7⟩:=hq7
 clear hsel
 obtain ⟨sb,hsb⟩:∃ sb,sb=sh:=⟨_,rfl⟩
 have HSB:=lH hsb
 clear hsb
 cases sh
 all_goals
  simp only [Bool.false_eq_true,if_false,if_true] at h5 h7
  go_enter Tryz.func113,Tryz.ntmps113
  go_upto_region 2 with fail
  obtain ⟨w0,hw0⟩:∃ w0:World,w0=w.alloc (.cells #[.bool xl,.string ⟨xt.toArray⟩,.string ⟨xx.toArray⟩,.slice aa xa.length ac,.int .i64 xu,.slice ka xk.length kc,.bool xh,.slice sa xs.length sc,.bool xi] 65):=⟨_,rfl⟩
  have hK:Blk w0 w.heap.size [.bool xl,.string ⟨xt.toArray⟩,.string ⟨xx.toArray⟩,.slice aa xa.length ac,.int .i64 xu,.slice ka xk.length kc,.bool xh,.slice sa xs.length sc,.bool xi] 65:=by rw [hw0];exact Blk.new' _ _ rfl _ _
  have hB0:Bel w w0:=by rw [hw0];exact (Br w).alloc _
  rw [<- hw0]
  clear hw0 p0 p1 p2 p3 p4 p5 p6 p7 p8
  have q5:=hK.cell 5
  have q7:=hK.cell 7
  simp only [Ze,Zd] at q5 q7
  rw [<- g5,h5] at q5
  rw [<- g7,h7] at q7
  have hz:=hK.lt
  have HB0:=lH hB0
  have HK:=lH hK
  have HE5:=lH (h5.symm.trans g5)
  have HE7:=lH (h7.symm.trans g7)
  clear hB0 hK h5 g5 h7 g7
  go_upto_if 30 with fail
  go_cut [14] from 29 to 44 (fun s wx=>s=.int .i64 (qJq L before)/\0<=qJq L before/\wx=w0)
  case first=>
   have hLN:(L.length:Int)<=12:=by omega
   by_cases hb:0<=before
   ·have HE:Hi (qJq L before=atF before L 0 (-1)):=lH (by unfold qJq;rw [if_pos hb])
    go_wp2_with fail
    go_loop [33,14] (fun i s=>∃ j:Nat,j<=L.length/\i=.int .i64 j/\s=.int .i64 (atF before (L.take j) 0 (-1))) (fun i _=>L.length - (intOf i).toNat)
    case atStart=>exact ⟨0,by omega,rfl,rfl⟩
    case round=>
     obtain ⟨j,hj,rfl,rfl⟩:=hrel
     by_cases hlt:j<L.length
     ·obtain ⟨lb,lo,_,_,e1,hlb,_,_,_⟩:=qQb.elem PL.o j hlt
      simp at e1
      obtain ⟨rfl,rfl⟩:=e1
      have c1:=(Bel.cells HB0.o _ _ (by omega)).trans (PL.o.int_cell j hlt)
      have HS:=lH (qDs (b:=before) hlt)
      by_cases hx:L[j]=before
      ·have hbb2:(L[j]==before)=true:=by simpa using hx
       rw [if_pos hx] at HS
       clear hx
       generalize L[j]=y at *
       go_wp2_with fail
       go_round
       case rel=>exact ⟨j+1,by omega,by go_num,by rw [HS.o]⟩
       case measure=>simp [intOf];omega
      ·have hbb2:(L[j]==before)=false:=by simpa using hx
       rw [if_neg hx] at HS
       clear hx
       generalize L[j]=y at *
       go_wp2_with fail
       go_round
       case rel=>exact ⟨j+1,by omega,by go_num,by rw [HS.o]⟩
       case measure=>simp [intOf];omega
     ·have HT:Hi (L.take j=L):=lH (Zn (by omega))
      rw [HT.o]
      by_cases hneg:atF before L 0 (-1)<0
      ·have hn2:decide (atF before L 0 (-1)<0)=true:=by simpa using hneg
       have HR:=lH (putM_neg (k:=k) HL.o (by rw [HE.o];exact hneg))
       clear hneg
       generalize atF before L 0 (-1)=at0 at *
       go_wp2_with fail
       go_ret2
       exact ⟨HB0.o,_,rfl,_,by rw [HR.o];rfl,by rw [HR.o];exact qQb.nil⟩
      ·have hn2:decide (atF before L 0 (-1)<0)=false:=by simpa using hneg
       go_wp2_with fail
       go_meet
       exact ⟨by rw [HE.o],by rw [HE.o];omega,rfl⟩
   ·have HE:Hi (qJq L before=L.length):=lH (by unfold qJq;rw [if_neg hb])
    go_wp2_with fail
    go_meet
    exact ⟨by rw [HE.o],by rw [HE.o];omega,rfl⟩
  case rest=>
   obtain ⟨rfl,hat,rfl⟩:=hcut
   have hle:=putAt_le L before
   obtain ⟨A,hA⟩:∃ A:Nat,qJq L before=A:=⟨(qJq L before).toNat,by omega⟩
   have HA:=lH hA
   have HAT:=lH hat
   rw [hA] at hle ⊢
   clear hat hA
   by_cases h12:12<=L.length
   ·have HR:=lH (zZh (k:=k) HL.o HAT.o h12)
    go_wp2_with fail
    go_ret2
    exact ⟨HB0.o,_,rfl,_,by rw [HR.o];rfl,by rw [HR.o];exact qQb.nil⟩
   ·go_upto_region 18 with fail
    go_cut [17] from 48 to 59 (fun s wx=>∃ a n c,s=.slice a n c/\Bel w wx/\Blk wx w.heap.size [.bool xl,.string ⟨xt.toArray⟩,.string ⟨xx.toArray⟩,.slice aa xa.length ac,.int .i64 xu,.slice ka xk.length kc,.bool xh,.slice sa xs.length sc,.bool xi] 65/\qJo w.heap.size wx.heap.size wx s (insM L A k))
    case first=>
     have hAl:A<=L.length:=by omega
     have hAc:A<=lc:=by omega
     have hlk:=List.length_take_of_le hAl
     have hld:=List.length_drop (l:=L) (i:=A)
     have hl3:([]++L.take A++[k]++L.drop A).length=L.length+1:=by simp;omega
     rcases qQb.cases PL.o with ⟨h0,hL0⟩ | ⟨lb,lo,lc',h0,_,_,_⟩
     ·subst hL0
      obtain rfl:A=0:=by simpa using hAl
      simp at h0
      obtain ⟨rfl,rfl⟩:=h0
      have R1:Hi (qQ6 m w (.slice none 0 0) (([]:List Int).take 0)):=lH qQb.nil
      have R2:Hi (qQ6 m w (.slice none 0 0) (([]:List Int).drop 0)):=lH qQb.nil
      go_region_law (first
 | (refine qQy rfl (.tmp 48) (.tmp 51) 29 rfl qZl (by decide) (base:=wc.heap.size) (l:=[]) rfl ?own rfl (qQb.later R1.o qQd ?bel hm) (fun cs y _ h=>qZz _ cs y h) ?hby ?mx ?bs (fun _ _ _ _ _ h=>h) ?_;(case own=>first | exact own_a wc _ | exact own_b wc _ _ | exact own_c wc);(case bel=>first | exact ((HB0.o.alloc _).alloc _).drew | exact (HB0.o.alloc _).drew);(case hby=>simp <;> omega);(case mx=>simp <;> omega);(case bs=>first | exact Zb _ | (simp;done) | (simp;omega));intro v1 w1 o1 g1 _ f1;have BP:Bel wc w1:=(by first | exact qZ2 g1 (((Br wc).alloc _).alloc _).drew (Zb _) | exact qZ2 g1 (((Br wc).alloc _).alloc _).drew (Nat.le_succ _) | exact qZ2 g1 ((Br wc).alloc _).drew (Zb _));(first | (have XL:Hi (Blk w1 (wc.heap.size+1) [.int .i64 k] 3):=lH (qZ5 (lit_a wc k) g1 (ne_a wc))) | (have XL:Hi (Blk w1 wc.heap.size [.int .i64 k] 3):=lH (qZ5 (lit_b wc k) g1 (ne_b wc))) | skip);have HBP:=lH BP;have SP:=BP.size;have HO1:=lH o1;clear o1 g1 f1 BP)
 | (refine qQy rfl (.tmp 52) (.tmp 54) 29 rfl qZl (by decide) (rd:=qQ3) (base:=wc.heap.size) (l:=[]++([]:List Int).take 0) (m:=[k]) (B:=fun _=>True) rfl ?own rfl ?row (fun cs y _ h=>qZz _ cs y h) ?hby ?mx ?bs (fun _ _ _ _ _ h=>h) ?_;(case own=>first | exact HO1.o | exact HO1.o.alloc qQd _);(case row=>first | exact qX8 XL.o | exact qX8 (lit_c _ _));(case hby=>simp <;> omega);(case mx=>simp <;> omega);(case bs=>first | exact SP | (simp;omega));intro v2 w2 o2 g2 _ f2;have BP2:Bel wc w2:=(by first | exact Below.own HBP.o (Zb _) HO1.o g2 | exact Below.own (HBP.o.alloc _) (Zb _) (HO1.o.alloc qQd _) g2);have BP2:=lH BP2;have SP2:=BP2.o.size;have HO2:=lH o2;clear o2 g2 f2)
 | (refine qQy rfl (.tmp 55) (.tmp 58) 29 rfl qZl (by decide) (rd:=qQ3) (base:=wc.heap.size) (l:=[]++([]:List Int).take 0++[k]) (m:=([]:List Int).drop 0) (B:=(·<m)) rfl HO2.o rfl (qQb.later R2.o qQd (Bt HB0.o BP2.o) hm) (fun cs y _ h=>qZz _ cs y h) ?hby ?mx ?bs (fun _ _ _ _ _ h=>h) ?_;(case hby=>simp <;> omega);(case mx=>simp <;> omega);(case bs=>exact SP2);intro v3 w3 o3 g3 _ f3;have BP3:Bel wc w3:=Below.own BP2.o (Zb _) HO2.o g3;have BP3:=lH BP3;obtain ⟨y3,z3,e3,_,_⟩:=Rf o3.read;rw [hl3] at e3;subst e3;have HO3:=lH o3;clear o3 g3 f3))
      all_goals
       go_wp2_with fail
       go_meet
       exact ⟨_,_,_,rfl,Bt HB0.o BP3.o,HK.o.bel BP3.o,qKa HO3.o hz⟩
     ·simp at h0
      obtain ⟨rfl,rfl⟩:=h0
      have R1:=lH (qQb.take PL.o A (by omega))
      by_cases hca:lc=A
      ·subst hca
       have R2:Hi (qQ6 m w (.slice (some ⟨lb,lo,none⟩) 0 0) (L.drop lc)):=lH (by
        rw [List.drop_eq_nil_of_le (by omega)]
        exact qQb.nothing)
       go_region_law (first
 | (refine qQy rfl (.tmp 48) (.tmp 51) 29 rfl qZl (by decide) (base:=wc.heap.size) (l:=[]) rfl ?own rfl (qQb.later R1.o qQd ?bel hm) (fun cs y _ h=>qZz _ cs y h) ?hby ?mx ?bs (fun _ _ _ _ _ h=>h) ?_;(case own=>first | exact own_a wc _ | exact own_b wc _ _ | exact own_c wc);(case bel=>first | exact ((HB0.o.alloc _).alloc _).drew | exact (HB0.o.alloc _).drew);(case hby=>simp <;> omega);(case mx=>simp <;> omega);(case bs=>first | exact Zb _ | (simp;done) | (simp;omega));intro v1 w1 o1 g1 _ f1;have BP:Bel wc w1:=(by first | exact qZ2 g1 (((Br wc).alloc _).alloc _).drew (Zb _) | exact qZ2 g1 (((Br wc).alloc _).alloc _).drew (Nat.le_succ _) | exact qZ2 g1 ((Br wc).alloc _).drew (Zb _));(first | (have XL:Hi (Blk w1 (wc.heap.size+1) [.int .i64 k] 3):=lH (qZ5 (lit_a wc k) g1 (ne_a wc))) | (have XL:Hi (Blk w1 wc.heap.size [.int .i64 k] 3):=lH (qZ5 (lit_b wc k) g1 (ne_b wc))) | skip);have HBP:=lH BP;have SP:=BP.size;have HO1:=lH o1;clear o1 g1 f1 BP)
 | (refine qQy rfl (.tmp 52) (.tmp 54) 29 rfl qZl (by decide) (rd:=qQ3) (base:=wc.heap.size) (l:=[]++L.take lc) (m:=[k]) (B:=fun _=>True) rfl ?own rfl ?row (fun cs y _ h=>qZz _ cs y h) ?hby ?mx ?bs (fun _ _ _ _ _ h=>h) ?_;(case own=>first | exact HO1.o | exact HO1.o.alloc qQd _);(case row=>first | exact qX8 XL.o | exact qX8 (lit_c _ _));(case hby=>simp <;> omega);(case mx=>simp <;> omega);(case bs=>first | exact SP | (simp;omega));intro v2 w2 o2 g2 _ f2;have BP2:Bel wc w2:=(by first | exact Below.own HBP.o (Zb _) HO1.o g2 | exact Below.own (HBP.o.alloc _) (Zb _) (HO1.o.alloc qQd _) g2);have BP2:=lH BP2;have SP2:=BP2.o.size;have HO2:=lH o2;clear o2 g2 f2)
 | (refine qQy rfl (.tmp 55) (.tmp 58) 29 rfl qZl (by decide) (rd:=qQ3) (base:=wc.heap.size) (l:=[]++L.take lc++[k]) (m:=L.drop lc) (B:=(·<m)) rfl HO2.o rfl (qQb.later R2.o qQd (Bt HB0.o BP2.o) hm) (fun cs y _ h=>qZz _ cs y h) ?hby ?mx ?bs (fun _ _ _ _ _ h=>h) ?_;(case hby=>simp <;> omega);(case mx=>simp <;> omega);(case bs=>exact SP2);intro v3 w3 o3 g3 _ f3;have BP3:Bel wc w3:=Below.own BP2.o (Zb _) HO2.o g3;have BP3:=lH BP3;obtain ⟨y3,z3,e3,_,_⟩:=Rf o3.read;rw [hl3] at e3;subst e3;have HO3:=lH o3;clear o3 g3 f3))
       all_goals
        go_wp2_with fail
        go_meet
        exact ⟨_,_,_,rfl,Bt HB0.o BP3.o,HK.o.bel BP3.o,qKa HO3.o hz⟩
      ·have R2:=lH (qQb.drop PL.o A (by omega))
       simp only [Nat.mul_one] at R2
       go_region_law (first
 | (refine qQy rfl (.tmp 48) (.tmp 51) 29 rfl qZl (by decide) (base:=wc.heap.size) (l:=[]) rfl ?own rfl (qQb.later R1.o qQd ?bel hm) (fun cs y _ h=>qZz _ cs y h) ?hby ?mx ?bs (fun _ _ _ _ _ h=>h) ?_;(case own=>first | exact own_a wc _ | exact own_b wc _ _ | exact own_c wc);(case bel=>first | exact ((HB0.o.alloc _).alloc _).drew | exact (HB0.o.alloc _).drew);(case hby=>simp <;> omega);(case mx=>simp <;> omega);(case bs=>first | exact Zb _ | (simp;done) | (simp;omega));intro v1 w1 o1 g1 _ f1;have BP:Bel wc w1:=(by first | exact qZ2 g1 (((Br wc).alloc _).alloc _).drew (Zb _) | exact qZ2 g1 (((Br wc).alloc _).alloc _).drew (Nat.le_succ _) | exact qZ2 g1 ((Br wc).alloc _).drew (Zb _));(first | (have XL:Hi (Blk w1 (wc.heap.size+1) [.int .i64 k] 3):=lH (qZ5 (lit_a wc k) g1 (ne_a wc))) | (have XL:Hi (Blk w1 wc.heap.size [.int .i64 k] 3):=lH (qZ5 (lit_b wc k) g1 (ne_b wc))) | skip);have HBP:=lH BP;have SP:=BP.size;have HO1:=lH o1;clear o1 g1 f1 BP)
 | (refine qQy rfl (.tmp 52) (.tmp 54) 29 rfl qZl (by decide) (rd:=qQ3) (base:=wc.heap.size) (l:=[]++L.take A) (m:=[k]) (B:=fun _=>True) rfl ?own rfl ?row (fun cs y _ h=>qZz _ cs y h) ?hby ?mx ?bs (fun _ _ _ _ _ h=>h) ?_;(case own=>first | exact HO1.o | exact HO1.o.alloc qQd _);(case row=>first | exact qX8 XL.o | exact qX8 (lit_c _ _));(case hby=>simp <;> omega);(case mx=>simp <;> omega);(case bs=>first | exact SP | (simp;omega));intro v2 w2 o2 g2 _ f2;have BP2:Bel wc w2:=(by first | exact Below.own HBP.o (Zb _) HO1.o g2 | exact Below.own (HBP.o.alloc _) (Zb _) (HO1.o.alloc qQd _) g2);have BP2:=lH BP2;have SP2:=BP2.o.size;have HO2:=lH o2;clear o2 g2 f2)
 | (refine qQy rfl (.tmp 55) (.tmp 58) 29 rfl qZl (by decide) (rd:=qQ3) (base:=wc.heap.size) (l:=[]++L.take A++[k]) (m:=L.drop A) (B:=(·<m)) rfl HO2.o rfl (qQb.later R2.o qQd (Bt HB0.o BP2.o) hm) (fun cs y _ h=>qZz _ cs y h) ?hby ?mx ?bs (fun _ _ _ _ _ h=>h) ?_;(case hby=>simp <;> omega);(case mx=>simp <;> omega);(case bs=>exact SP2);intro v3 w3 o3 g3 _ f3;have BP3:Bel wc w3:=Below.own BP2.o (Zb _) HO2.o g3;have BP3:=lH BP3;obtain ⟨y3,z3,e3,_,_⟩:=Rf o3.read;rw [hl3] at e3;subst e3;have HO3:=lH o3;clear o3 g3 f3))
       all_goals
        go_wp2_with fail
        go_meet
        exact ⟨_,_,_,rfl,Bt HB0.o BP3.o,HK.o.bel BP3.o,qKa HO3.o hz⟩
    case rest=>
     obtain ⟨ya,yn,yc,rfl,hB1,hK1,hI⟩:=hcut
     clear q5 q7
     have q5:=hK1.cell 5
     have q7:=hK1.cell 7
     have f5:=hK1.frozen 5
     have f7:=hK1.frozen 7
     simp only [Ze,Zd] at q5 q7
     have HB1:=lH hB1
     have HK1:=lH hK1
     have HI:=lH hI
     clear hB1 hK1 hI HB0 HK
     go_upto_region 22 with fail
     refine qKj (E:=fun W=>∃ ka3 kn3 kc3 sa3 sn3 sc3,Bel w W/\qH5 W.heap.size W w.heap.size (qBg d k p before sb) (.slice aa xa.length ac) (.slice ka3 kn3 kc3) (.slice sa3 sn3 sc3)) ?_ ?_
     ·rw [HSB.o]
      first
       | exact ⟨ya,yn,yc,sa,xs.length,sc,box5 HX.o HL.o HA.o HB1.o HK1.o pa.o PK.o PS.o HI.o hm⟩
       | exact ⟨ka,xk.length,kc,ya,yn,yc,box7 HX.o HL.o HA.o HB1.o HK1.o pa.o PK.o PS.o HI.o hm⟩
     rintro w3 ⟨ka3,kn3,kc3,sa3,sn3,sc3,hB3,hE3,hEa,hEk,hEs⟩
     have hD:Hi (putD d k p before sb=qQn d p (qBg d k p before sb)):=lH rfl
     have n0:=hE3.cell 0
     have n1:=hE3.cell 1
     have n2:=hE3.cell 2
     have n3:=hE3.cell 3
     have n4:=hE3.cell 4
     have n5:=hE3.cell 5
     have n6:=hE3.cell 6
     have n7:=hE3.cell 7
     have n8:=hE3.cell 8
     simp at n0 n1 n2 n3 n4 n5 n6 n7 n8
     have S3:=hB3.size
     have cW:=lH (qQw w3.heap.size _ d p _ _ _ _ w3 ((HV.o.later hB3 hm).raise (by omega)) (Zb _) (by omega) (by omega) hEa hEk hEs)
     rw [<- hD.o] at cW
     have hlenD:(putD d k p before sb).length<=1001:=Za (putD_len d k p before _) (by omega)
     have HB3:=lH hB3
     have hdeep:=qVd (putD d k p before sb) 100 k
     have hpath:=qYh (putD d k p before sb) ((putD d k p before sb).length+1) k
     have HLs:Hi (L=listM (nd d p) sb):=lH (by rw [HSB.o];exact HL.o)
     have HGr:Hi (qV4 (putD d k p before sb) 100 k):=lH (by rw [HSB.o];exact HG.o (by rw [<- HL.o];omega))
     have hdd:qKk (putD d k p before sb) k=qQp (putD d k p before sb) 100 k:=rfl
     clear hE3 hEa hEk hEs hB3 q5 q7 f5 f7
     have HOK:=fun h=>lH (putM_ok (k:=k) HLs.o HAT.o (by omega) h)
     have HDP:=fun h=>lH (zQr (k:=k) HLs.o HAT.o (by omega) h)
     generalize qBg d k (p:Int) before sb=X3 at *
     generalize putD d k (p:Int) before sb=D at *
     rw [hdd] at HOK HDP
     have hpl:qJ3 D k=pathF D (D.length+1) k:=rfl
     rw [<- hpl] at hpath
     clear hpl hdd
     have hDp:∀ h,Hi (putM d k (p:Int) before _=(3,[])):=fun h=>lH (HSB.o▸(HDP h).out)
     have hOk:∀ h,Hi (putM d k (p:Int) before _=(0,D)):=fun h=>lH (HSB.o▸(HOK h).out)
     clear HOK HDP
     by_cases hc:16<((qJ3 D k).length:Int) - 1+(qQp D 100 k:Nat)
     all_goals
      have HR:=by first | exact hDp hc | exact hOk hc
      clear hDp hOk
      go_wp2_with (first
 | (go_at_call 114;refine cW.o.mono ?_;rintro e w4 ⟨b4,x4,rfl,o4⟩;obtain ⟨y4,z4,rfl,_,_⟩:=Rf o4;have HB4:=lH (Bt HB3.o b4);have HD4:=lH o4;have cP:=lH (qXz w4.heap.size _ D k w4 o4 (Zb _) (by omega));clear b4 o4)
 | (go_at_call 144;refine cP.o.mono ?_;rintro e w5 ⟨b5,x5,rfl,o5⟩;obtain ⟨y5,z5,rfl,_,_⟩:=Rf o5.read;have HB5:=lH (Bt HB4.o b5);have HD5:=lH (HD4.o.later b5 (Zb _));have S5:=b5.size;have cD:=lH (qYk 100 w4.heap.size _ D k w5 HD5.o S5 HGr.o (by omega));clear b5 o5)
 | (go_at_call 169;refine cD.o.mono ?_;rintro e w6 ⟨rfl,b6⟩;have HB6:=lH (Bt HB5.o b6);have HD6:=lH ((HD5.o.later b6 S5).raise (Za S5 b6.size));clear b6))
      go_ret2
      first
       | exact ⟨HB6.o,_,rfl,_,by rw [HR.o];rfl,by rw [HR.o];exact qQb.nil⟩
       | exact ⟨HB6.o,_,rfl,_,by rw [HR.o];rfl,by rw [HR.o];exact HD6.o⟩
end Go.Proofs.YtklbmkaomojciaaGreat

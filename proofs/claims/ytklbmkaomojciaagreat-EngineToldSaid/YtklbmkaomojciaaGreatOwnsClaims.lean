/- Who says of what that it is in it: Find, Kids and Inside, walked. -/
import Derived.Test.YtklbmkaomojciaaGreatDiffLone
import Derived.Test.YtklbmkaomojciaaGreatOpensB
set_option maxRecDepth 100000
set_option maxHeartbeats 2000000
namespace Go.Proofs.YtklbmkaomojciaaGreat
open Go.RowKit
theorem zQm {l:Txt} (h:l≠[]):((⟨l.toArray⟩:ByteArray)==⟨#[]⟩)=false:=by
 cases l with
 | nil=>exact absurd rfl h
 | cons a l=>rfl
theorem qG1 {d:Dc} (g:Good d):isM d 0 false=true:=by obtain ⟨r,gr⟩:=g.tree;exact gr.is0
theorem qVe (m:Nat) (v:Value) (d:Dc) (n:Int) (id:Txt) (w:World) (hv:qZb m w v d) (hm:m<=w.heap.size) (g:Good d) :
 Calls Tryz.prog 104 #[v,.int .i64 n,.string ⟨id.toArray⟩] w (Rb (.int .i64 (findD d n id)) w):=by
 have hgl:=qWo g
 by_cases hid:id=[]
 ·subst hid
  have hr:findD d n [] = -1:=by unfold findD;rw [if_pos (by simp)]
  rw [hr]
  obtain ⟨va,vc,rfl,v1,v2⟩:=Rf hv
  go_enter Tryz.func104,Tryz.ntmps104
  go_wp2
  go_ret
  exact ⟨rfl,Br _⟩
 have hb0:(id==[])=false:=by simpa using hid
 have hb0':=zQm hid
 have cI:=lH (qQ6 m _ d n false w hv)
 cases hi:isM d n false with
 | false=>
   rw [hi] at cI
   have hr:findD d n id = -1:=by unfold findD;rw [if_pos (by simp [hi])]
   rw [hr]
   obtain ⟨va,vc,rfl,v1,v2⟩:=Rf hv
   go_enter Tryz.func104,Tryz.ntmps104
   go_wp2_with (go_at_call 56;refine cI.o.mono ?_;rintro e w1 ⟨rfl,rfl⟩)
   go_ret
   exact ⟨rfl,Br _⟩
 | true=>
   rw [hi] at cI
   have hr:findD d n id=((allM d 0).find? (fun k=>decide (said d k idT=id)&&decide (qQ1 d k=qQ1 d n))).getD (-1):=by unfold findD;rw [if_neg (by simp [hi,hid])]
   rw [hr]
   have cS:Hi (∀ W x,Bel w W->Calls Tryz.prog 151 #[v,.int .i64 x] W (Rv (.int .i64 (qQ1 d x)) W)):=lH (fun W x h=>qK2 m v d x W (hv.later h hm) hgl)
   have cN:Hi (∀ W x,Bel w W->Calls Tryz.prog 76 #[v,.int .i64 x,.string ⟨idT.toArray⟩] W (Rb (.tuple #[.string ⟨(said d x idT).toArray⟩,.bool (qKo d x idT).isSome]) W)):=lH (fun W x h=>qZo m v d x idT W (hv.later h hm) (Za hm h.size))
   have cL:=lH (qW8 m v d 0 w hv hm g (qG1 g))
   have hLl:=qV9 g (qG1 g)
   obtain ⟨va,vc,rfl,v1,v2⟩:=Rf hv
   clear hr hi hid hv hgl
   generalize allM d 0=L at *
   generalize hs:qQ1 d n=s at *
   have HSE:=lH hs
   clear hs
   go_enter Tryz.func104,Tryz.ntmps104
   go_wp2_with (first
 | (go_at_call 56;refine cI.o.mono ?_;rintro e w1 ⟨rfl,rfl⟩)
 | (go_at_call 151;refine (cS.o _ _ (Br _)).mono ?_;rintro e w1 ⟨rfl,rfl⟩;rw [HSE.o])
 | (go_at_call 137;refine cL.o.mono ?_;rintro e w2 ⟨b2,y2,rfl,o2⟩;have HL:=lH o2.read;have HB2:=lH b2;obtain ⟨la,lc,rfl,l1,l2⟩:=Rf o2.read;clear b2 o2))
   go_loopw [26] (fun z wr=>∃ j:Nat,j<=L.length/\z=.int .i64 j/\(L.take j).find? (fun k=>decide (said d k idT=id)&&decide (qQ1 d k=s))=none/\Bel w2 wr) (fun z _=>L.length - (intOf z).toNat)
   case atStart=>exact ⟨0,by omega,rfl,rfl,Br _⟩
   case round=>
    obtain ⟨j,hj,rfl,hF,hB⟩:=hrel
    have HF:=lH hF
    have HB:=lH (Bt HB2.o hB)
    have HBW:=lH hB
    have HR:=lH (qQa.later HL.o qQc hB (Zb _))
    clear hF hB
    by_cases hlt:j<L.length
    ·obtain ⟨_,_,_,_,e1,_,_,_,_⟩:=qQa.elem HR.o j hlt
     simp at e1
     obtain ⟨rfl,rfl⟩:=e1
     have cx:=HR.o.int_cell j hlt
     have HN:=lH (fun h=>qDj HF.o hlt h)
     have HH:=lH (fun h=>zZ4 HF.o hlt h)
     clear HR
     generalize L[j]=k at *
     have cNk:=lH (cN.o _ k HB.o)
     have cSk:Hi (∀ W,Bel w W->_):=lH (fun W h=>cS.o W k h)
     generalize (qKo d k idT).isSome=ok2 at *
     by_cases hx:said d k idT=id
     ·have hb:(said d k idT==id)=true:=by simpa using hx
      by_cases hsc:qQ1 d k=s
      ·have hb2:(qQ1 d k==s)=true:=by simpa using hsc
       have HF2:=lH (HH.o (by simp [hx,hsc]))
       clear HN HH hx hsc
       generalize qQ1 d k=sk at *
       generalize said d k idT=sd at *
       go_wp2_with (first
 | (go_at_call 76;refine qQe cNk.o HB fun w4 HB4=>?_;clear cNk)
 | (go_at_call 151;refine (cSk.o _ HB4.o).mono ?_;rintro e w5 ⟨rfl,rfl⟩))
       go_ret
       exact ⟨qQr (by rw [HF2.o];rfl),HB4.o⟩
      ·have hb2:(qQ1 d k==s)=false:=by simpa using hsc
       have HF2:=lH (HN.o (by simp [hsc]))
       clear HN HH hx hsc
       generalize qQ1 d k=sk at *
       generalize said d k idT=sd at *
       go_wp2_with (first
 | (go_at_call 76;refine cNk.o.mono ?_;rintro e w4 ⟨rfl,b4⟩;have HB4:=lH (Bt HB.o b4);have HBW4:=lH (Bt HBW.o b4);clear b4 cNk)
 | (go_at_call 151;refine (cSk.o _ HB4.o).mono ?_;rintro e w5 ⟨rfl,rfl⟩))
       go_roundw
       case rel=>exact ⟨j+1,by omega,by go_num,HF2.o,HBW4.o⟩
       case measure=>simp [intOf];omega
     ·have hb:(said d k idT==id)=false:=by simpa using hx
      have HF2:=lH (HN.o (by simp [hx]))
      clear HN HH hx
      generalize qQ1 d k=sk at *
      generalize said d k idT=sd at *
      go_wp2_with (go_at_call 76;refine qQe cNk.o HBW fun w4 HBW4=>?_;clear cNk)
      go_roundw
      case rel=>exact ⟨j+1,by omega,by go_num,HF2.o,HBW4.o⟩
      case measure=>simp [intOf];omega
    ·have HE:Hi (L.find? (fun k=>decide (said d k idT=id)&&decide (qQ1 d k=s))=none):=lH (by have:=HF.o;rwa [Zn (by omega)] at this)
     clear HR
     go_wp2
     go_ret
     exact ⟨qQr (by rw [HE.o];rfl),HB.o⟩
theorem clm_take {l:List Clm} {n:Int} {i:Nat} (hi:i<l.length):((l.take (i+1)).filter (fun c=>c.owner==n)).map (·.kid)=((l.take i).filter (fun c=>c.owner==n)).map (·.kid)++if l[i].owner=n then [l[i].kid] else []:=by
 rw [Zk hi,List.filter_append,List.map_append]
 by_cases h:l[i].owner=n <;> simp [h]
theorem qG9 (m:Nat) (u:Value) (l:List Clm) (k:Int) (g1:Nat) (w:World) (hu:qBx m w u l) (hm:m<=w.heap.size) (h1:w.cell? ⟨g1,0,none⟩=some u) :
 Calls Tryz.prog 189 #[.int .i64 k,.pointer (some ⟨g1,0,none⟩)] w (Rb (.bool (!decide (ownerM l k<0))) w):=by
 have cO:=lH (qXw m u l k w hu hm)
 obtain ⟨ua,uc,rfl,_,_⟩:=Rf hu
 clear hu
 generalize ownerM l k=o at *
 by_cases ho:o<0
 ·go_enter Tryz.func189,Tryz.ntmps189
  go_wp2_with (go_at_call 122;refine qKb cO.o fun w2 HB2=>?_)
  go_ret
  exact ⟨qJj (by first | (simp;omega) | simp [ho] | (simp [ho];omega)),HB2.o⟩
 ·go_enter Tryz.func189,Tryz.ntmps189
  go_wp2_with (go_at_call 122;refine qKb cO.o fun w2 HB2=>?_)
  go_ret
  exact ⟨qJj (by first | (simp;omega) | simp [ho] | (simp [ho];omega)),HB2.o⟩
theorem zYo {d:Dc} (g:Good d) (l:List Clm) (n:Int) (hl:l.length<=1000):(qQs d l n).length<=1012:=by
 unfold qQs
 have h1:=List.length_filter_le (fun k=>decide (ownerM l k<0)) (kidsR d n)
 have h2:=List.length_filter_le (fun c:Clm=>c.owner==n) l
 have h3:=qDo g n
 simp only [Zj,List.length_map]
 omega
theorem qW0 (m:Nat) (v u:Value) (d:Dc) (l:List Clm) (n:Int) (w:World) (hv:qZb m w v d) (hu:qBx m w u l) (hm:m<=w.heap.size) (g:Good d) (hl:l.length<=1000) :
 Calls Tryz.prog 152 #[v,u,.int .i64 n] w (Rn w fun w' y=>qQb 1 qQf w.heap.size 3 w' y (qQs d l n)):=by
 obtain ⟨va,vc,rfl,_,_⟩:=Rf hv
 obtain ⟨ua,uc,rfl,u1,u2⟩:=Rf hu
 obtain ⟨W0,hW0⟩:∃ W0,W0=w.alloc (.cells #[.slice ua l.length uc] 26):=⟨_,rfl⟩
 have hB0:Bel w W0:=by rw [hW0];exact (Br w).alloc _
 have hk0:Blk W0 w.heap.size [.slice ua l.length uc] 26:=by rw [hW0];exact Blk.new' w _ rfl _ _
 have hm0:m<=W0.heap.size:=Za hm hB0.size
 have HU0:=lH (qQa.later hu qZh hB0 hm)
 have cK:=lH (qW7 m _ d n W0 (hv.later hB0 hm) hm0 g)
 have hkl:=qDo g n
 have hTells:∀ W,Bel W0 W->zHt 189 #[.pointer (some ⟨w.heap.size,0,none⟩)] (fun x=>!decide (ownerM l x<0)) W0.heap.size W:=by
  intro W hW W' hW' x
  have hb':Bel W0 W':=Below.trans hW hW'
  exact qG9 m _ l x w.heap.size W' (qQa.later HU0.o qZh hb' hm0) (Za hm0 hb'.size) ((hk0.bel hb').cell 0)
 have eG:=enters_of (P:=Tryz.prog) Tryz.func189 (by kernel_rfl) rfl
 have hio:qQs d l n=(kidsR d n).filter (fun x=>!(!decide (ownerM l x<0)))++(l.filter (fun c=>c.owner==n)).map (·.kid):=by unfold qQs;simp
 have HIO:=lH hio
 clear hio
 generalize kidsR d n=K at *
 have cD:Hi (∀ W y,Bel W0 W->qQb 1 qQf W0.heap.size 3 W y K->Calls Tryz.prog 181 #[y,.func (.func 189) #[] #[.pointer (some ⟨w.heap.size,0,none⟩)]] W fun e w'=>Below W0.heap.size W w'/\∃ y,e=.returned y/\qQb 1 qQf W0.heap.size 3 w' y (K.filter (fun x=>!(!decide (ownerM l x<0))))):=lH (fun W y hW hy=>
  qXh 189 _ (fun x=>!decide (ownerM l x<0)) eG W0.heap.size y K W hy hW.size (by omega) (hTells W hW))
 have hKf:=List.length_filter_le (fun x=>!(!decide (ownerM l x<0))) K
 generalize K.filter (fun x=>!(!decide (ownerM l x<0)))=G at *
 have HB0:=lH hB0
 have HK0:=lH hk0
 have x0:=hk0.cell 0
 simp only [Zd] at x0
 clear hTells eG hv hu hB0 hk0
 go_enter Tryz.func152,Tryz.ntmps152
 go_upto_region 1 with fail
 rw [<- hW0]
 clear hW0
 go_wp2_with (first
 | (go_at_call 170;refine cK.o.mono ?_;rintro e w2 ⟨b2,y2,rfl,o2⟩;have HB2:=lH b2;have HO2:=lH o2;obtain ⟨ya,yc,rfl,_,_⟩:=Rf o2.read;clear b2 o2)
 | (go_at_call 181;refine (cD.o _ _ HB2.o HO2.o).mono ?_;rintro e w3 ⟨b3,y3,rfl,o3⟩;have x0:=(HK0.o.below (Below.trans HB2.o b3) HK0.o.lt).cell 0;simp only [Zd] at x0;have HB3:=lH (Below.trans HB2.o b3);have HO3:=lH o3;clear b3 o3))
 go_loopw [17,7] (fun z o wr=>∃ j:Nat,j<=l.length/\z=.int .i64 j/\qQb 1 qQf W0.heap.size 3 wr o (G++((l.take j).filter (fun c=>c.owner==n)).map (·.kid))/\Bel W0 wr) (fun z _ _=>l.length - (intOf z).toNat)
 case atStart=>exact ⟨0,by omega,rfl,by simpa using HO3.o,HB3.o⟩
 case round=>
  obtain ⟨j,hj,rfl,hO,hB⟩:=hrel
  have HO:=lH hO
  have HB:=lH hB
  have S0:=hB.size
  have hol:=List.length_filter_le (fun c:Clm=>c.owner==n) (l.take j)
  have htl:=List.length_take_le' j l
  obtain ⟨oa,oc,rfl,o1,o2⟩:=Rf hO.read
  have hR:=qQa.later HU0.o qZh hB hm0
  have hgl:(G++((l.take j).filter (fun c=>c.owner==n)).map (·.kid)).length<=1012:=by simp only [Zj,List.length_map];omega
  clear hO hB x0
  by_cases hlt:j<l.length
  ·obtain ⟨_,_,_,_,e1,_,_,_,_⟩:=qQa.elem hR j hlt
   simp at e1
   obtain ⟨rfl,rfl⟩:=e1
   obtain ⟨c0,c1⟩:=qFd hR j hlt
   have hst:=lH (clm_take (n:=n) hlt)
   clear hR
   generalize hE:((l.take j).filter (fun c=>c.owner==n)).map (·.kid)=E at *
   clear hE
   generalize l[j]=x at *
   obtain ⟨xo,xk⟩:=x
   simp only at c0 c1 hst
   by_cases hx:xo=n
   ·have hb:(xo==n)=true:=by simpa using hx
    have hs2:=lH (hst.o.trans (by rw [if_pos hx]))
    clear hst hx
    generalize hGE:G++E=GE at *
    have HGE:=lH hGE
    clear hGE
    go_wp2_with (at_builtin;go_must (refine qKx rfl _ _ _ rfl qJm (by decide) qQc qKy rfl (HO.o.alloc qQc _) rfl ?hg xk ⟨rfl,rfl⟩ ?hb1 ?hb2 ?hb3 ?_);(case hg=>simp);(case hb1=>omega);(case hb2=>omega);(case hb3=>simp;omega);intro v1 w1 o1 g1;have HO1:=lH o1;have HB1:=lH (Below.own (HB.o.alloc _) (Zb _) (HO.o.alloc qQc _) g1);clear o1 g1)
    go_roundw
    case rel=>exact ⟨j+1,by omega,by go_num,(by rw [hs2.o,<- List.append_assoc,HGE.o];exact HO1.o),HB1.o⟩
    case measure=>simp [intOf];omega
   ·have hb:(xo==n)=false:=by simpa using hx
    have hs2:=lH (hst.o.trans (by rw [if_neg hx,List.append_nil]))
    clear hst hx
    generalize hGE:G++E=GE at *
    have HGE:=lH hGE
    clear hGE
    go_wp2
    go_roundw
    case rel=>exact ⟨j+1,by omega,by go_num,(by rw [hs2.o,HGE.o];exact HO.o.alloc qQc _),HB.o.alloc _⟩
    case measure=>simp [intOf];omega
  ·have hT:l.take j=l:=Zn (by omega)
   rw [hT] at HO hgl ⊢
   clear hT hR
   generalize hE:G++(l.filter (fun c=>c.owner==n)).map (·.kid)=E at *
   have HE:Hi (qQs d l n=E):=HIO
   clear hE
   go_wp2
   go_ret
   exact ⟨Below.trans HB0.o (Below.mono HB.o HB0.o.size),_,rfl,by rw [HE.o];exact HO.o.base_le HB0.o.size⟩
end Go.Proofs.YtklbmkaomojciaaGreat
set_option maxRecDepth 100000
set_option maxHeartbeats 4000000
namespace Go.Proofs.YtklbmkaomojciaaGreat
open Go.RowKit
theorem qJn {d:Dc} (g:Good d) (n:Int) (s:Txt):(said d n s).length<=60:=by
 unfold said qKo
 split
 ·unfold qZ9
  cases h:(nd d n).attrs.find? (fun a=>a.name==s) with
  | none=>simp
  | some a=>
    obtain ⟨r,gr⟩:=g.tree
    have:=((gr.ok n).atts a (List.mem_of_find?_eq_some h)).2
    simpa using this
 ·simp
theorem toks_nil:toks []=[]:=rfl
theorem zXx {d:Dc} {S:List Int} {i:Nat} (hi:i<S.length):(S.take (i+1)).foldl (qZ2 d) []=qZ2 d ((S.take i).foldl (qZ2 d) []) S[i]:=by
 rw [Zk hi,List.foldl_append];rfl
theorem zBw {d:Dc} {n:Int} {l:List Clm} {T:List Txt} {i:Nat} (hi:i<T.length):(T.take (i+1)).foldl (qZg d n) l=qZg d n ((T.take i).foldl (qZg d n) l) T[i]:=by
 rw [Zk hi,List.foldl_append];rfl
structure Keeps (n0:Nat) (wt wr:World) (o:Value):Prop where
 same:qZs (fun b=>n0<=b/\b<wt.heap.size) wt wr
 out:∀ b,o.ownBlock=some b->b<n0∨wt.heap.size<=b
 size:wt.heap.size<=wr.heap.size
theorem Keeps.later {n0:Nat} {wt wr w':World} {o:Value} (h:Keeps n0 wt wr o) (b:Bel wr w'):Keeps n0 wt w' o:=
 ⟨h.same.trans (qZs.mono (qZs.below b) (fun _ hb=>Zc hb.2 h.size)),h.out,Za h.size b.size⟩
theorem Keeps.grown {n0:Nat} {wt wr w':World} {o v:Value} (h:Keeps n0 wt wr o) (g:wr.grownBy w' o.ownBlock) (f:qZe wr o v):Keeps n0 wt w' v:=by
 refine ⟨h.same.trans (qZs.grown g (fun b hb=>⟨Zc hb.2 h.size,fun e=>?_⟩)),fun b hb=>?_,Za h.size g.size⟩
 ·have:=h.out b e.symm;omega
 ·rcases f with f | ⟨k,f,hk⟩
  ·rw [f] at hb;exact h.out b hb
  ·rw [f] at hb
   have:k=b:=Option.some.inj hb
   right
   have:=h.size
   omega
theorem qGn (m:Nat) (v:Value) (d:Dc) (w:World) (hv:qZb m w v d) (hm:m<=w.heap.size) (g:Good d) :
 Calls Tryz.prog 72 #[v] w (Rn w fun w' y=>qQb 2 qVh w.heap.size 91 w' y (qZ0 d)):=by
 obtain ⟨va,vc,rfl,v1,v2⟩:=Rf hv
 have cSh:=lH (qFh m _ d w hv hm g)
 have hsl:=zJ8 g
 have cA:Hi (∀ W n,Bel w W->Calls Tryz.prog 76 #[.slice va d.length vc,.int .i64 n,.string ⟨ownsT.toArray⟩] W (Rb (.tuple #[.string ⟨(said d n ownsT).toArray⟩,.bool (qKo d n ownsT).isSome]) W)):=lH (fun W n h=>qZo m _ d n ownsT W (hv.later h hm) (Za hm h.size))
 have cF:Hi (∀ W n id,Bel w W->Calls Tryz.prog 104 #[.slice va d.length vc,.int .i64 n,.string ⟨id.toArray⟩] W (Rb (.int .i64 (findD d n id)) W)):=lH (fun W n id h=>qVe m _ d n id W (hv.later h hm) (Za hm h.size) g)
 have cIn:Hi (∀ W u l n k,Bel w W->qBx W.heap.size W u l->ClmOk d l->Calls Tryz.prog 123 #[.slice va d.length vc,u,.int .i64 n,.int .i64 k] W (Rb (.bool (onB d l n k)) W)):=lH (fun W u l n k h hu hc=>zJ3 W.heap.size _ u d l n k W ((hv.later h hm).raise (Za hm h.size)) hu (Zb _) g hc)
 have HG:=lH g
 have HCM:Hi (qZ0 d=(shownR d).foldl (qZ2 d) []):=lH rfl
 have HSD:=lH (qJn g)
 have hON:∀ n,(qKo d n ownsT).isSome=false->said d n ownsT=[]:=fun n h=>by
  unfold said
  cases h2:qKo d n ownsT with
  | none=>rfl
  | some a=>rw [h2] at h;simp at h
 have HON:=lH hON
 have HALL:Hi (∀ n∈shownR d,n∈shownR d):=lH (fun _ h=>h)
 have HST:Hi (∀ n (l:List Clm) id,qZg d n l id=if findD d n id<1||!(shownR d).contains (findD d n id)||decide (0<=ownerM l (findD d n id))||onB d l n (findD d n id) then l else l++[⟨n,findD d n id⟩]):=lH (fun _ _ _=>rfl)
 clear hv g hON
 generalize hS:shownR d=S at *
 go_enter Tryz.func72,Tryz.ntmps72
 go_wp2_with (go_at_call 121;refine cSh.o.mono ?_;rintro e w1 ⟨b1,y1,rfl,o1⟩;have HS:=lH o1.read;have HB1:=lH b1;obtain ⟨sa,sc,rfl,s1,s2⟩:=Rf o1.read;clear b1 o1)
 go_loopw [16,3] (fun z o wr=>∃ i:Nat,i<=S.length/\z=.int .i64 i/\qQb 2 qVh w1.heap.size 91 wr o ((S.take i).foldl (qZ2 d) [])/\Bel w1 wr) (fun z _ _=>S.length - (intOf z).toNat)
 case atStart=>exact ⟨0,by omega,rfl,qQb.nil _ _ _,Br _⟩
 case round=>
  obtain ⟨i,hi,rfl,hO,hB⟩:=hrel
  have HO:=lH hO
  have HB:=lH (Bt HB1.o hB)
  have HBW:=lH hB
  have HR:=lH (qQa.later HS.o qQc hB (Zb _))
  obtain ⟨oa,oc,rfl,o1,o2⟩:=Rf hO.read
  clear hO hB
  by_cases hlt:i<S.length
  ·obtain ⟨sb,so,_,_,e1,_,_,_,_⟩:=qQa.elem HR.o i hlt
   simp at e1
   obtain ⟨rfl,rfl⟩:=e1
   have cx:=HR.o.int_cell i hlt
   have hnS:S[i]∈S:=Zl hlt
   have HOK:Hi (ClmOk d ((S.take i).foldl (qZ2 d) [])):=lH (ClmOk.all HG.o _ _ (fun x hx=>by rw [hS];exact List.mem_of_mem_take hx) (ClmOk.nil HG.o))
   have hct:=zXx (d:=d) hlt
   have HCT:Hi ((S.take (i+1)).foldl (qZ2 d) []=(toks (said d S[i] ownsT)).foldl (qZg d S[i]) ((S.take i).foldl (qZ2 d) [])):=lH hct
   clear HR hct
   generalize hOut:(S.take i).foldl (qZ2 d) []=out at *
   clear hOut
   have hcf:=qHg HG.o HOK.o
   have hsd:=HSD.o S[i] ownsT
   have cAn:=lH (cA.o _ S[i] HB.o)
   have hON:=lH (HON.o S[i])
   generalize hn:S[i]=n at *
   have HNS:Hi (n∈shownR d):=lH (by rw [hS];exact hnS)
   clear hn hnS
   generalize said d n ownsT=sd at *
   cases hok:(qKo d n ownsT).isSome with
   | false=>
     rw [hok] at cAn hON
     have hsd0:=hON.o rfl
     subst hsd0
     have HF:Hi ((S.take (i+1)).foldl (qZ2 d) []=out):=lH (HCT.o.trans (by rw [toks_nil];rfl))
     clear HCT hok hON
     go_wp2_with (go_at_call 76;refine cAn.o.mono ?_;rintro e w2 ⟨rfl,b2⟩;have HBW2:=lH (Bt HBW.o b2);have HO2:=lH (HO.o.below b2 (Zb _) (fun _ _ _ h=>h));clear b2)
     go_roundw
     case rel=>exact ⟨i+1,by omega,by go_num,(by rw [HF.o];exact HO2.o),HBW2.o⟩
     case measure=>simp [intOf];omega
   | true=>
     rw [hok] at cAn
     clear hok hON
     have cT:Hi (∀ W,Calls Tryz.prog 103 #[.string ⟨sd.toArray⟩] W (Rn W fun w' v=>qQb 1 qB3 W.heap.size 9 w' v (toks sd))):=lH (fun W=>qYj sd W (by omega))
     have htl:=qY9 sd
     generalize hT:toks sd=T at *
     clear hT
     go_wp2_with (first
 | (go_at_call 76;refine cAn.o.mono ?_;rintro e w2 ⟨rfl,b2⟩;have HBW2:=lH (Bt HBW.o b2);have HB2:=lH (Bt HB.o b2);have HO2:=lH (HO.o.below b2 (Zb _) (fun _ _ _ h=>h));clear b2)
 | (go_at_call 103;refine (cT.o _).mono ?_;rintro e w3 ⟨b3,y3,rfl,o3⟩;have HT:=lH o3;have HBW3:=lH (Bt HBW2.o b3);have HO3:=lH (HO2.o.below b3 (Zb _) (fun _ _ _ h=>h));obtain ⟨ta,tc,rfl,t1,t2⟩:=Rf o3.read;have hlo:=fun b hb=>(HO2.o.lt b hb).2;have HK:=lH (show Keeps w2.heap.size w3 w3 (.slice oa out.length oc) from ⟨qZs.refl _ _,fun b hb=>.inl (hlo b hb),Zb _⟩);clear b3 o3 hlo))
     go_loopw [31,3] (fun z o wr=>∃ j:Nat,j<=T.length/\z=.int .i64 j/\qQb 2 qVh w1.heap.size 91 wr o ((T.take j).foldl (qZg d n) out)/\Bel w1 wr/\Keeps w2.heap.size w3 wr o) (fun z _ _=>T.length - (intOf z).toNat)
     case atStart=>exact ⟨0,by omega,rfl,HO3.o,HBW3.o,HK.o⟩
     case round=>
      clear o1 o2 cx
      obtain ⟨j,hj,rfl,hO,hB,hK⟩:=hrel
      have HO:=lH hO
      have HB:=lH (Bt HB1.o hB)
      have HBW:=lH hB
      have HK:=lH hK
      have S0:=hB.size
      have hR:qQa 1 qB3 (fun b=>w2.heap.size<=b/\b<w3.heap.size) _ (.slice ta T.length tc) T:=qQa.agree (HT.o.row.mono (fun _ h=>⟨h.1,h.2.1⟩) (fun _ _ _ h=>h)) hK.same (fun _ _ _ h=>h)
      have hRS:=qQa.later HS.o qQc hB (Zb _)
      obtain ⟨oa,oc,rfl,o1,o2⟩:=Rf hO.read
      clear hO hB hK
      by_cases hlt2:j<T.length
      ·obtain ⟨_,_,_,_,e1,_,_,_,_⟩:=qQa.elem hR j hlt2
       simp at e1
       obtain ⟨rfl,rfl⟩:=e1
       have cw:=qQa.str_cell hR j hlt2
       have HOKj:Hi (ClmOk d ((T.take j).foldl (qZg d n) out)):=lH (ClmOk.of HG.o HNS.o _ _ HOK.o)
       have HSTj:Hi ((T.take (j+1)).foldl (qZg d n) out=_):=lH ((zBw hlt2).trans (HST.o _ _ _))
       clear hR
       generalize hOut2:(T.take j).foldl (qZg d n) out=out2 at *
       clear hOut2
       have hcf2:=qHg HG.o HOKj.o
       generalize T[j]=id at *
       have cFi:=lH (cF.o _ n id HB.o)
       generalize findD d n id=k at *
       have cCo:=lH (fun W (h:qKf w1.heap.size W (.slice (some ⟨sb,so,none⟩) S.length sc) S)=>qJf w1.heap.size _ S k W h)
       have HRS:Hi (∀ W,Bel _ W->qKf w1.heap.size W (.slice (some ⟨sb,so,none⟩) S.length sc) S):=lH (fun W h=>qQa.later hRS qQc h S0)
       have cOw:Hi (∀ W u,qBx W.heap.size W u out2->Calls Tryz.prog 122 #[u,.int .i64 k] W (Rb (.int .i64 (ownerM out2 k)) W)):=lH (fun W u h=>qXw W.heap.size u out2 k W h (Zb _))
       have cInk:Hi (∀ W u,Bel w W->qBx W.heap.size W u out2->Calls Tryz.prog 123 #[.slice va d.length vc,u,.int .i64 n,.int .i64 k] W (Rb (.bool (onB d out2 n k)) W)):=lH (fun W u h hu=>cIn.o W u out2 n k h hu HOKj.o)
       clear hRS
       generalize S.contains k=sk at *
       generalize ownerM out2 k=ow at *
       generalize onB d out2 n k=on at *
       have hskip:Hi (k<1∨sk=false∨0<=ow∨on=true->(T.take (j+1)).foldl (qZg d n) out=out2):=lH (fun h=>by
        rw [HSTj.o,if_pos]
        rcases h with h | h | h | h <;> simp [h])
       have htake:Hi (¬ k<1->sk=true->¬ 0<=ow->on=false->(T.take (j+1)).foldl (qZg d n) out=out2++[⟨n,k⟩]):=lH (fun h1 h2 h3 h4=>by
        rw [HSTj.o,if_neg (by simp [h2,h4];omega)])
       clear HSTj HOKj
       by_cases hk1:k<1
       ·have HF:=lH (hskip.o (.inl hk1))
        clear hskip htake
        go_wp2_with (go_at_call 104;refine cFi.o.mono ?_;rintro e w4 ⟨rfl,b4⟩;have HBW4:=lH (Bt HBW.o b4);have HO4:=lH (HO.o.below b4 (Zb _) (fun _ _ _ h=>h));have HK4:=lH (HK.o.later b4);clear b4)
        go_roundw
        case rel=>exact ⟨j+1,by omega,by go_num,(by rw [HF.o];exact HO4.o),HBW4.o,HK4.o⟩
        case measure=>simp [intOf];omega
       cases hsk:sk with
       | false=>
         have HF:=lH (hskip.o (.inr (.inl hsk)))
         rw [hsk] at cCo
         clear hskip htake hsk
         go_wp2_with (first
 | (go_at_call 104;refine cFi.o.mono ?_;rintro e w4 ⟨rfl,b4⟩;have HBW4:=lH (Bt HBW.o b4);have HO4:=lH (HO.o.below b4 (Zb _) (fun _ _ _ h=>h));have HK4:=lH (HK.o.later b4);have HRS4:=lH (HRS.o _ b4);clear b4)
 | (go_at_call 91;refine (cCo.o _ HRS4.o).mono ?_;rintro e w5 ⟨rfl,rfl⟩))
         go_roundw
         case rel=>exact ⟨j+1,by omega,by go_num,(by rw [HF.o];exact HO4.o),HBW4.o,HK4.o⟩
         case measure=>simp [intOf];omega
       | true=>
         rw [hsk] at cCo
         by_cases how:0<=ow
         ·have HF:=lH (hskip.o (.inr (.inr (.inl how))))
          clear hskip htake hsk
          go_wp2_with (first
 | (go_at_call 104;refine cFi.o.mono ?_;rintro e w4 ⟨rfl,b4⟩;have HBW4:=lH (Bt HBW.o b4);have HO4:=lH (HO.o.below b4 (Zb _) (fun _ _ _ h=>h));have HK4:=lH (HK.o.later b4);have HRS4:=lH (HRS.o _ b4);clear b4)
 | (go_at_call 91;refine (cCo.o _ HRS4.o).mono ?_;rintro e w5 ⟨rfl,rfl⟩)
 | (go_at_call 122;refine (cOw.o _ _ HO4.o.read).mono ?_;rintro e w6 ⟨rfl,b6⟩;have HBW6:=lH (Bt HBW4.o b6);have HO6:=lH (HO4.o.below b6 (Zb _) (fun _ _ _ h=>h));have HK6:=lH (HK4.o.later b6);clear b6))
          go_roundw
          case rel=>exact ⟨j+1,by omega,by go_num,(by rw [HF.o];exact HO6.o),HBW6.o,HK6.o⟩
          case measure=>simp [intOf];omega
         ·cases hon:on with
          | true=>
            have HF:=lH (hskip.o (.inr (.inr (.inr hon))))
            rw [hon] at cInk
            clear hskip htake hsk hon
            go_wp2_with (first
 | (go_at_call 104;refine cFi.o.mono ?_;rintro e w4 ⟨rfl,b4⟩;have HBW4:=lH (Bt HBW.o b4);have HO4:=lH (HO.o.below b4 (Zb _) (fun _ _ _ h=>h));have HK4:=lH (HK.o.later b4);have HRS4:=lH (HRS.o _ b4);clear b4)
 | (go_at_call 91;refine (cCo.o _ HRS4.o).mono ?_;rintro e w5 ⟨rfl,rfl⟩)
 | (go_at_call 122;refine (cOw.o _ _ HO4.o.read).mono ?_;rintro e w6 ⟨rfl,b6⟩;have HBW6:=lH (Bt HBW4.o b6);have HO6:=lH (HO4.o.below b6 (Zb _) (fun _ _ _ h=>h));have HK6:=lH (HK4.o.later b6);clear b6)
 | (go_at_call 123;refine (cInk.o _ _ (Bt HB1.o HBW6.o) HO6.o.read).mono ?_;rintro e w7 ⟨rfl,b7⟩;have HBW7:=lH (Bt HBW6.o b7);have HO7:=lH (HO6.o.below b7 (Zb _) (fun _ _ _ h=>h));have HK7:=lH (HK6.o.later b7);clear b7))
            go_roundw
            case rel=>exact ⟨j+1,by omega,by go_num,(by rw [HF.o];exact HO7.o),HBW7.o,HK7.o⟩
            case measure=>simp [intOf];omega
          | false=>
            have HF:=lH (htake.o hk1 hsk how hon)
            rw [hon] at cInk
            clear hskip htake hsk hon
            go_wp2_with (first
 | (at_builtin;go_must (refine qGi rfl _ _ _ rfl slt_clms (by decide) (rd:=qVh) (n0:=w1.heap.size) ?ha0 (fun _ _ _ _ _ h=>h) one_clm (base:=w1.heap.size) ?ha1 rfl HO7.o rfl ?hg (⟨n,k⟩:Clm) ⟨rfl,rfl⟩ ?hb1 ?hb2 ?hb3 ?_);(case ha0=>exact HBW7.o.size);(case ha1=>exact Zb _);(case hg=>rfl);(case hb1=>omega);(case hb2=>omega);(case hb3=>exact HBW7.o.size);intro v8 w8 o8 g8 f8;have HO8:=lH o8;have HBW8:=lH (Below.own HBW7.o (Zb _) HO7.o g8);have HK8:=lH (HK7.o.grown g8 f8);clear o8 g8 f8)
 | (go_at_call 104;refine cFi.o.mono ?_;rintro e w4 ⟨rfl,b4⟩;have HBW4:=lH (Bt HBW.o b4);have HO4:=lH (HO.o.below b4 (Zb _) (fun _ _ _ h=>h));have HK4:=lH (HK.o.later b4);have HRS4:=lH (HRS.o _ b4);clear b4)
 | (go_at_call 91;refine (cCo.o _ HRS4.o).mono ?_;rintro e w5 ⟨rfl,rfl⟩)
 | (go_at_call 122;refine (cOw.o _ _ HO4.o.read).mono ?_;rintro e w6 ⟨rfl,b6⟩;have HBW6:=lH (Bt HBW4.o b6);have HO6:=lH (HO4.o.below b6 (Zb _) (fun _ _ _ h=>h));have HK6:=lH (HK4.o.later b6);clear b6)
 | (go_at_call 123;refine (cInk.o _ _ (Bt HB1.o HBW6.o) HO6.o.read).mono ?_;rintro e w7 ⟨rfl,b7⟩;have HBW7:=lH (Bt HBW6.o b7);have HO7:=lH (HO6.o.below b7 (Zb _) (fun _ _ _ h=>h));have HK7:=lH (HK6.o.later b7);clear b7))
            go_roundw
            case rel=>exact ⟨j+1,by omega,by go_num,(by rw [HF.o];exact HO8.o),HBW8.o,HK8.o⟩
            case measure=>simp [intOf];omega
      ·have hT2:T.take j=T:=Zn (by omega)
       rw [hT2] at HO ⊢
       have HE:=HCT
       clear hR hRS hT2 HCT
       generalize T.foldl (qZg d n) out=out3 at *
       go_wp2
       go_roundw
       case rel=>exact ⟨i+1,by omega,by go_num,(by rw [HE.o];exact HO.o),HBW.o⟩
       case measure=>simp [intOf];omega
  ·have hT2:S.take i=S:=Zn (by omega)
   rw [hT2] at HO ⊢
   clear hT2 HR
   generalize S.foldl (qZ2 d) []=out at *
   go_wp2
   go_ret
   exact ⟨HB.o,_,rfl,by rw [HCM.o];exact HO.o.base_le HB1.o.size⟩
end Go.Proofs.YtklbmkaomojciaaGreat

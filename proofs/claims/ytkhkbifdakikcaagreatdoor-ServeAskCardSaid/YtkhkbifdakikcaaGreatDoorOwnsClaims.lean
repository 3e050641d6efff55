/- Who says of what that it is in it: Find, Kids and Inside, walked. -/
import Derived.Test.YtkhkbifdakikcaaGreatDoorDiffLone
set_option maxRecDepth 100000
set_option maxHeartbeats 2000000
namespace Go.Proofs.YtkhkbifdakikcaaGreatDoor
open Go.RowKit
variable {d:Dc} {n:Int} {l:List Clm} {i n0:Nat} {o:Value} {w' wr wt:World}
theorem zZf {l:Txt} (h:l≠[]):((⟨l.toArray⟩:ByteArray)==⟨#[]⟩)=false:=by
 cases l with
 | nil=>exact absurd rfl h
 | cons a l=>rfl
theorem qFg (g:Good d):isM d 0 false=true:=by obtain ⟨r,G⟩:=g.tree;exact G.is0
theorem qVk (m:Nat) (v:Value) (d:Dc) (n:Int) (I:Txt) (w:World) (hv:qZh m w v d) (hm:m<=w.heap.size) (g:Good d) :
 Calls Tryz.prog 41 #[v,.int .i64 n,.string ⟨I.toArray⟩] w (Rb (.int .i64 (findD d n I)) w):=by
 have P:=qWw g;by_cases p:I=[]
 ·subst p;have r:findD d n [] = -1:=by unfold findD;rw [if_pos (by simp)]
  rw [r];obtain ⟨Y,Z,rfl,V,X⟩:=Rf hv;go_enter Tryz.func41,Tryz.ntmps41
  go_wp2;go_ret;exact ⟨rfl,Br _⟩
 have a3:(I==[])=false:=by simpa using p
 have a4:=zZf p;have C:=lH (qQ5 m _ d n false w hv);cases f:isM d n false with
 | false=>
   rw [f] at C;have r:findD d n I = -1:=(by unfold findD;rw [if_pos (by simp [f])]);rw [r];obtain ⟨Y,Z,rfl,V,X⟩:=Rf hv;go_enter Tryz.func41,Tryz.ntmps41
   go_wp2_with (go_at_call 13;refine C.o.mono ?_;rintro e w1 ⟨rfl,rfl⟩)
   go_ret;exact ⟨rfl,Br _⟩
 | true=>
   rw [f] at C;have r:findD d n I=((allM d 0).find? (fun k=>decide (said d k idT=I)&&decide (qQ3 d k=qQ3 d n))).getD (-1):=(by unfold findD;rw [if_neg (by simp [f,p])]);rw [r];have S:Hi (∀ W x,Bel w W->Calls Tryz.prog 78 #[v,.int .i64 x] W (Rv (.int .i64 (qQ3 d x)) W)):=lH (fun W x h=>qXb m v d x W (hv.later h hm) P);have cN:Hi (∀ W x,Bel w W->Calls Tryz.prog 39 #[v,.int .i64 x,.string ⟨idT.toArray⟩] W (Rb (.tuple #[.string ⟨(said d x idT).toArray⟩,.bool (qKr d x idT).isSome]) W)):=lH (fun W x h=>qZv m v d x idT W (hv.later h hm) (Za hm h.size));have cL:=lH (qBm m v d 0 w hv hm g (qFg g));have a2:=qVu g (qFg g);obtain ⟨Y,Z,rfl,V,X⟩:=Rf hv;clear r f p hv P;generalize allM d 0=L at *
   generalize Q:qQ3 d n=s at *
   have a1:=lH Q;clear Q;go_enter Tryz.func41,Tryz.ntmps41
   go_wp2_with (first
 | (go_at_call 13;refine C.o.mono ?_;rintro e w1 ⟨rfl,rfl⟩)
 | (go_at_call 78;refine (S.o _ _ (Br _)).mono ?_;rintro e w1 ⟨rfl,rfl⟩;rw [a1.o])
 | (go_at_call 46;refine cL.o.mono ?_;rintro e w2 ⟨G,y2,rfl,O⟩;have HL:=lH O.read;have a0:=lH G;obtain ⟨la,lc,rfl,l1,l2⟩:=Rf O.read;clear G O))
   go_loopw [26] (fun z wr=>∃ j:Nat,j<=L.length/\z=.int .i64 j/\(L.take j).find? (fun k=>decide (said d k idT=I)&&decide (qQ3 d k=s))=none/\Bel w2 wr) (fun z _=>L.length - (intOf z).toNat)
   case atStart=>exact ⟨0,by omega,rfl,rfl,Br _⟩
   case round=>
    obtain ⟨j,hj,rfl,M,u⟩:=hrel;have F:=lH M;have B:=lH (Bt a0.o u);have E:=lH u;have R:=lH (qQa.later HL.o qQc u (Zb _));clear M u;by_cases y:j<L.length
    ·obtain ⟨_,_,_,_,K,_,_,_,_⟩:=qQa.elem R.o j y;simp at K;obtain ⟨rfl,rfl⟩:=K;have cx:=R.o.int_cell j y;have N:=lH (fun h=>qDl F.o y h);have t:=lH (fun h=>zJ6 F.o y h);clear R;generalize L[j]=k at *
     have c:=lH (cN.o _ k B.o);have J:Hi (∀ W,Bel w W->_):=lH (fun W h=>S.o W k h);generalize (qKr d k idT).isSome=a5 at *
     by_cases H:said d k idT=I
     ·have hb:(said d k idT==I)=true:=(by simpa using H);by_cases a:qQ3 d k=s
      ·have hb2:(qQ3 d k==s)=true:=(by simpa using a);have b:=lH (t.o (by simp [H,a]));clear N t H a;generalize qQ3 d k=U at *
       generalize said d k idT=T at *
       go_wp2_with (first
 | (go_at_call 39;refine qQe c.o B fun w4 q=>?_;clear c)
 | (go_at_call 78;refine (J.o _ q.o).mono ?_;rintro e w5 ⟨rfl,rfl⟩))
       go_ret
       exact ⟨qQr (by rw [b.o];rfl),q.o⟩
      ·have hb2:(qQ3 d k==s)=false:=by simpa using a
       have b:=lH (N.o (by simp [a]))
       clear N t H a
       generalize qQ3 d k=U at *
       generalize said d k idT=T at *
       go_wp2_with (first
 | (go_at_call 39;refine c.o.mono ?_;rintro e w4 ⟨rfl,D⟩;have q:=lH (Bt B.o D);have A:=lH (Bt E.o D);clear D c)
 | (go_at_call 78;refine (J.o _ q.o).mono ?_;rintro e w5 ⟨rfl,rfl⟩))
       go_roundw
       case rel=>exact ⟨j+1,by omega,by go_num,b.o,A.o⟩
       case measure=>simp [intOf];omega
     ·have hb:(said d k idT==I)=false:=by simpa using H
      have b:=lH (N.o (by simp [H]))
      clear N t H
      generalize qQ3 d k=U at *
      generalize said d k idT=T at *
      go_wp2_with (go_at_call 39;refine qQe c.o E fun w4 A=>?_;clear c)
      go_roundw
      case rel=>exact ⟨j+1,by omega,by go_num,b.o,A.o⟩
      case measure=>simp [intOf];omega
    ·have HE:Hi (L.find? (fun k=>decide (said d k idT=I)&&decide (qQ3 d k=s))=none):=lH (by have:=F.o;rwa [Zn (by omega)] at this)
     clear R
     go_wp2
     go_ret
     exact ⟨qQr (by rw [HE.o];rfl),B.o⟩
theorem clm_take (H:i<l.length):((l.take (i+1)).filter (fun c=>c.owner==n)).map (·.kid)=((l.take i).filter (fun c=>c.owner==n)).map (·.kid)++if l[i].owner=n then [l[i].kid] else []:=by
 rw [Zk H,List.filter_append,List.map_append];by_cases h:l[i].owner=n <;> simp [h]
theorem qD1 (m:Nat) (u:Value) (l:List Clm) (k:Int) (g:Nat) (w:World) (a:qBw m w u l) (hm:m<=w.heap.size) (b:w.cell? ⟨g,0,none⟩=some u) :
 Calls Tryz.prog 129 #[.int .i64 k,.pointer (some ⟨g,0,none⟩)] w (Rb (.bool (!decide (ownerM l k<0))) w):=by
 have c:=lH (qX1 m u l k w a hm);obtain ⟨U,e,rfl,_,_⟩:=Rf a;clear a;generalize ownerM l k=o at *
 by_cases h:o<0
 ·go_enter Tryz.func129,Tryz.ntmps129
  go_wp2_with (go_at_call 42;refine qJ7 c.o fun W H=>?_)
  go_ret;exact ⟨qJo (by first | (simp;omega) | simp [h] | (simp [h];omega)),H.o⟩
 ·go_enter Tryz.func129,Tryz.ntmps129
  go_wp2_with (go_at_call 42;refine qJ7 c.o fun W H=>?_)
  go_ret;exact ⟨qJo (by first | (simp;omega) | simp [h] | (simp [h];omega)),H.o⟩
theorem zYm (g:Good d) (l:List Clm) (n:Int) (b:l.length<=1000):(qQp d l n).length<=1012:=by
 unfold qQp;have h:=List.length_filter_le (fun k=>decide (ownerM l k<0)) (kidsR d n);have H:=List.length_filter_le (fun c:Clm=>c.owner==n) l;have a:=qFq g n;simp only [Zj,List.length_map];omega
theorem qBd (m:Nat) (v u:Value) (d:Dc) (l:List Clm) (n:Int) (w:World) (hv:qZh m w v d) (N:qBw m w u l) (hm:m<=w.heap.size) (g:Good d) (hl:l.length<=1000) :
 Calls Tryz.prog 103 #[v,u,.int .i64 n] w (Rn w fun w' y=>qQb 1 qQf w.heap.size 3 w' y (qQp d l n)):=by
 obtain ⟨va,vc,rfl,_,_⟩:=Rf hv;obtain ⟨ua,uc,rfl,u1,u2⟩:=Rf N;obtain ⟨a,p⟩:∃ a,a=w.alloc (.cells #[.slice ua l.length uc] 62):=⟨_,rfl⟩;have b:Bel w a:=by rw [p];exact (Br w).alloc _
 have q:Blk a w.heap.size [.slice ua l.length uc] 62:=by rw [p];exact Blk.new' w _ rfl _ _
 have r:m<=a.heap.size:=Za hm b.size;have T:=lH (qQa.later N qZj b hm);have cK:=lH (qW7 m _ d n a (hv.later b hm) r g);have ab:=qFq g n;have a0:∀ W,Bel a W->zH0 129 #[.pointer (some ⟨w.heap.size,0,none⟩)] (fun x=>!decide (ownerM l x<0)) a.heap.size W:=by
  intro W k U a8 x;have I:Bel a U:=Below.trans k a8;exact qD1 m _ l x w.heap.size U (qQa.later T.o qZj I r) (Za r I.size) ((q.bel I).cell 0)
 have Z:=enters_of (P:=Tryz.prog) Tryz.func129 (by kernel_rfl) rfl;have a1:qQp d l n=(kidsR d n).filter (fun x=>!(!decide (ownerM l x<0)))++(l.filter (fun c=>c.owner==n)).map (·.kid):=by unfold qQp;simp
 have a4:=lH a1;clear a1;generalize kidsR d n=K at *
 have cD:Hi (∀ W y,Bel a W->qQb 1 qQf a.heap.size 3 W y K->Calls Tryz.prog 86 #[y,.func (.func 129) #[] #[.pointer (some ⟨w.heap.size,0,none⟩)]] W fun e w'=>Below a.heap.size W w'/\∃ y,e=.returned y/\qQb 1 qQf a.heap.size 3 w' y (K.filter (fun x=>!(!decide (ownerM l x<0))))):=lH (fun W y k hy=>
  qXp 129 _ (fun x=>!decide (ownerM l x<0)) Z a.heap.size y K W hy k.size (by omega) (a0 W k))
 have aa:=List.length_filter_le (fun x=>!(!decide (ownerM l x<0))) K;generalize K.filter (fun x=>!(!decide (ownerM l x<0)))=G at *
 have t:=lH b;have S:=lH q;have X:=q.cell 0;simp only [Zd] at X;clear a0 Z hv N b q;go_enter Tryz.func103,Tryz.ntmps103
 go_upto_region 1 with fail
 rw [<- p];clear p;go_wp2_with (first
 | (go_at_call 76;refine cK.o.mono ?_;rintro e w2 ⟨V,y2,rfl,O⟩;have A:=lH V;have a6:=lH O;obtain ⟨ya,yc,rfl,_,_⟩:=Rf O.read;clear V O)
 | (go_at_call 86;refine (cD.o _ _ A.o a6.o).mono ?_;rintro e w3 ⟨D,y3,rfl,o3⟩;have X:=(S.o.below (Below.trans A.o D) S.o.lt).cell 0;simp only [Zd] at X;have a3:=lH (Below.trans A.o D);have a7:=lH o3;clear D o3))
 go_loopw [17,7] (fun z o wr=>∃ j:Nat,j<=l.length/\z=.int .i64 j/\qQb 1 qQf a.heap.size 3 wr o (G++((l.take j).filter (fun c=>c.owner==n)).map (·.kid))/\Bel a wr) (fun z _ _=>l.length - (intOf z).toNat)
 case atStart=>exact ⟨0,by omega,rfl,by simpa using a7.o,a3.o⟩
 case round=>
  obtain ⟨j,hj,rfl,F,B⟩:=hrel;have H:=lH F;have s:=lH B;have S0:=B.size;have ac:=List.length_filter_le (fun c:Clm=>c.owner==n) (l.take j);have ad:=List.length_take_le' j l;obtain ⟨oa,oc,rfl,P,O⟩:=Rf F.read;have R:=qQa.later T.o qZj B r;have a9:(G++((l.take j).filter (fun c=>c.owner==n)).map (·.kid)).length<=1012:=by simp only [Zj,List.length_map];omega
  clear F B X;by_cases J:j<l.length
  ·obtain ⟨_,_,_,_,Y,_,_,_,_⟩:=qQa.elem R j J;simp at Y;obtain ⟨rfl,rfl⟩:=Y;obtain ⟨c0,c1⟩:=zQk R j J;have hst:=lH (clm_take (n:=n) J);clear R;generalize hE:((l.take j).filter (fun c=>c.owner==n)).map (·.kid)=E at *
   clear hE;generalize l[j]=x at *
   obtain ⟨Q,xk⟩:=x;simp only at c0 c1 hst;by_cases h:Q=n
   ·have hb:(Q==n)=true:=(by simpa using h);have M:=lH (hst.o.trans (by rw [if_pos h]));clear hst h;generalize f:G++E=GE at *
    have C:=lH f;clear f;go_wp2_with (at_builtin;go_must (refine qK4 rfl _ _ _ rfl qJg (by decide) qQc qKq rfl (H.o.alloc qQc _) rfl ?hg xk ⟨rfl,rfl⟩ ?hb1 ?hb2 ?hb3 ?_);(case hg=>simp);(case hb1=>omega);(case hb2=>omega);(case hb3=>simp;omega);intro v1 w1 P g1;have a5:=lH P;have a2:=lH (Below.own (s.o.alloc _) (Zb _) (H.o.alloc qQc _) g1);clear P g1)
    go_roundw;case rel=>exact ⟨j+1,by omega,by go_num,(by rw [M.o,<- List.append_assoc,C.o];exact a5.o),a2.o⟩
    case measure=>simp [intOf];omega
   ·have hb:(Q==n)=false:=(by simpa using h);have M:=lH (hst.o.trans (by rw [if_neg h,List.append_nil]));clear hst h;generalize f:G++E=GE at *
    have C:=lH f;clear f;go_wp2;go_roundw;case rel=>exact ⟨j+1,by omega,by go_num,(by rw [M.o,C.o];exact H.o.alloc qQc _),s.o.alloc _⟩
    case measure=>simp [intOf];omega
  ·have hT:l.take j=l:=Zn (by omega);rw [hT] at H a9 ⊢;clear hT R;generalize hE:G++(l.filter (fun c=>c.owner==n)).map (·.kid)=E at *
   have HE:Hi (qQp d l n=E):=a4;clear hE;go_wp2;go_ret;exact ⟨Below.trans t.o (Below.mono s.o t.o.size),_,rfl,by rw [HE.o];exact H.o.base_le t.o.size⟩
set_option maxRecDepth 100000
set_option maxHeartbeats 4000000
theorem qJp (g:Good d) (n:Int) (s:Txt):(said d n s).length<=60:=by
 unfold said qKr;split
 ·unfold qJc;cases h:(nd d n).attrs.find? (fun a=>a.name==s) with
  | none=>simp
  | some a=>
    obtain ⟨r,G⟩:=g.tree;have:=((G.ok n).atts a (List.mem_of_find?_eq_some h)).2;simpa using this
 ·simp
theorem toks_nil:toks []=[]:=rfl
theorem zVm {S:List Int} (h:i<S.length):(S.take (i+1)).foldl (qZ8 d) []=qZ8 d ((S.take i).foldl (qZ8 d) []) S[i]:=by
 rw [Zk h,List.foldl_append];rfl
theorem zHe {T:List Txt} (h:i<T.length):(T.take (i+1)).foldl (qZi d n) l=qZi d n ((T.take i).foldl (qZi d n) l) T[i]:=by
 rw [Zk h,List.foldl_append];rfl
structure Keeps (n0:Nat) (wt wr:World) (o:Value):Prop where
 same:qZt (fun b=>n0<=b/\b<wt.heap.size) wt wr
 out:∀ b,o.ownBlock=some b->b<n0∨wt.heap.size<=b
 size:wt.heap.size<=wr.heap.size
theorem Keeps.later (h:Keeps n0 wt wr o) (b:Bel wr w'):Keeps n0 wt w' o:=
 ⟨h.same.trans (qZt.mono (qZt.below b) (fun _ H=>Zc H.2 h.size)),h.out,Za h.size b.size⟩
theorem Keeps.grown {v:Value} (h:Keeps n0 wt wr o) (g:wr.grownBy w' o.ownBlock) (f:qZc wr o v):Keeps n0 wt w' v:=by
 refine ⟨h.same.trans (qZt.grown g (fun b H=>⟨Zc H.2 h.size,fun e=>?_⟩)),fun b H=>?_,Za h.size g.size⟩
 ·have:=h.out b e.symm;omega
 ·rcases f with f | ⟨k,f,a⟩
  ·rw [f] at H;exact h.out b H
  ·rw [f] at H;have:k=b:=Option.some.inj H;right;have:=h.size;omega
theorem qVo (m:Nat) (v:Value) (d:Dc) (w:World) (hv:qZh m w v d) (hm:m<=w.heap.size) (g:Good d) :
 Calls Tryz.prog 17 #[v] w (Rn w fun w' y=>qQb 2 qYr w.heap.size 104 w' y (qQv d)):=by
 obtain ⟨va,vc,rfl,v1,v2⟩:=Rf hv;have b2:=lH (zQd m _ d w hv hm g);have bd:=zK3 g;have cA:Hi (∀ W n,Bel w W->Calls Tryz.prog 39 #[.slice va d.length vc,.int .i64 n,.string ⟨ownsT.toArray⟩] W (Rb (.tuple #[.string ⟨(said d n ownsT).toArray⟩,.bool (qKr d n ownsT).isSome]) W)):=lH (fun W n h=>qZv m _ d n ownsT W (hv.later h hm) (Za hm h.size));have cF:Hi (∀ W n I,Bel w W->Calls Tryz.prog 41 #[.slice va d.length vc,.int .i64 n,.string ⟨I.toArray⟩] W (Rb (.int .i64 (findD d n I)) W)):=lH (fun W n I h=>qVk m _ d n I W (hv.later h hm) (Za hm h.size) g);have b0:Hi (∀ W u l n k,Bel w W->qBw W.heap.size W u l->ClmOk d l->Calls Tryz.prog 43 #[.slice va d.length vc,u,.int .i64 n,.int .i64 k] W (Rb (.bool (onB d l n k)) W)):=lH (fun W u l n k h hu hc=>zXf W.heap.size _ u d l n k W ((hv.later h hm).raise (Za hm h.size)) hu (Zb _) g hc);have Z:=lH g;have aq:Hi (qQv d=(shownR d).foldl (qZ8 d) []):=lH rfl;have ay:=lH (qJp g);have N:∀ n,(qKr d n ownsT).isSome=false->said d n ownsT=[]:=fun n h=>by
  unfold said;cases h2:qKr d n ownsT with
  | none=>rfl
  | some b9=>rw [h2] at h;simp at h
 have ax:=lH N;have b7:Hi (∀ n∈shownR d,n∈shownR d):=lH (fun _ h=>h);have az:Hi (∀ n (l:List Clm) I,qZi d n l I=if findD d n I<1||!(shownR d).contains (findD d n I)||decide (0<=ownerM l (findD d n I))||onB d l n (findD d n I) then l else l++[⟨n,findD d n I⟩]):=lH (fun _ _ _=>rfl);clear hv g N;generalize hS:shownR d=S at *
 go_enter Tryz.func17,Tryz.ntmps17
 go_wp2_with (go_at_call 38;refine b2.o.mono ?_;rintro e A ⟨b1,y1,rfl,U⟩;have HS:=lH U.read;have X:=lH b1;obtain ⟨sa,sc,rfl,s1,s2⟩:=Rf U.read;clear b1 U)
 go_loopw [16,3] (fun z o wr=>∃ i:Nat,i<=S.length/\z=.int .i64 i/\qQb 2 qYr A.heap.size 104 wr o ((S.take i).foldl (qZ8 d) [])/\Bel A wr) (fun z _ _=>S.length - (intOf z).toNat)
 case atStart=>exact ⟨0,by omega,rfl,qQb.nil _ _ _,Br _⟩
 case round=>
  obtain ⟨i,hi,rfl,M,f⟩:=hrel;have H:=lH M;have V:=lH (Bt X.o f);have q:=lH f;have HR:=lH (qQa.later HS.o qQc f (Zb _));obtain ⟨oa,oc,rfl,U,o2⟩:=Rf M.read;clear M f;by_cases a9:i<S.length
  ·obtain ⟨sb,so,_,_,e1,_,_,_,_⟩:=qQa.elem HR.o i a9;simp at e1;obtain ⟨rfl,rfl⟩:=e1;have cx:=HR.o.int_cell i a9;have am:S[i]∈S:=Zl a9;have ai:Hi (ClmOk d ((S.take i).foldl (qZ8 d) [])):=lH (ClmOk.all Z.o _ _ (fun bg hx=>by rw [hS];exact List.mem_of_mem_take hx) (ClmOk.nil Z.o));have aj:=zVm (d:=d) a9;have a3:Hi ((S.take (i+1)).foldl (qZ8 d) []=(toks (said d S[i] ownsT)).foldl (qZi d S[i]) ((S.take i).foldl (qZ8 d) [])):=lH aj;clear HR aj;generalize b4:(S.take i).foldl (qZ8 d) []=O at *
   clear b4;have ba:=qWy Z.o ai.o;have bc:=ay.o S[i] ownsT;have a7:=lH (cA.o _ S[i] V.o);have N:=lH (ax.o S[i]);generalize hn:S[i]=n at *
   have au:Hi (n∈shownR d):=lH (by rw [hS];exact am);clear hn am;generalize said d n ownsT=sd at *
   cases aa:(qKr d n ownsT).isSome with
   | false=>
     rw [aa] at a7 N;have b6:=N.o rfl;subst b6;have F:Hi ((S.take (i+1)).foldl (qZ8 d) []=O):=lH (a3.o.trans (by rw [toks_nil];rfl));clear a3 aa N;go_wp2_with (go_at_call 39;refine a7.o.mono ?_;rintro e w2 ⟨rfl,C⟩;have ab:=lH (Bt q.o C);have a4:=lH (H.o.below C (Zb _) (fun _ _ _ h=>h));clear C)
     go_roundw;case rel=>exact ⟨i+1,by omega,by go_num,(by rw [F.o];exact a4.o),ab.o⟩
     case measure=>simp [intOf];omega
   | true=>
     rw [aa] at a7;clear aa N;have cT:Hi (∀ W,Calls Tryz.prog 40 #[.string ⟨sd.toArray⟩] W (Rn W fun w' v=>qQb 1 qHg W.heap.size 9 w' v (toks sd))):=lH (fun W=>qYg sd W (by omega));have be:=qY6 sd;generalize hT:toks sd=T at *
     clear hT;go_wp2_with (first
 | (go_at_call 39;refine a7.o.mono ?_;rintro e w2 ⟨rfl,C⟩;have ab:=lH (Bt q.o C);have b8:=lH (Bt V.o C);have a4:=lH (H.o.below C (Zb _) (fun _ _ _ h=>h));clear C)
 | (go_at_call 40;refine (cT.o _).mono ?_;rintro e w3 ⟨b3,y3,rfl,o3⟩;have HT:=lH o3;have ao:=lH (Bt ab.o b3);have av:=lH (a4.o.below b3 (Zb _) (fun _ _ _ h=>h));obtain ⟨ta,tc,rfl,t1,t2⟩:=Rf o3.read;have al:=fun b hb=>(a4.o.lt b hb).2;have K:=lH (show Keeps w2.heap.size w3 w3 (.slice oa O.length oc) from ⟨qZt.refl _ _,fun b hb=>.inl (al b hb),Zb _⟩);clear b3 o3 al))
     go_loopw [31,3] (fun z o wr=>∃ j:Nat,j<=T.length/\z=.int .i64 j/\qQb 2 qYr A.heap.size 104 wr o ((T.take j).foldl (qZi d n) O)/\Bel A wr/\Keeps w2.heap.size w3 wr o) (fun z _ _=>T.length - (intOf z).toNat)
     case atStart=>exact ⟨0,by omega,rfl,av.o,ao.o,K.o⟩
     case round=>
      clear U o2 cx;obtain ⟨j,hj,rfl,M,f,hK⟩:=hrel;have H:=lH M;have V:=lH (Bt X.o f);have q:=lH f;have K:=lH hK;have S0:=f.size;have hR:qQa 1 qHg (fun b=>w2.heap.size<=b/\b<w3.heap.size) _ (.slice ta T.length tc) T:=qQa.agree (HT.o.row.mono (fun _ h=>⟨h.1,h.2.1⟩) (fun _ _ _ h=>h)) hK.same (fun _ _ _ h=>h);have ag:=qQa.later HS.o qQc f (Zb _);obtain ⟨oa,oc,rfl,U,o2⟩:=Rf M.read;clear M f hK;by_cases ah:j<T.length
      ·obtain ⟨_,_,_,_,e1,_,_,_,_⟩:=qQa.elem hR j ah;simp at e1;obtain ⟨rfl,rfl⟩:=e1;have cw:=qQa.str_cell hR j ah;have ad:Hi (ClmOk d ((T.take j).foldl (qZi d n) O)):=lH (ClmOk.of Z.o au.o _ _ ai.o);have ae:Hi ((T.take (j+1)).foldl (qZi d n) O=_):=lH ((zHe ah).trans (az.o _ _ _));clear hR;generalize b5:(T.take j).foldl (qZi d n) O=p at *
       clear b5;have bb:=qWy Z.o ad.o;generalize T[j]=I at *
       have a1:=lH (cF.o _ n I V.o);generalize findD d n I=k at *
       have P:=lH (fun W (h:qKn A.heap.size W (.slice (some ⟨sb,so,none⟩) S.length sc) S)=>qJk A.heap.size _ S k W h);have a6:Hi (∀ W,Bel _ W->qKn A.heap.size W (.slice (some ⟨sb,so,none⟩) S.length sc) S):=lH (fun W h=>qQa.later ag qQc h S0);have af:Hi (∀ W u,qBw W.heap.size W u p->Calls Tryz.prog 42 #[u,.int .i64 k] W (Rb (.int .i64 (ownerM p k)) W)):=lH (fun W u h=>qX1 W.heap.size u p k W h (Zb _));have a8:Hi (∀ W u,Bel w W->qBw W.heap.size W u p->Calls Tryz.prog 43 #[.slice va d.length vc,u,.int .i64 n,.int .i64 k] W (Rb (.bool (onB d p n k)) W)):=lH (fun W u h hu=>b0.o W u p n k h hu ad.o);clear ag;generalize S.contains k=sk at *
       generalize ownerM p k=ow at *
       generalize onB d p n k=on at *
       have x:Hi (k<1∨sk=false∨0<=ow∨on=true->(T.take (j+1)).foldl (qZi d n) O=p):=lH (fun h=>by
        rw [ae.o,if_pos];rcases h with h | h | h | h <;> simp [h])
       have R:Hi (¬ k<1->sk=true->¬ 0<=ow->on=false->(T.take (j+1)).foldl (qZi d n) O=p++[⟨n,k⟩]):=lH (fun h1 h2 h3 h4=>by
        rw [ae.o,if_neg (by simp [h2,h4];omega)])
       clear ae ad;by_cases ak:k<1
       ·have F:=lH (x.o (.inl ak));clear x R;go_wp2_with (go_at_call 41;refine a1.o.mono ?_;rintro e w4 ⟨rfl,B⟩;have r:=lH (Bt q.o B);have c:=lH (H.o.below B (Zb _) (fun _ _ _ h=>h));have s:=lH (K.o.later B);clear B)
        go_roundw;case rel=>exact ⟨j+1,by omega,by go_num,(by rw [F.o];exact c.o),r.o,s.o⟩
        case measure=>simp [intOf];omega
       cases D:sk with
       | false=>
         have F:=lH (x.o (.inr (.inl D)));rw [D] at P;clear x R D;go_wp2_with (first
 | (go_at_call 41;refine a1.o.mono ?_;rintro e w4 ⟨rfl,B⟩;have r:=lH (Bt q.o B);have c:=lH (H.o.below B (Zb _) (fun _ _ _ h=>h));have s:=lH (K.o.later B);have J:=lH (a6.o _ B);clear B)
 | (go_at_call 21;refine (P.o _ J.o).mono ?_;rintro e w5 ⟨rfl,rfl⟩))
         go_roundw
         case rel=>exact ⟨j+1,by omega,by go_num,(by rw [F.o];exact c.o),r.o,s.o⟩
         case measure=>simp [intOf];omega
       | true=>
         rw [D] at P;by_cases an:0<=ow
         ·have F:=lH (x.o (.inr (.inr (.inl an))));clear x R D;go_wp2_with (first
 | (go_at_call 41;refine a1.o.mono ?_;rintro e w4 ⟨rfl,B⟩;have r:=lH (Bt q.o B);have c:=lH (H.o.below B (Zb _) (fun _ _ _ h=>h));have s:=lH (K.o.later B);have J:=lH (a6.o _ B);clear B)
 | (go_at_call 21;refine (P.o _ J.o).mono ?_;rintro e w5 ⟨rfl,rfl⟩)
 | (go_at_call 42;refine (af.o _ _ c.o.read).mono ?_;rintro e w6 ⟨rfl,a⟩;have E:=lH (Bt r.o a);have G:=lH (c.o.below a (Zb _) (fun _ _ _ h=>h));have a0:=lH (s.o.later a);clear a))
          go_roundw
          case rel=>exact ⟨j+1,by omega,by go_num,(by rw [F.o];exact G.o),E.o,a0.o⟩
          case measure=>simp [intOf];omega
         ·cases Q:on with
          | true=>
            have F:=lH (x.o (.inr (.inr (.inr Q))));rw [Q] at a8;clear x R D Q;go_wp2_with (first
 | (go_at_call 41;refine a1.o.mono ?_;rintro e w4 ⟨rfl,B⟩;have r:=lH (Bt q.o B);have c:=lH (H.o.below B (Zb _) (fun _ _ _ h=>h));have s:=lH (K.o.later B);have J:=lH (a6.o _ B);clear B)
 | (go_at_call 21;refine (P.o _ J.o).mono ?_;rintro e w5 ⟨rfl,rfl⟩)
 | (go_at_call 42;refine (af.o _ _ c.o.read).mono ?_;rintro e w6 ⟨rfl,a⟩;have E:=lH (Bt r.o a);have G:=lH (c.o.below a (Zb _) (fun _ _ _ h=>h));have a0:=lH (s.o.later a);clear a)
 | (go_at_call 43;refine (a8.o _ _ (Bt X.o E.o) G.o.read).mono ?_;rintro e w7 ⟨rfl,t⟩;have Y:=lH (Bt E.o t);have a5:=lH (G.o.below t (Zb _) (fun _ _ _ h=>h));have ac:=lH (a0.o.later t);clear t))
            go_roundw
            case rel=>exact ⟨j+1,by omega,by go_num,(by rw [F.o];exact a5.o),Y.o,ac.o⟩
            case measure=>simp [intOf];omega
          | false=>
            have F:=lH (R.o ak D an Q);rw [Q] at a8;clear x R D Q;go_wp2_with (first
 | (at_builtin;go_must (refine qGp rfl _ _ _ rfl slt_clms (by decide) (rd:=qYr) (n0:=A.heap.size) ?ha0 (fun _ _ _ _ _ h=>h) one_clm (base:=A.heap.size) ?ha1 rfl a5.o rfl ?hg (⟨n,k⟩:Clm) ⟨rfl,rfl⟩ ?hb1 ?hb2 ?hb3 ?_);(case ha0=>exact Y.o.size);(case ha1=>exact Zb _);(case hg=>rfl);(case hb1=>omega);(case hb2=>omega);(case hb3=>exact Y.o.size);intro v8 w8 o8 g8 f8;have aw:=lH o8;have ap:=lH (Below.own Y.o (Zb _) a5.o g8);have ar:=lH (ac.o.grown g8 f8);clear o8 g8 f8)
 | (go_at_call 41;refine a1.o.mono ?_;rintro e w4 ⟨rfl,B⟩;have r:=lH (Bt q.o B);have c:=lH (H.o.below B (Zb _) (fun _ _ _ h=>h));have s:=lH (K.o.later B);have J:=lH (a6.o _ B);clear B)
 | (go_at_call 21;refine (P.o _ J.o).mono ?_;rintro e w5 ⟨rfl,rfl⟩)
 | (go_at_call 42;refine (af.o _ _ c.o.read).mono ?_;rintro e w6 ⟨rfl,a⟩;have E:=lH (Bt r.o a);have G:=lH (c.o.below a (Zb _) (fun _ _ _ h=>h));have a0:=lH (s.o.later a);clear a)
 | (go_at_call 43;refine (a8.o _ _ (Bt X.o E.o) G.o.read).mono ?_;rintro e w7 ⟨rfl,t⟩;have Y:=lH (Bt E.o t);have a5:=lH (G.o.below t (Zb _) (fun _ _ _ h=>h));have ac:=lH (a0.o.later t);clear t))
            go_roundw
            case rel=>exact ⟨j+1,by omega,by go_num,(by rw [F.o];exact aw.o),ap.o,ar.o⟩
            case measure=>simp [intOf];omega
      ·have a2:T.take j=T:=Zn (by omega)
       rw [a2] at H ⊢
       have HE:=a3
       clear hR ag a2 a3
       generalize T.foldl (qZi d n) O=bf at *
       go_wp2
       go_roundw
       case rel=>exact ⟨i+1,by omega,by go_num,(by rw [HE.o];exact H.o),q.o⟩
       case measure=>simp [intOf];omega
  ·have a2:S.take i=S:=Zn (by omega)
   rw [a2] at H ⊢
   clear a2 HR
   generalize S.foldl (qZ8 d) []=O at *
   go_wp2
   go_ret
   exact ⟨V.o,_,rfl,by rw [aq.o];exact H.o.base_le X.o.size⟩

/- Slots, what is given, what is shown: walked. -/
import Derived.Test.YtkhkbifdakikcaaGreatDoorIntsFunc
set_option maxRecDepth 100000
set_option maxHeartbeats 2000000
namespace Go.Proofs.YtkhkbifdakikcaaGreatDoor
open Go.RowKit
variable {d:Dc} {n:Int}
theorem qWw (g:Good d):d.length<=1000000000:=Za g.len (by omega)
theorem qBm (m:Nat) (v:Value) (d:Dc) (n:Int) (w:World) (hv:qZh m w v d) (hm:m<=w.heap.size) (g:Good d) (h:isM d n false=true) :
 Calls Tryz.prog 46 #[v,.int .i64 n] w (Rn w fun w' x=>qQb 1 qQf w.heap.size 3 w' x (allM d n)):=by
 obtain ⟨r,G⟩:=g.tree;exact qVy 100 m v d n w hv hm (grows G 100 _ h (by omega)).ends (Za (zJb G h) (qWw g))
theorem qF4 (g:Good d):(nd d 0).up = -1:=by obtain ⟨r,G⟩:=g.tree;exact G.root.2.2.1
theorem zVd (g:Good d) {x:Int} (h:isM d n false=true) (H:x∈allM d n):isM d x false=true:=by obtain ⟨r,G⟩:=g.tree;exact qBq G h H
theorem qVu (g:Good d) (h:isM d n false=true):(allM d n).length<=60:=by obtain ⟨r,G⟩:=g.tree;exact Za (zJb G h) g.len
theorem qW5 (m:Nat) (v:Value) (d:Dc) (n:Int) (w:World) (hv:qZh m w v d) (hm:m<=w.heap.size) (g:Good d) :
 Calls Tryz.prog 70 #[v,.int .i64 n] w (Rb (.int .i64 (slotR d n)) w):=by
 have hP:slotR d n=qH8 d n:=by obtain ⟨al,gr⟩:=g.tree;exact (slotP_eq gr n).symm
 rw [hP];clear hP;have C:=lH (qQ5 m _ d n false w hv);cases i:isM d n false with
 | false=>
   rw [i] at C;have H:qH8 d n = -1:=(by unfold qH8;rw [if_pos (by simp [i])]);rw [H];obtain ⟨va,vc,rfl,v1,v2⟩:=Rf hv;go_enter Tryz.func70,Tryz.ntmps70
   go_wp2_with (go_at_call 13;refine C.o.mono ?_;rintro e B ⟨rfl,rfl⟩)
   go_ret;exact ⟨rfl,Br _⟩
 | true=>
   rw [i] at C;obtain ⟨p,hp,rfl,-⟩:=qQy.1 i;obtain ⟨aa,ag,ab,av,kv,sv,rfl,v1,v2,ai,Y⟩:=hv.node p hp;have c4:=Y.up;have c8:=Y.inS;have f:=qQ2 hp;have U:Hi (d[p].up<0->qH8 d p = -1):=lH (fun h=>by unfold qH8;rw [f,if_pos (by simp [h])]);have J:Hi (d[p].inS=true->qH8 d p = -1):=lH (fun h=>by unfold qH8;rw [f,if_pos (by simp [h])]);have R:Hi ((nd d d[p].up).hasS=false->qH8 d p = -1):=lH (fun h=>by unfold qH8;rw [f,if_pos (by simp [h])]);have o:Hi (¬ d[p].up<0->d[p].inS=false->(nd d d[p].up).hasS=true->qH8 d p=((allM d d[p].up).find? (fun k=>qXo d d[p].up (said d p qJr) k&&decide (k≠d[p].up))).getD (-1)):=lH (fun h1 h2 h3=>by
    unfold qH8;rw [f,if_neg (by simp [h2,h3,i];omega)])
   have a0:Hi (¬ d[p].up<0->isM d d[p].up false=true):=lH (fun h=>by
    have:=zZ2 g i (by intro e;have E:=qF4 g;rw [<- e,f] at E;omega);rwa [f] at this)
   have V:=lH hv;clear Y f i hv;generalize d[p].up=u at *
   generalize d[p].inS=af at *
   by_cases Z:u<0
   ·have H:=U.o Z;rw [H];clear U J R o H a0;go_enter Tryz.func70,Tryz.ntmps70
    go_wp2_with (go_at_call 13;refine C.o.mono ?_;rintro e B ⟨rfl,rfl⟩)
    go_ret;exact ⟨rfl,Br _⟩
   have O:=a0.o Z;clear a0 U;cases af with
   | true=>
     have H:=J.o rfl;rw [H];clear J R o H O;go_enter Tryz.func70,Tryz.ntmps70
     go_wp2_with (go_at_call 13;refine C.o.mono ?_;rintro e B ⟨rfl,rfl⟩)
     go_ret;exact ⟨rfl,Br _⟩
   | false=>
     clear J;have I:=lH O;obtain ⟨q,hq,rfl,-⟩:=qQy.1 O;obtain ⟨_,_,_,_,_,_,E,-,-,-,hQ⟩:=V.o.node q hq;simp at E;obtain ⟨⟨rfl,rfl⟩,rfl⟩:=E;have q6:=hQ.hasS;rw [qQ2 hq] at R o;clear hQ O;generalize d[q].hasS=hs at *
     cases hs with
     | false=>
       have H:=R.o rfl;rw [H];clear R o H;go_enter Tryz.func70,Tryz.ntmps70
       go_wp2_with (go_at_call 13;refine C.o.mono ?_;rintro e B ⟨rfl,rfl⟩)
       go_ret;exact ⟨rfl,Br _⟩
     | true=>
       have H:=o.o Z rfl rfl;rw [H];clear R o H;have cA:=lH (qZv m _ d p qJr w V.o hm);have cL:Hi (∀ W,Bel w W->Calls Tryz.prog 46 #[.slice (some ⟨aa,ag,none⟩) d.length ab,.int .i64 (q:Int)] W (Rn W fun w' x=>qQb 1 qQf W.heap.size 3 w' x (allM d q))):=lH (fun W h=>
        qBm m _ d q W (V.o.later h hm) (Za hm h.size) g I.o)
       have a8:Hi (∀ x∈allM d (q:Int),isM d x false=true):=lH (fun x hx=>zVd g I.o hx);have ah:=qVu g I.o;have ae:=qWw g;have z:(qKr d (p:Int) qJr).getD []=said d p qJr:=rfl;rw [z] at cA;clear z;generalize said d p qJr=l at *
       generalize (qKr d (p:Int) qJr).isSome=ak at *
       generalize ac:allM d (q:Int)=L at *
       clear ac I;go_enter Tryz.func70,Tryz.ntmps70
       go_wp2_with (first
 | (go_at_call 13;refine C.o.mono ?_;rintro e B ⟨rfl,rfl⟩)
 | (go_at_call 39;refine qJ7 cA.o fun B a2=>?_)
 | (go_at_call 46;refine (cL.o _ a2.o).mono ?_;rintro e w2 ⟨b2,y2,rfl,o2⟩;have HL:=lH o2.read;have a9:=lH (Bt a2.o b2);obtain ⟨la,lc,rfl,l1,l2⟩:=Rf o2.read;clear b2 o2))
       go_loopw [58] (fun a1 wr=>∃ j:Nat,j<=L.length/\a1=.int .i64 j/\(L.take j).find? (fun k=>qXo d q l k&&decide (k≠(q:Int)))=none/\Bel w2 wr) (fun a1 _=>L.length - (intOf a1).toNat)
       case atStart=>exact ⟨0,by omega,rfl,rfl,Br _⟩
       case round=>
        obtain ⟨j,hj,rfl,hF,M⟩:=hrel;have Q:=lH hF;have D:=lH (Bt a9.o M);have F:=lH M;have G:=lH (qQa.later HL.o qQc M (Zb _));have A:=V.o.later D.o hm;have a7:=Za hm D.o.size;clear hF M;by_cases y:j<L.length
        ·obtain ⟨_,_,_,_,e1,_,_,_,_⟩:=qQa.elem G.o j y;simp at e1;obtain ⟨rfl,rfl⟩:=e1;have cx:=G.o.int_cell j y;have a4:=a8.o _ (Zl y);have N:=lH (fun h=>qDl Q.o y h);have b:=lH (fun h=>zJ6 Q.o y h);clear G;generalize L[j]=k at *
         obtain ⟨K,a5,rfl,-⟩:=qQy.1 a4;obtain ⟨_,_,_,_,_,_,E,-,-,-,hK⟩:=A.node K a5;simp at E;obtain ⟨⟨rfl,rfl⟩,rfl⟩:=E;have k1:=hK.tag;have a6:=qQ2 a5;have S:=lH (qXb m _ d (K:Int) wr A ae);have X:=lH (qZv m _ d (K:Int) nameT wr A a7);have z:(qKr d (K:Int) nameT).getD []=said d K nameT:=rfl;rw [z] at X;have a3:qXo d q l (K:Int)=(decide (d[K].tag=qJr)&&decide (qQ3 d K=q)&&decide (said d K nameT=l)):=(by unfold qXo;rw [a6]);simp only [a3] at N b;clear hK A a7 z a4 a6 a3;generalize d[K].tag=T at *
         generalize qQ3 d (K:Int)=sc at *
         generalize said d (K:Int) nameT=nm at *
         generalize (qKr d (K:Int) nameT).isSome=aj at *
         by_cases t:T=qJr
         ·have hb:(T==[115,108,111,116])=true:=(by rw [t];rfl);by_cases c:sc=(q:Int)
          ·have hb2:(sc != (q:Int))=false:=(by simpa using c);by_cases s:K=q
           ·have hb3:((K:Int)==(q:Int))=true:=(by simp [s]);have a:=lH (N.o (by simp [s]));clear N b t c s;go_wp2_with (first
 | (go_at_call 78;refine S.o.mono ?_;rintro e w3 ⟨rfl,rfl⟩))
            go_roundw
            case rel=>exact ⟨j+1,by omega,by go_num,a.o,F.o⟩
            case measure=>simp [intOf];omega
           ·have hb3:((K:Int)==(q:Int))=false:=by simp;omega
            by_cases r:nm=l
            ·have ad:(nm==l)=true:=by simpa using r
             have a:=lH (b.o (by simp [t,c,r];omega))
             clear N b t c s r
             go_wp2_with (first
 | (go_at_call 78;refine S.o.mono ?_;rintro e w3 ⟨rfl,rfl⟩)
 | (go_at_call 39;refine qQe X.o D fun w4 P=>?_))
             go_ret
             exact ⟨qQr (by rw [a.o];rfl),P.o⟩
            ·have ad:(nm==l)=false:=by simpa using r
             have a:=lH (N.o (by simp [r]))
             clear N b t c s r
             go_wp2_with (first
 | (go_at_call 78;refine S.o.mono ?_;rintro e w3 ⟨rfl,rfl⟩)
 | (go_at_call 39;refine qQe X.o F fun w4 P=>?_))
             go_roundw
             case rel=>exact ⟨j+1,by omega,by go_num,a.o,P.o⟩
             case measure=>simp [intOf];omega
          ·have hb2:(sc != (q:Int))=true:=by simpa using c
           have a:=lH (N.o (by simp [c]))
           clear N b t c
           go_wp2_with (first
 | (go_at_call 78;refine S.o.mono ?_;rintro e w3 ⟨rfl,rfl⟩))
           go_roundw
           case rel=>exact ⟨j+1,by omega,by go_num,a.o,F.o⟩
           case measure=>simp [intOf];omega
         ·have hb:(T==[115,108,111,116])=false:=by
           have:(T==qJr)=false:=(by simpa using t);exact this
          have a:=lH (N.o (by simp [t]))
          clear N b t
          go_wp2
          go_roundw
          case rel=>exact ⟨j+1,by omega,by go_num,a.o,F.o⟩
          case measure=>simp [intOf];omega
        ·have HE:Hi (L.find? (fun k=>qXo d q l k&&decide (k≠(q:Int)))=none):=lH (by have:=Q.o;rwa [Zn (by omega)] at this)
         clear G A
         go_wp2
         go_ret
         exact ⟨qQr (by rw [HE.o];rfl),D.o⟩
theorem zBq (g:Good d) {s:Int} (h:isM d s false=true):isM d (qQ3 d s) false=true:=by
 obtain ⟨r,G⟩:=g.tree;rcases qH7 G h with ⟨a,-⟩ | ⟨x,a,b,c,e,-⟩
 ·rw [a];exact G.is0
 ·rw [e];exact G.upIs a.top c (fun h=>h)
theorem qFl (g:Good d) (s:Int):(givenR d s).length<=12:=by
 unfold givenR;split
 ·exact Za (List.length_filter_le _ _) (qK9 g _).1
 ·simp
theorem qFq (g:Good d) (s:Int):(kidsR d s).length<=12:=by
 unfold kidsR;split
 ·simp
 ·split
  ·exact (qK9 g _).2.1
  ·split
   ·exact (qK9 g _).1
   ·exact qFl g s
theorem qG3 (m:Nat) (v:Value) (d:Dc) (s k:Int) (G a:Nat) (w:World) (hv:qZh m w v d) (hm:m<=w.heap.size) (g:Good d) (h:w.cell? ⟨G,0,none⟩=some v) (c:w.cell? ⟨a,0,none⟩=some (.int .i64 s)) :
 Calls Tryz.prog 111 #[.int .i64 k,.pointer (some ⟨G,0,none⟩),.pointer (some ⟨a,0,none⟩)] w (Rb (.bool (slotR d k != s)) w):=by
 obtain ⟨V,i,rfl,o,p⟩:=Rf hv;have C:=lH (qW5 m _ d k w.drew hv hm g);have S:Hi (∀ W,Bel w W->W.cell? ⟨G,0,none⟩=some (.slice V d.length i)/\W.cell? ⟨a,0,none⟩=some (.int .i64 s)):=lH (fun W f=>
  ⟨(Bel.cells f _ _ (World.block_lt_of_cell? w _ h)).trans h,(Bel.cells f _ _ (World.block_lt_of_cell? w _ c)).trans c⟩)
 clear hv;generalize slotR d k=l at *
 go_enter Tryz.func111,Tryz.ntmps111
 go_upto_region 1 with fail
 go_region_held (fun j=>j.cell? ⟨G,0,none⟩=some (.slice V d.length i)/\j.cell? ⟨a,0,none⟩=some (.int .i64 s)) (first | exact S.o _ (Br w).drew | exact S.o _ H.o) (first | (go_at_call 70;refine C.o.mono ?_;rintro e q ⟨rfl,b⟩;have H:=lH (Bt (Br w).drew b);clear b))
 all_goals
  go_wp2
  go_ret
  exact ⟨rfl,H.o⟩
theorem qV6 (m:Nat) (v:Value) (d:Dc) (s:Int) (w:World) (hv:qZh m w v d) (hm:m<=w.heap.size) (g:Good d) :
 Calls Tryz.prog 71 #[v,.int .i64 s] w (Rn w fun w' y=>qQb 1 qQf w.heap.size 3 w' y (givenR d s)):=by
 obtain ⟨va,vc,rfl,v1,v2⟩:=Rf hv;obtain ⟨a,H⟩:∃ a,a=(w.alloc (.cells #[.slice va d.length vc] 25)).alloc (.cells #[.int .i64 s] 3):=⟨_,rfl⟩;have A:Bel w a:=by rw [H];exact ((Br w).alloc _).alloc _
 have B:Blk a w.heap.size [.slice va d.length vc] 25:=by rw [H];exact (Blk.new' w _ rfl _ _).bel ((Br _).alloc _)
 have D:Blk a (w.heap.size+1) [.int .i64 s] 3:=by rw [H];exact Blk.new' _ _ (by simp) _ _
 have ai:a.heap.size=w.heap.size+2:=by rw [H];simp
 have c:=lH (hv.later A hm);have E:m<=a.heap.size:=by omega
 have b:=lH A;have a7:=lH B;have a8:=lH D;have x0:=B.cell 0;have x1:=D.cell 0;simp only [Zd] at x0 x1;have C:=lH (qQ5 m _ d s true a c.o);clear A B D hv;cases i:isM d s true with
 | false=>
   rw [i] at C;have r:givenR d s=[]:=(by unfold givenR qYe;rw [if_neg (by simp [i])]);rw [r];go_enter Tryz.func71,Tryz.ntmps71
   go_upto_region 1 with fail
   rw [<- H];clear H;go_wp2_with (go_at_call 13;refine C.o.mono ?_;rintro e f ⟨rfl,rfl⟩)
   go_ret;exact ⟨b.o,_,rfl,qQb.nil _ _ _⟩
 | true=>
   rw [i] at C;obtain ⟨p,hp,rfl,-⟩:=qQy.1 (qZ0 i);obtain ⟨ae,aj,af,av,kv,sv,U,-,-,ag,Z⟩:=c.o.node p hp;simp at U;obtain ⟨rfl,rfl⟩:=U;have c1:=Z.tag;have a3:qYe d (p:Int)=decide (d[p].tag=qJr):=(by unfold qYe;rw [i,qQ2 hp];simp);have Y:=zBq g (qZ0 i);have S:=lH (qXb m _ d (p:Int) a c.o (qWw g));have a2:=fun h:qYe d (p:Int)=true=>(show qXl d p (qQ3 d p)=true/\(p:Int)≠qQ3 d p from by obtain ⟨ad,G⟩:=g.tree;exact zWo G h);have a0:=fun h:(nd d (qQ3 d (p:Int))).hasS=false=>(show givenR d (p:Int)=[] from by obtain ⟨ad,G⟩:=g.tree;exact zKv G h);have I:=lH a2;have j:=lH a0;have l:=lH a3;clear Z i a2 a0 a3;generalize d[p].tag=T at *
   by_cases t:T=qJr
   ·have hb:(T==[115,108,111,116])=true:=(by rw [t];rfl);obtain ⟨a4,a5⟩:=I.o (by rw [l.o];simp [t]);have r:givenR d (p:Int)=(nd d (qQ3 d p)).kids.filter (fun k=>!(slotR d k != (p:Int))):=by
     unfold givenR;rw [l.o,if_pos (by simp [t])];refine List.filter_congr (fun k _=>?_);by_cases h:slotR d k=(p:Int) <;> simp [h]
    have o:=lH r;clear r l I t;have R:=lH (qWh m _ d (p:Int) (qQ3 d p) a c.o (qWw g));rw [a4] at R;generalize qQ3 d (p:Int)=h0 at *
    obtain ⟨q,hq,rfl,-⟩:=qQy.1 Y;have ah:((p:Int)==(q:Int))=false:=(by simpa using a5);clear a4 a5 Y;obtain ⟨_,_,_,_,_,_,V,-,-,-,Q⟩:=c.o.node q hq;simp at V;obtain ⟨⟨rfl,rfl⟩,rfl⟩:=V;have q5:=Q.kids;have q6:=Q.hasS;have J:=lH Q.kidsAt;have ab:(nd d (q:Int)).kids.length<=12:=(qK9 g (q:Int)).1;rw [qQ2 hq] at ab j o;clear Q;generalize d[q].kids=K at *
    generalize d[q].hasS=hs at *
    cases hs with
    | false=>
      rw [j.o rfl];clear o j;go_enter Tryz.func71,Tryz.ntmps71
      go_upto_region 1 with fail
      rw [<- H];clear H;go_wp2_with (first
 | (go_at_call 13;refine C.o.mono ?_;rintro e f ⟨rfl,rfl⟩)
 | (go_at_call 78;refine S.o.mono ?_;rintro e f ⟨rfl,rfl⟩))
      go_ret
      exact ⟨b.o,_,rfl,qQb.nil _ _ _⟩
    | true=>
      rw [o.o];clear o j;have cC:=lH (qZy m _ K a J.o E (by omega));have a1:∀ W,Bel a W->zH0 111 #[.pointer (some ⟨w.heap.size,0,none⟩),.pointer (some ⟨w.heap.size+1,0,none⟩)] (fun x=>slotR d x != (p:Int)) a.heap.size W:=by
       intro W u M ac x;have z:Bel a M:=Below.trans u ac;exact qG3 m _ d (p:Int) x w.heap.size (w.heap.size+1) M (c.o.later z E) (Za E z.size) g ((a7.o.bel z).cell 0) ((a8.o.bel z).cell 0)
      have X:=enters_of (P:=Tryz.prog) Tryz.func111 (by kernel_rfl) rfl;have cD:Hi (∀ W y,Bel a W->qQb 1 qQf a.heap.size 3 W y K->Calls Tryz.prog 86 #[y,.func (.func 111) #[] #[.pointer (some ⟨w.heap.size,0,none⟩),.pointer (some ⟨w.heap.size+1,0,none⟩)]] W fun e w'=>Below a.heap.size W w'/\∃ y,e=.returned y/\qQb 1 qQf a.heap.size 3 w' y (K.filter (fun x=>!(slotR d x != (p:Int))))):=lH (fun W y u hy=>
       qXp 111 _ (fun x=>slotR d x != (p:Int)) X a.heap.size y K W hy u.size (by omega) (a1 W u))
      clear a1 X;obtain ⟨ka,kc,rfl,k1,k2⟩:=Rf J.o;go_enter Tryz.func71,Tryz.ntmps71
      go_upto_region 1 with fail
      rw [<- H];clear H;go_wp2_with (first
 | (go_at_call 13;refine C.o.mono ?_;rintro e f ⟨rfl,rfl⟩)
 | (go_at_call 78;refine S.o.mono ?_;rintro e f ⟨rfl,rfl⟩)
 | (go_at_call 83;refine R.o.mono ?_;rintro e f ⟨rfl,rfl⟩)
 | (go_at_call 49;refine cC.o.mono ?_;rintro e w2 ⟨N,y2,rfl,O⟩;have F:=lH N;have a9:=lH O;obtain ⟨ya,yc,rfl,_,_⟩:=Rf O.read;clear N O)
 | (go_at_call 86;refine (cD.o _ _ F.o a9.o).mono ?_;rintro e w3 ⟨P,y3,rfl,o3⟩;have a6:=lH (Below.trans F.o P);have aa:=lH o3;clear P o3))
      go_ret
      exact ⟨Below.trans b.o (Below.mono a6.o b.o.size),_,rfl,aa.o.base_le b.o.size⟩
   ·have hb:(T==[115,108,111,116])=false:=by
     have:(T==qJr)=false:=(by simpa using t);exact this
    have r:givenR d (p:Int)=[]:=by unfold givenR;rw [l.o];simp [t]
    rw [r]
    clear r l I j t
    go_enter Tryz.func71,Tryz.ntmps71
    go_upto_region 1 with fail
    rw [<- H]
    clear H
    go_wp2_with (go_at_call 13;refine C.o.mono ?_;rintro e f ⟨rfl,rfl⟩)
    go_ret
    exact ⟨b.o,_,rfl,qQb.nil _ _ _⟩
theorem qW7 (m:Nat) (v:Value) (d:Dc) (n:Int) (w:World) (hv:qZh m w v d) (hm:m<=w.heap.size) (g:Good d) :
 Calls Tryz.prog 76 #[v,.int .i64 n] w (Rn w fun w' y=>qQb 1 qQf w.heap.size 3 w' y (kidsR d n)):=by
 have c:=lH (qQ5 m _ d n false w hv);cases i:isM d n false with
 | false=>
   rw [i] at c;have Z:kidsR d n=[]:=(by unfold kidsR;rw [if_pos (by simp [i])]);rw [Z];obtain ⟨va,vc,rfl,v1,v2⟩:=Rf hv;go_enter Tryz.func76,Tryz.ntmps76
   go_wp2_with (go_at_call 13;refine c.o.mono ?_;rintro e k ⟨rfl,rfl⟩)
   go_ret;exact ⟨Br _,_,rfl,qQb.nil _ _ _⟩
 | true=>
   rw [i] at c;obtain ⟨p,j,rfl,-⟩:=qQy.1 i;obtain ⟨b,a1,a3,av,kv,sv,rfl,v1,v2,a5,N⟩:=hv.node p j;have c1:=N.tag;have C:=N.kids;have c6:=N.hasS;have c7:=N.shadow;have F:kidsR d p=if d[p].hasS then d[p].shadow else if (givenR d p).isEmpty then d[p].kids else givenR d p:=by unfold kidsR;rw [i,qQ2 j];rfl
   rw [F];have E:Hi (d[p].tag≠qJr->givenR d p=[]):=lH (fun h=>by unfold givenR qYe;rw [qQ2 j,if_neg (by simp [h])]);have x:=lH N.kidsAt;have z:=lH N.shadowAt;have u:=lH (qV6 m _ d p w hv hm g);have a6:=qFl g p;have X:(nd d (p:Int)).kids.length<=12:=(qK9 g _).1;have a0:(nd d (p:Int)).shadow.length<=12:=(qK9 g _).2.1;rw [qQ2 j] at X a0;clear N F i hv;generalize d[p].hasS=hs at *
   generalize d[p].tag=T at *
   generalize d[p].shadow=S at *
   generalize d[p].kids=K at *
   generalize givenR d p=G at *
   have D:Hi (∀ W,Bel w W->Calls Tryz.prog 49 #[kv] W (Rn W fun w' y=>qQb 1 qQf W.heap.size 3 w' y K)):=lH (fun W h=>qZy m _ K W (qQa.later x.o qQc h hm) (Za hm h.size) (by omega));have M:Hi (Calls Tryz.prog 49 #[sv] w (Rn w fun w' y=>qQb 1 qQf w.heap.size 3 w' y S)):=lH (qZy m _ S w z.o hm (by omega));obtain ⟨ka,kc,rfl,k1,k2⟩:=Rf x.o;obtain ⟨sa,sc,rfl,s1,s2⟩:=Rf z.o;cases hs with
   | true=>
     go_enter Tryz.func76,Tryz.ntmps76
     go_wp2_with (first
 | (go_at_call 13;refine c.o.mono ?_;rintro e k ⟨rfl,rfl⟩)
 | (go_at_call 49;refine M.o.mono ?_;rintro e I ⟨B,Y,rfl,o⟩;have H:=lH B;have q:=lH o;clear B o))
     go_ret
     exact ⟨H.o,_,rfl,q.o⟩
   | false=>
     by_cases t:T=qJr
     ·have V:(T==[115,108,111,116])=true:=(by rw [t];rfl);have A:∀ s,Bel w s->s.cell? ⟨b,a1+p*9+5,none⟩=some (.slice ka K.length kc):=fun s U=>(Bel.cells U _ _ (by omega)).trans C;have J:=lH A;clear C A t E;by_cases f:G=[]
      ·subst f;go_enter Tryz.func76,Tryz.ntmps76
       go_wp2_with (first
 | (go_at_call 13;refine c.o.mono ?_;rintro e k ⟨rfl,rfl⟩)
 | (go_at_call 71;refine u.o.mono ?_;rintro e I ⟨B,Y,rfl,o⟩;obtain ⟨P,Q,rfl,_,_⟩:=Rf o.read;have C:=J.o _ B;have H:=lH B;clear B o)
 | (go_at_call 49;refine (D.o _ H.o).mono ?_;rintro e w3 ⟨a,y3,rfl,O⟩;have l:=lH (Bt H.o a);have r:=lH O;clear a O))
       go_ret
       exact ⟨l.o,_,rfl,r.o.base_le H.o.size⟩
      ·have R:G.isEmpty=false:=by simpa using f
       have a4:0<G.length:=by
        cases G with
        | nil=>exact absurd rfl f
        | cons a2 a7=>simp
       rw [R]
       go_enter Tryz.func76,Tryz.ntmps76
       go_wp2_with (first
 | (go_at_call 13;refine c.o.mono ?_;rintro e k ⟨rfl,rfl⟩)
 | (go_at_call 71;refine u.o.mono ?_;rintro e I ⟨B,Y,rfl,o⟩;obtain ⟨P,Q,rfl,_,_⟩:=Rf o.read;have q:=lH o;have H:=lH B;clear B o))
       go_ret
       exact ⟨H.o,_,rfl,q.o⟩
     ·have V:(T==[115,108,111,116])=false:=by
       have:(T==qJr)=false:=(by simpa using t);exact this
      have f:=E.o t
      subst f
      clear E t u
      go_enter Tryz.func76,Tryz.ntmps76
      go_wp2_with (first
 | (go_at_call 13;refine c.o.mono ?_;rintro e k ⟨rfl,rfl⟩)
 | (go_at_call 49;refine (D.o _ (Br _)).mono ?_;rintro e w3 ⟨a,y3,rfl,O⟩;have l:=lH a;have r:=lH O;clear a O))
      go_ret
      exact ⟨l.o,_,rfl,r.o⟩
theorem qX7 (m:Nat) (v:Value) (d:Dc) (n:Int) (w:World) (hv:qZh m w v d) (hm:m<=w.heap.size) (g:Good d) :
 Calls Tryz.prog 33 #[v,.int .i64 n] w (Rb (.int .i64 (upR d n)) w):=by
 have P:upR d n=upP d n:=by obtain ⟨a7,J⟩:=g.tree;exact qGk J n
 rw [P];clear P;have c:=lH (qQ5 m _ d n false w hv);cases h:isM d n false with
 | false=>
   rw [h] at c;have O:upP d n = -1:=(by unfold upP;rw [if_pos (by simp [h])]);rw [O];obtain ⟨va,vc,rfl,Y,Z⟩:=Rf hv;go_enter Tryz.func33,Tryz.ntmps33
   go_wp2_with (go_at_call 13;refine c.o.mono ?_;rintro e W ⟨rfl,rfl⟩)
   go_ret;exact ⟨rfl,Br _⟩
 | true=>
   rw [h] at c;obtain ⟨p,r,rfl,-⟩:=qQy.1 h;obtain ⟨b,X,A,av,kv,sv,rfl,Y,Z,a4,N⟩:=hv.node p r;have c4:=N.up;have c8:=N.inS;have f:=qQ2 r;have y:Hi (¬ d[p].up<0->isM d d[p].up false=true):=lH (fun a2=>by
    have:=zZ2 g h (by intro e;have E:=qF4 g;rw [<- e,f] at E;omega);rwa [f] at this)
   have U:Hi (upP d p=if d[p].up<0 then -1 else if d[p].inS then d[p].up else if (nd d d[p].up).hasS then slotR d p else if decide ((nd d d[p].up).tag=qJr)&&!(givenR d d[p].up).isEmpty then -1 else d[p].up):=lH (by
    unfold upP;rw [h,f];simp only [Bool.not_true,Bool.false_or,decide_eq_true_eq])
   rw [U.o];have S:=lH (qW5 m _ d p w hv hm g);have C:Hi (∀ x,Calls Tryz.prog 71 #[.slice (some ⟨b,X,none⟩) d.length A,.int .i64 x] w (Rn w fun w' a0=>qQb 1 qQf w.heap.size 3 w' a0 (givenR d x))):=lH (fun x=>qV6 m _ d x w hv hm g);have k:=lH (qFl g);have V:=lH hv;clear N f h hv U;generalize d[p].up=u at *
   generalize d[p].inS=T at *
   generalize slotR d p=sl at *
   by_cases j:u<0
   ·rw [if_pos j];go_enter Tryz.func33,Tryz.ntmps33
    go_wp2_with (go_at_call 13;refine c.o.mono ?_;rintro e W ⟨rfl,rfl⟩)
    go_ret;exact ⟨rfl,Br _⟩
   rw [if_neg j];have I:=y.o j;clear y;cases T with
   | true=>
     clear I;go_enter Tryz.func33,Tryz.ntmps33
     go_wp2_with (go_at_call 13;refine c.o.mono ?_;rintro e W ⟨rfl,rfl⟩)
     go_ret;exact ⟨rfl,Br _⟩
   | false=>
     rw [if_neg (by simp)];obtain ⟨q,s,rfl,-⟩:=qQy.1 I;obtain ⟨_,_,_,_,_,_,E,-,-,-,Q⟩:=V.o.node q s;simp at E;obtain ⟨⟨rfl,rfl⟩,rfl⟩:=E;have q1:=Q.tag;have q6:=Q.hasS;rw [qQ2 s];have l:=lH (C.o (q:Int));have a5:=k.o (q:Int);clear Q I C k;generalize d[q].hasS=R at *
     generalize d[q].tag=t at *
     generalize givenR d (q:Int)=G at *
     cases R with
     | true=>
       go_enter Tryz.func33,Tryz.ntmps33
       go_wp2_with (first
 | (go_at_call 13;refine c.o.mono ?_;rintro e W ⟨rfl,rfl⟩)
 | (go_at_call 70;refine qJ7 S.o fun z a=>?_))
       go_ret
       exact ⟨rfl,a.o⟩
     | false=>
       rw [if_neg (by simp)];by_cases H:t=qJr
       ·have M:(t==[115,108,111,116])=true:=(by rw [H];rfl);by_cases i:G=[]
        ·subst i;rw [if_neg (by simp)];clear H;go_enter Tryz.func33,Tryz.ntmps33
         go_wp2_with (first
 | (go_at_call 13;refine c.o.mono ?_;rintro e W ⟨rfl,rfl⟩)
 | (go_at_call 71;refine l.o.mono ?_;rintro e z ⟨B,y2,rfl,o⟩;obtain ⟨D,F,rfl,_,_⟩:=Rf o.read;have a:=lH B;clear B o))
         go_ret
         exact ⟨rfl,a.o⟩
        ·have K:G.isEmpty=false:=by simpa using i
         have a3:0<G.length:=by
          cases G with
          | nil=>exact absurd rfl i
          | cons a1 a6=>simp
         rw [if_pos (by simp [H,K])]
         clear H
         go_enter Tryz.func33,Tryz.ntmps33
         go_wp2_with (first
 | (go_at_call 13;refine c.o.mono ?_;rintro e W ⟨rfl,rfl⟩)
 | (go_at_call 71;refine l.o.mono ?_;rintro e z ⟨B,y2,rfl,o⟩;obtain ⟨D,F,rfl,_,_⟩:=Rf o.read;have a:=lH B;clear B o))
         go_ret
         exact ⟨rfl,a.o⟩
       ·have M:(t==[115,108,111,116])=false:=by
         have:(t==qJr)=false:=(by simpa using H);exact this
        rw [if_neg (by simp [H])]
        clear H
        go_enter Tryz.func33,Tryz.ntmps33
        go_wp2_with (go_at_call 13;refine c.o.mono ?_;rintro e W ⟨rfl,rfl⟩)
        go_ret
        exact ⟨rfl,Br _⟩

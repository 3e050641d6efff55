/- diff.Of: the walk. -/
import Derived.Test.YtkhkbifdakikcaaGreatDoorServeM
set_option maxRecDepth 100000
set_option maxHeartbeats 8000000
namespace Go.Proofs.YtkhkbifdakikcaaGreatDoor
open Go.RowKit
theorem zKy {n k:Nat} {a b:List It} {va vb:Value} {w:World} (ha:ItsK (·<n) k w va a) (hb:ItsK (·<n) k w vb b) (hn:n<=w.heap.size) (hA:qW3 a) (hB:qW3 b) (hL:(nodesL a++nodesL b).length<=1000000000) :
 Calls Tryz.prog 28 #[va,vb] w (Rn w fun w' y=>OfAt w.heap.size k w' y a b):=by
 have d9:=hL;rw [Zj] at d9;obtain ⟨aa,ac,rfl,_,_⟩:=Rf ha;obtain ⟨ba,bc,rfl,_,_⟩:=Rf hb;obtain ⟨A,au⟩:∃ A,A=w.alloc (.cells #[.slice ba b.length bc] 26):=⟨_,rfl⟩;have a0:Bel w A:=by rw [au];exact (Br w).alloc _
 have d7:Blk A w.heap.size [.slice ba b.length bc] 26:=by rw [au];exact Blk.new' w _ rfl _ _
 have e7:A.heap.size=w.heap.size+1:=by rw [au];simp
 have cf:=ha.later a0 hn;have bq:ItsK (·<A.heap.size) k A (.slice ba b.length bc) b:=(hb.later a0 hn).raise (Za hn a0.size);obtain ⟨d6,hV,hR⟩:=its_tab bq hB;have ck:=qWg hB;have dp:=zZc hB;have dk:qYw (·<A.heap.size) A d6 (qQz b):=hR;obtain ⟨L,ad⟩:∃ L,L=nodesL a++nodesL b:=⟨_,rfl⟩;have dn:Fits L (qQz a):=qF6 hA (fun av hm=>by rw [ad];exact List.mem_append_left _ hm);have cg:Fits L (qQz b):=qF6 hB (fun av hm=>by rw [ad];exact List.mem_append_right _ hm);obtain ⟨μB,FB⟩:=qFm ck cg;have db:∀ av,av∈nodesL b↔Has (qQz b) av:=fun av=>(qHl hB).symm;have bt:Hi (evsM a b=(ofF (qQz a) (qQz b) (nodesL a) (nodesL b) (L.length+2)).2):=lH (by rw [ad];rfl);have d8:L.length<=1000000000:=by rw [ad];exact hL
 have cO:Hi (Calls Tryz.prog 12 #[.slice aa a.length ac] A fun e w2=>∃ a1 n1 c1,e=.returned (.slice a1 n1 c1)/\Bel A w2/\∃ S0 br,(S0 (-1)).v=.slice a1 n1 c1/\qQx A.heap.size w2 S0 br (qQz a)):=lH (by
  refine (qXq k n _ a A cf (Za hn a0.size) (by omega)).mono ?_;rintro e w2 ⟨b2,y,rfl,ea,hO⟩;obtain ⟨S0,br,K,h2⟩:=own_tab hO hA;exact ⟨(S0 (-1)).a,(S0 (-1)).n,(S0 (-1)).c,by rw [<- K];rfl,b2,S0,br,rfl,h2⟩)
 have c7:Hi (∀ W,Bel A W->Calls Tryz.prog 56 #[.slice ba b.length bc] W (Rn W fun w' y=>qQb 1 qQf W.heap.size 3 w' y (nodesL b))):=lH (fun W c=>qKv k _ _ _ W (bq.later c (Zb _)) c.size (by omega));have c6:Hi (∀ W,Bel A W->Calls Tryz.prog 56 #[.slice aa a.length ac] W (Rn W fun w' y=>qQb 1 qQf W.heap.size 3 w' y (nodesL a))):=lH (fun W c=>qKv k n _ _ W (cf.later c (Za hn a0.size)) (Za (Za hn a0.size) c.size) (by omega));have bj:Hi (∀ W,Bel A W->Calls Tryz.prog 12 #[.slice ba b.length bc] W (Rn W fun w' y=>∃ c5,OwnT W.heap.size k w' y b c5)):=lH (fun W c=>qXq k _ _ _ W (bq.later c (Zb _)) c.size (by omega));have ay:=lH a0;have a5:=lH d7;have c2:=lH e7;have HR:=lH dk;have bg:=lH hV;have bu:=lH dn;have az:=lH cg;have am:=lH ck;have al:=lH dp;have a6:=lH db;have aw:=lH hA;have b0:=lH FB;have F:=lH d8;have b1:=lH ad;clear ha hb cf bq hR ck dp dk dn cg db hA hB FB hL a0 d7 hV ad d9 d8;go_enter Tryz.func28,Tryz.ntmps28
 go_upto_region 1 with fail
 rw [<- au];clear au;go_upto_region 2 with (go_at_call 12;(with_reducible refine cO.o.mono ?_);rintro e w2 ⟨ya,yn,yc,rfl,b2,S0,br,dd,hO⟩;have cl:=lH b2;have d0:=lH dd;have HO:=lH hO;clear b2 dd hO)
 obtain ⟨J,cj⟩:∃ J,J=w2.alloc (.cells #[.slice ya yn yc,.slice none 0 0] 125):=⟨_,rfl⟩;rw [<- cj];have b3:Hi (Dif ⟨A,fun _=>False,A⟩ w2.heap.size J L (qQz a) []):=lH (by
  have:=zG7 (qWg aw.o) (zZc aw.o) bu.o HO.o cl.o;rw [d0.o] at this;rw [cj];exact this)
 have a4:Hi (Bel A J):=lH b3.o.bel;generalize w2.heap.size=D at *
 clear cj HO d0 cl cO;have dz:J.cell? ⟨w.heap.size,0,none⟩=some (.slice ba b.length bc):=(a5.o.bel a4.o).cell 0;by_cases hE:a=[]/\b.length=1;case pos=>
  obtain ⟨rfl,hb1⟩:=hE;obtain ⟨⟨h,ks⟩,rfl⟩:=List.length_eq_one_iff.1 hb1;simp only [List.length_singleton] at bj dz;have HS:=lH c2.o;clear bt b3 a6 b0 bu az am al aw b1 HR bg a5 c7 c6 F;go_wp2_with (go_at_call 12;(with_reducible refine (bj.o _ a4.o).mono ?_);rintro e w4 ⟨b4,y4,rfl,c5,o4⟩;obtain ⟨g,e8,bl,ka,kc,rfl,dl,ef,T,V⟩:=zKf o4;have k0:=T.node;have k1:=T.role;have k2:=T.name;have k3:=T.about;have k4:=T.level;have k5:=T.checked;have k6:=T.off;have k7:=T.kids;have HI:=lH V;have a2:=lH b4;clear T V b4 o4)
  go_ret;refine ⟨Bel.alloc (Bt ay.o (Bt a4.o a2.o)) _,_,rfl,?_⟩;refine OfAt.all ⟨rfl,.inl rfl⟩ ?_;have h4:=a2.o.size;have h3:=a4.o.size;have hs:=HS.o;refine ⟨h,ks,w4.heap.size,.slice ka ks.length kc,rfl,rfl,by omega,Blk.new' w4 _ rfl _ _,?_⟩;exact (HI.o.agree (fun x H=>Below.heap_alloc w4 _ x H.2)).mono (fun x H=>⟨by omega,by simp;omega⟩)
 case neg=>
 have e4:(a.length=0/\b.length≠1)∨a.length≠0:=by
  by_cases h0:a.length=0
  ·exact .inl ⟨h0,fun K=>hE ⟨List.eq_nil_of_length_eq_zero h0,K⟩⟩
  ·exact .inr h0
 have HE:=lH hE;clear hE;rcases e4 with ⟨h0,K⟩ | h0;case' inl=>
  have e0:((a.length:Int)==0)=true:=by rw [h0];rfl
  have u:((b.length:Int)==1)=false:=by
   rw [beq_eq_false_iff_ne];omega
  clear K
 case' inr=>
  have e0:((a.length:Int)==0)=false:=by
   rw [beq_eq_false_iff_ne];omega
 all_goals
  clear h0
  go_upto_region 4 with fail
  clear e0
  go_wp2_with (first
 | (go_at_call 56;(with_reducible refine (c7.o _ a4.o).mono ?_);rintro e w4 ⟨b4,y4,rfl,o4⟩;obtain ⟨na,nc,rfl,_,_⟩:=Rf o4.read;have a2:=lH b4;have cw:=lH o4;clear b4 o4)
 | (go_at_call 56;(with_reducible refine (c6.o _ (Bt a4.o a2.o)).mono ?_);rintro e Z ⟨b5,y5,rfl,o5⟩;obtain ⟨la,lc,rfl,_,_⟩:=Rf o5.read;have ax:=lH b5;have cy:=lH o5;clear b5 o5))
  have du:=lH (Bt a2.o ax.o)
  obtain ⟨p,ae⟩:∃ p:WP,p=⟨A,(fun b=>False∨(J.heap.size<=b/\b<Z.heap.size)),Z⟩:=⟨_,rfl⟩
  have cs:Hi (Dif p D Z L (qQz a) []):=lH (by rw [ae];exact b3.o.guard du.o (fun b h=>h))
  have a7:Hi (∀ b,(J.heap.size<=b/\b<Z.heap.size)->p.P b):=lH (by rw [ae];exact fun b h=>.inr h)
  have bx:Hi (qQa 1 qQf (fun b=>J.heap.size<=b/\b<Z.heap.size) p.wp (.slice na (nodesL b).length nc) (nodesL b)):=lH (by
   rw [ae];exact (qQa.agree cw.o.row (fun x H=>ax.o.block x H.2.1) (fun _ _ _ h=>h)).mono (fun x H=>⟨H.1,Zc H.2.1 ax.o.size⟩) (fun _ _ _ h=>h))
  have cq:Hi (qQa 1 qQf (fun b=>J.heap.size<=b/\b<Z.heap.size) p.wp (.slice la (nodesL a).length lc) (nodesL a)):=lH (by
   rw [ae];exact cy.o.row.mono (fun x H=>⟨Za a2.o.size H.1,H.2.1⟩) (fun _ _ _ h=>h))
  have bh:Hi (p.toWorld=A):=lH (by rw [ae])
  clear ae cw cy a2 ax b3 c7 c6
  obtain ⟨T1,cc⟩:∃ T1,T1=lonesF (qQz b) (nodesL a) (qQz a):=⟨_,rfl⟩
  have bd:=lH cc
  have de:T1.2.length<=1000000000:=by
   rw [cc];refine Za (zK9 _ _ _) (Za ?_ F.o);rw [b1.o,Zj];omega
  have a8:=lH de
  clear cc de
  go_loopw [44] (fun z wr=>∃ (i:Nat) (P:Fl) (e':List Evt),z=.int .i64 i/\i<=(nodesL a).length/\Dif p D wr L P e'/\(lonesF (qQz b) ((nodesL a).drop i) P).1=T1.1/\e'++(lonesF (qQz b) ((nodesL a).drop i) P).2=T1.2) (fun z _=>(nodesL a).length - (intOf z).toNat)
  case atStart=>exact ⟨0,qQz a,[],rfl,Nat.zero_le _,cs.o,by rw [bd.o];rfl,by rw [bd.o];rfl⟩
  case round=>
   obtain ⟨i,m,u,rfl,hi,M,Q,q⟩:=hrel;by_cases ai:i<(nodesL a).length
   ·have O:=qFz M cq.o a7.o;obtain ⟨_,_,_,_,E,_,_,_,_⟩:=qQa.elem O i ai;simp at E;obtain ⟨rfl,rfl⟩:=E;have cx:=O.int_cell i ai;rw [zWz _ _ ai] at Q q;clear O;generalize (nodesL a)[i]=x at *
    unfold lonesF at Q q;have aq:u.length<=10000000000:=by
     have K:=congrArg List.length q;rw [Zj] at K;have:=a8.o;omega
    obtain ⟨pv,kv,C,hc⟩:=qFa M x;rcases hc with ⟨H,rfl⟩ | ⟨H,b2,dt,rfl,rfl,a9,-⟩
    ·rw [if_neg (fun h=>H h.1)] at Q q;have C:=lH (C _ (Br _));have f:=lH M;have j:=lH Q;have l:=lH q;clear M Q q H;go_wp2_with (go_at_call 57;(with_reducible refine C.o.mono ?_);rintro e w6 ⟨rfl,rfl⟩)
     go_roundw;case rel=>exact ⟨i+1,m,u,by go_num,ai,f.o,j.o,l.o⟩
     case measure=>simp [intOf];omega
    ·obtain ⟨g,bl,ds,bm,e2,e3,T,-,V⟩:=a9 _ (Br _);obtain ⟨r,cL,hr⟩:=dif_lone M F.o H (qFz M bx.o a7.o) (Zb _) a6.o T V;have e6:(m.kids (m.par x)).idxOf x<(m.kids (m.par x)).length:=List.idxOf_lt_length_of_mem H;have C:=lH (C _ (Br _));have cL:=lH cL;generalize (m.kids (m.par x)).idxOf x=ix at *
     generalize (m.kids (m.par x)).length=lx at *
     cases r with
     | false=>
       rw [if_neg (fun h=>by have:=hr.2 h.2;simp at this)] at Q q;have f:=lH M;have j:=lH Q;have l:=lH q;clear M Q q H hr a9 T V;go_wp2_with (first
 | (go_at_call 57;(with_reducible refine C.o.mono ?_);rintro e w6 ⟨rfl,rfl⟩)
 | (go_at_call 58;(with_reducible refine cL.o.mono ?_);rintro e w7 ⟨rfl,b7⟩;have bv:=lH (f.o.bel' b7);clear b7))
       go_roundw
       case rel=>exact ⟨i+1,m,u,by go_num,ai,bv.o,j.o,l.o⟩
       case measure=>simp [intOf];omega
     | true=>
       rw [if_pos ⟨H,hr.1 rfl⟩] at Q q;have f:=lH M;have j:=lH Q;have l:=lH q;have cD:Hi (∀ W,Dif p D W L m u->Calls Tryz.prog 59 #[.pointer (some ⟨D,0,none⟩),.agg #[.int .i64 1,.int .i64 x,.int .i64 0,.int .i64 0,.int .i64 0,.int .i64 0,.string ⟨#[]⟩,.string ⟨#[]⟩,.int .i64 0,.int .i64 0,.bool false,.slice none 0 0]] W fun r W'=>(∃ x,r=.returned x)/\Dif p D W' L (dropF m x) (u++[{ kind:=1,node:=x }])):=lH (fun W hM=>qXe (hm:=[]) (ha:=[]) hM (qF9 H) (fun h=>by cases h) F.o aq);clear M Q q H hr a9 T V;go_wp2_with (first
 | (go_at_call 57;(with_reducible refine C.o.mono ?_);rintro e w6 ⟨rfl,rfl⟩)
 | (go_at_call 58;(with_reducible refine cL.o.mono ?_);rintro e w7 ⟨rfl,b7⟩;have bv:=lH (f.o.bel' b7);clear b7)
 | (go_at_call 59;(with_reducible refine (cD.o _ bv.o).mono ?_);rintro e B ⟨⟨r8,rfl⟩,m8⟩;have d:=lH m8;clear m8))
       go_roundw
       case rel=>exact ⟨i+1,_,_,by go_num,ai,d.o,j.o,by rw [List.append_assoc];exact l.o⟩
       case measure=>simp [intOf];omega
   ·have I:(nodesL a).drop i=[]:=List.drop_of_length_le (by omega)
    rw [I] at Q q
    have E:m=T1.1:=Q
    have R:u=T1.2:=by rw [<- q];exact (List.append_nil u).symm
    obtain ⟨ec,eb⟩:=T1
    simp only at E R a8
    subst E R
    obtain ⟨o,ao⟩:∃ o,o=qZf (qQz b) (L.length+2) (-1) m:=⟨_,rfl⟩
    have d3:=lH ao
    have df:o.2.length<=1000000000:=by
     rw [ao];exact Za (zF6 _ _ _ _) (Za (qDz am.o az.o b0.o (Nat.lt_succ_self _)) F.o)
    have c3:=lH df
    have v:=M.bel
    rw [bh.o] at v
    have cP:Hi (Calls Tryz.prog 60 #[.pointer (some ⟨D,0,none⟩),.slice ba b.length bc,.int .i64 (-1)] _ fun r W'=>(∃ x,r=.returned x)/\Dif p D W' L o.1 (u++o.2)):=lH (by
     have h:=qDs (w0:=p) (V:=d6) am.o al.o b0.o az.o F.o (by rw [bh.o];exact HR.o) (L.length+2) (-1) _ m (fun _=>0) u M ⟨M.wf,fun _=>Nat.zero_le _,fun _=>by simp,fun _ h=>by simp at h⟩ (.inl rfl) (.inl rfl) (by omega) (fun _ _=>rfl) (by rw [<- ao,Zj];have:=a8.o;omega);rw [bg.o,<- ao] at h;exact h)
    have an:=(a5.o.bel v).cell 0
    simp only [Zd] at an
    clear M Q q I ao df v
    go_upto_region 13 with (go_at_call 60;(with_reducible refine cP.o.mono ?_);rintro e B ⟨⟨r8,rfl⟩,m8⟩;have d:=lH m8;clear m8)
    obtain ⟨za,zn,zc,hz,dr⟩:=dif_now d.o
    obtain ⟨μ2,F2⟩:=qFm d.o.wf d.o.fits
    have bn:=qDz d.o.wf d.o.fits F2 (Nat.lt_succ_self _)
    have c8:Hi (Calls Tryz.prog 56 #[.slice za zn zc] B (Rn B fun w' y=>qQb 1 qQf B.heap.size 3 w' y (qW8 o.1 (L.length+2)))):=lH (by
     have h:=qKv (L.length+2) _ _ _ B (dr (L.length+2) μ2 _ F2 (Nat.lt_succ_self _)) (Zb _) (by rw [qD6 d.o.wf d.o.heads];exact Za bn F.o);rw [qD6 d.o.wf d.o.heads] at h;exact h)
    obtain ⟨N,c9⟩:∃ N,N=qW8 o.1 (L.length+2):=⟨_,rfl⟩
    rw [<- c9] at c8 bn
    have cu:=lH c9
    have cv:=lH bn
    clear dr c9 bn cP an
    go_wp2_with (go_at_call 56;(with_reducible refine c8.o.mono ?_);rintro e w9 ⟨b9,y9,rfl,o9⟩;obtain ⟨da,dc,rfl,_,_⟩:=Rf o9.read;have bs:=lH b9;have cz:=lH o9;clear b9 o9)
    obtain ⟨s,af⟩:∃ s:WP,s=⟨p.toWorld,(fun b=>p.P b∨(B.heap.size<=b/\b<w9.heap.size)),w9⟩:=⟨_,rfl⟩
    have ct:Hi (Dif s D w9 L o.1 (u++o.2)):=lH (by rw [af];exact d.o.guard bs.o (fun b h=>h))
    have b6:Hi (∀ b,((J.heap.size<=b/\b<Z.heap.size)∨(B.heap.size<=b/\b<w9.heap.size))->s.P b):=lH (by rw [af];exact fun b h=>h.imp (a7.o b) id)
    have c0:Hi (qQa 1 qQf (fun b=>(J.heap.size<=b/\b<Z.heap.size)∨(B.heap.size<=b/\b<w9.heap.size)) s.wp (.slice na (nodesL b).length nc) (nodesL b)):=lH (by
     rw [af];exact (qQa.agree bx.o (fun x H=>(bs.o.block x (d.o.kept x (a7.o x H)).2).trans (d.o.kept x (a7.o x H)).1) (fun _ _ _ h=>h)).mono (fun x H=>.inl H) (fun _ _ _ h=>h))
    have cn:Hi (qQa 1 qQf (fun b=>(J.heap.size<=b/\b<Z.heap.size)∨(B.heap.size<=b/\b<w9.heap.size)) s.wp (.slice da N.length dc) N):=lH (by
     rw [af];exact cz.o.row.mono (fun x H=>.inr ⟨H.1,H.2.1⟩) (fun _ _ _ h=>h))
    have bi:Hi (s.toWorld=A):=lH (by rw [af];exact bh.o)
    clear af cz bs bx cq a7 bh d cs hz c8
    obtain ⟨T3,cd⟩:∃ T3,T3=dropsF (qQz b) N o.1:=⟨_,rfl⟩
    have be:=lH cd
    have dg:T3.2.length<=1000000000:=by
     rw [cd];exact Za (zXv _ _ _) (Za cv.o F.o)
    have bf:=lH dg
    clear cd dg
    go_loopw [81] (fun z wr=>∃ (i:Nat) (P:Fl) (e':List Evt),z=.int .i64 i/\i<=N.length/\Dif s D wr L P e'/\(dropsF (qQz b) (N.drop i) P).1=T3.1/\e'++(dropsF (qQz b) (N.drop i) P).2=(u++o.2)++T3.2) (fun z _=>N.length - (intOf z).toNat)
    case atStart=>exact ⟨0,o.1,u++o.2,rfl,Nat.zero_le _,ct.o,by rw [be.o];rfl,by rw [be.o];rfl⟩
    case round=>
     obtain ⟨i2,t2,G,rfl,eh,M,Q,q⟩:=hrel;by_cases aj:i2<N.length
     ·have O:=qFz M cn.o b6.o;obtain ⟨_,_,_,_,E,_,_,_,_⟩:=qQa.elem O i2 aj;simp at E;obtain ⟨rfl,rfl⟩:=E;have cx:=O.int_cell i2 aj;rw [zB2 _ _ aj] at Q q;clear O;generalize N[i2]=x at *
      unfold dropsF at Q q;have aq:G.length<=10000000000:=by
       have K:=congrArg List.length q;simp only [Zj] at K;have:=a8.o;have:=c3.o;have:=bf.o;omega
      obtain ⟨pv,kv,C,hc⟩:=qFa M x;have C:=lH (C _ (Br _));have cC:=lH (qJk _ _ _ x _ (qFz M c0.o b6.o));rcases hc with ⟨H,rfl⟩ | ⟨H,b2,dt,rfl,rfl,-,-⟩
      ·rw [if_neg (fun h=>H h.1)] at Q q;have f:=lH M;have j:=lH Q;have l:=lH q;clear M Q q H;go_wp2_with (go_at_call 57;(with_reducible refine C.o.mono ?_);rintro e w6 ⟨rfl,rfl⟩)
       go_roundw;case rel=>exact ⟨i2+1,t2,G,by go_num,aj,f.o,j.o,l.o⟩
       case measure=>simp [intOf];omega
      ·cases ag:(nodesL b).contains x with
       | true=>
         rw [ag] at cC;rw [if_neg (fun h=>h.2 ((a6.o x).1 (by simpa using ag)))] at Q q;have f:=lH M;have j:=lH Q;have l:=lH q;clear M Q q H ag;go_wp2_with (first
 | (go_at_call 57;(with_reducible refine C.o.mono ?_);rintro e w6 ⟨rfl,rfl⟩)
 | (go_at_call 21;(with_reducible refine cC.o.mono ?_);rintro e w7 ⟨rfl,rfl⟩))
         go_roundw
         case rel=>exact ⟨i2+1,t2,G,by go_num,aj,f.o,j.o,l.o⟩
         case measure=>simp [intOf];omega
       | false=>
         rw [ag] at cC;rw [if_pos ⟨H,fun h=>by have:=(a6.o x).2 h;simp [this] at ag⟩] at Q q;have f:=lH M;have j:=lH Q;have l:=lH q;have cD:Hi (∀ W,Dif s D W L t2 G->Calls Tryz.prog 59 #[.pointer (some ⟨D,0,none⟩),.agg #[.int .i64 1,.int .i64 x,.int .i64 0,.int .i64 0,.int .i64 0,.int .i64 0,.string ⟨#[]⟩,.string ⟨#[]⟩,.int .i64 0,.int .i64 0,.bool false,.slice none 0 0]] W fun r W'=>(∃ x,r=.returned x)/\Dif s D W' L (dropF t2 x) (G++[{ kind:=1,node:=x }])):=lH (fun W hM=>qXe (hm:=[]) (ha:=[]) hM (qF9 H) (fun h=>by cases h) F.o aq);clear M Q q H ag;go_wp2_with (first
 | (go_at_call 57;(with_reducible refine C.o.mono ?_);rintro e w6 ⟨rfl,rfl⟩)
 | (go_at_call 21;(with_reducible refine cC.o.mono ?_);rintro e w7 ⟨rfl,rfl⟩)
 | (go_at_call 59;(with_reducible refine (cD.o _ f.o).mono ?_);rintro e B ⟨⟨r8,rfl⟩,m8⟩;have d:=lH m8;clear m8))
         go_roundw
         case rel=>exact ⟨i2+1,_,_,by go_num,aj,d.o,j.o,by rw [List.append_assoc];exact l.o⟩
         case measure=>simp [intOf];omega
     ·have I:N.drop i2=[]:=List.drop_of_length_le (by omega)
      rw [I] at Q q
      have E:t2=T3.1:=Q
      have R:G=(u++o.2)++T3.2:=by rw [<- q];exact (List.append_nil G).symm
      obtain ⟨ee,ed⟩:=T3
      simp only at E R bf
      subst E
      obtain ⟨T4,bp⟩:∃ T4,T4=tellsF (qQz b) (nodesL b) t2:=⟨_,rfl⟩
      have c4:=lH bp
      have dh:T4.2.length<=1000000000:=by
       rw [bp];refine Za (zHq _ _ _) (Za ?_ F.o);rw [b1.o,Zj];omega
      have d4:=lH dh
      have cp:Hi (evsM a b=G++T4.2):=lH (by
       have h:=bt.o;unfold ofF at h;simp only at h;rw [<- bd.o] at h;simp only at h;rw [<- d3.o,<- cu.o,<- be.o] at h;simp only at h;rw [<- bp] at h;rw [h,R];simp only [List.append_assoc])
      have dm:G.length<=4000000000:=by
       rw [R];simp only [Zj];have:=a8.o;have:=c3.o;have:=bf.o;omega
      have co:=lH dm
      have cr:=lH M
      clear M Q q I bp dh R dm cn bd d3 be a8 c3 bf cu cv bt ct
      go_wp2
      go_loopw [108] (fun z wr=>∃ (i:Nat) (P:Fl) (e':List Evt),z=.int .i64 i/\i<=(nodesL b).length/\Dif s D wr L P e'/\(tellsF (qQz b) ((nodesL b).drop i) P).1=T4.1/\e'++(tellsF (qQz b) ((nodesL b).drop i) P).2=G++T4.2) (fun z _=>(nodesL b).length - (intOf z).toNat)
      case atStart=>exact ⟨0,t2,G,rfl,Nat.zero_le _,cr.o,by rw [c4.o];rfl,by rw [c4.o];rfl⟩
      case round=>
       obtain ⟨i3,t,E,rfl,ei,M,Q,q⟩:=hrel;by_cases a3:i3<(nodesL b).length
       ·have O:=qFz M c0.o b6.o;obtain ⟨_,_,_,_,e5,_,_,_,_⟩:=qQa.elem O i3 a3;simp at e5;obtain ⟨rfl,rfl⟩:=e5;have cx:=O.int_cell i3 a3;have dq:=(a6.o _).1 (Zl a3);rw [zW7 _ _ a3] at Q q;clear O;generalize (nodesL b)[i3]=x at *
        unfold tellsF at Q q;have aq:E.length<=10000000000:=by
         have K:=congrArg List.length q;simp only [Zj] at K;have:=co.o;have:=d4.o;omega
        have v:=M.bel;rw [bi.o] at v;obtain ⟨pv,kv,C,hc⟩:=qFa M x;obtain ⟨ab,gb,ob,lb,cb,ka,kn,kc,ib,ej,ek,eg,bo⟩:=rd_find HR.o am.o al.o ((a5.o.cell 0).trans (by rw [bg.o];rfl)) dq;have C:=lH (C _ (Br _));have cG:=lH (bo _ v).1;have b8:=lH (fun W c=>(bo W (Bt v c)).2);have ar:=al.o x dq;rcases hc with ⟨H,rfl⟩ | ⟨H,b2,dt,rfl,rfl,a9,-⟩
        ·rw [if_neg (fun h=>H h.1)] at Q q;have f:=lH M;have j:=lH Q;have l:=lH q;clear M Q q H bo v;go_upto_region 25 with (first
 | (go_at_call 57;(with_reducible refine C.o.mono ?_);rintro e w6 ⟨rfl,rfl⟩)
 | (go_at_call 57;(with_reducible refine cG.o.mono ?_);rintro e w7 ⟨rfl,rfl⟩))
         refine qK2 [0,1,2,3,4,5,6,7,8,9,10,11,12,13,14,15] [] (fun w'=>Bel _ w') (by kernel_rfl) (by kernel_rfl) (Br _).drew ?_
         simp only [pickL,List.filterMap_cons,List.filterMap_nil,Zd,Ze]
         iterate 16 (first
 | (refine DetL.cons (fun _=>Says.skip ?_) ?_;rfl;simp only [Act.put,Zh,Zf,Zg])
 | (refine DetL.cons (v:=?_) (fun _=>Says.plain ?_ ?_) ?_;rotate_left;rfl;(intro w' S;go_simp;with_reducible rfl);simp only [Act.put,Zh,Zf,Zg]))
         refine DetL.nil (fun B U=>?_)
         have d:=lH (f.o.bel' U)
         clear U f
         go_wp2
         go_roundw
         case rel=>exact ⟨i3+1,t,E,by go_num,a3,d.o,j.o,l.o⟩
         case measure=>simp [intOf];omega
        ·obtain ⟨g,bl,ds,bm,e2,e3,T,-,-⟩:=a9 _ (Br _)
         have e6:(t.kids (t.par x)).idxOf x<(t.kids (t.par x)).length:=List.idxOf_lt_length_of_mem H
         have dj:=World.block_lt_of_cell? wr _ bm
         have Y:=World.block_lt_of_cell? wr _ T.node
         have di:∀ W,Bel wr W->TabC W g ((t.kids (t.par x)).idxOf x*8) (t.head x) ds:=fun W c=>⟨(c.cells g _ Y).trans T.node,(c.cells g _ Y).trans T.role,(c.cells g _ Y).trans T.name,(c.cells g _ Y).trans T.about,(c.cells g _ Y).trans T.level,(c.cells g _ Y).trans T.checked,(c.cells g _ Y).trans T.off,(c.cells g _ Y).trans T.kids⟩
         have bk:∀ W,Bel wr W->Calls Tryz.prog 61 #[.pointer (some ⟨g,(t.kids (t.par x)).idxOf x*8,none⟩),.pointer (some ⟨gb,ob+ib*8,none⟩)] W (Rb (.bool (decide (t.head x=(qQz b).head x))) W):=fun W c=>zQy (di W c) (b8.o W c).2
         have HS:Hi (∀ w',Bel wr w'->w'.cell? b2=some (.slice (some ⟨g,0,none⟩) (t.kids (t.par x)).length bl)/\w'.cell? ab=some (.slice (some ⟨gb,ob,none⟩) lb cb)):=lH (fun w' c=>⟨(World.cell?_of_block (c.block _ dj)).trans bm,(b8.o w' c).1⟩)
         clear T di a9 bo bm dj Y v
         generalize (t.kids (t.par x)).idxOf x=ix at *
         generalize (t.kids (t.par x)).length=lx at *
         by_cases ah:t.head x=(qQz b).head x
         ·have cS:Hi (∀ W,Bel wr W->Calls Tryz.prog 61 #[.pointer (some ⟨g,ix*8,none⟩),.pointer (some ⟨gb,ob+ib*8,none⟩)] W (Rb (.bool true) W)):=lH (fun W c=>by have h:=bk W c;rw [decide_eq_true ah] at h;exact h)
          rw [if_neg (fun h=>h.2 ah)] at Q q
          have f:=lH M
          have j:=lH Q
          have l:=lH q
          clear M Q q H bk ah ar
          go_upto_region 25 with (first
 | (go_at_call 57;(with_reducible refine C.o.mono ?_);rintro e w6 ⟨rfl,rfl⟩)
 | (go_at_call 57;(with_reducible refine cG.o.mono ?_);rintro e w7 ⟨rfl,rfl⟩))
          refine qK2 [0,1,2,3,4,5,6,7,8,9,10,11,12,13,14,15] [] (fun w'=>Bel _ w') (by kernel_rfl) (by kernel_rfl) (Br _).drew ?_
          simp only [pickL,List.filterMap_cons,List.filterMap_nil,Zd,Ze]
          iterate 16 (first
 | (refine DetL.cons (v:=?_) (fun _=>Says.plain ?_ ?_) ?_;rotate_left;rfl;(intro w' S;obtain ⟨s1,s2⟩:=HS.o w' S;go_simp;with_reducible rfl);simp only [Act.put,Zh,Zf,Zg])
 | (refine DetL.cons (v:=?_) (fun _=>Says.call (f:=?_) (args:=?_) ?_ ?_ ?_) ?_;rotate_left 3;rfl;(intro w';go_simp;constructor <;> with_reducible rfl);(intro w' S;refine Calls.mono (cS.o _ S) ?_;rintro e e9 ⟨rfl,hb⟩;refine ⟨?_,Bt S hb⟩;with_reducible rfl);simp only [Act.put,Zh,Zf,Zg]))
          refine DetL.nil (fun B U=>?_)
          have d:=lH (f.o.bel' U)
          clear U f
          go_wp2
          go_roundw
          case rel=>exact ⟨i3+1,t,E,by go_num,a3,d.o,j.o,l.o⟩
          case measure=>simp [intOf];omega
         ·have cS:Hi (∀ W,Bel wr W->Calls Tryz.prog 61 #[.pointer (some ⟨g,ix*8,none⟩),.pointer (some ⟨gb,ob+ib*8,none⟩)] W (Rb (.bool false) W)):=lH (fun W c=>by have h:=bk W c;rw [decide_eq_false ah] at h;exact h)
          rw [if_pos ⟨H,ah⟩] at Q q
          have f:=lH M
          have ch:Goes t ⟨4,x,0,0,.mk ((qQz b).head x) []⟩ (qYm t x ((qQz b).head x)):=.inr (.inr (.inr ⟨x,0,0,_,rfl,ar,H,rfl⟩))
          have ce:=fun W c=>(b8.o W c).2
          obtain ⟨I,ci⟩:∃ I,I=(qQz b).head x:=⟨_,rfl⟩
          rw [<- ci] at Q q ch ar
          simp only [<- ci] at ce
          obtain ⟨qn,qr,qm,qa,ql,qc,qo⟩:=I
          simp only at ar
          have d5:=lH ce
          have j:=lH Q
          have l:=lH q
          have cD:Hi (∀ W,Dif s D W L t E->Calls Tryz.prog 59 #[.pointer (some ⟨D,0,none⟩),.agg #[.int .i64 4,.int .i64 x,.int .i64 0,.int .i64 0,.int .i64 qn,.int .i64 qr,.string ⟨qm.toArray⟩,.string ⟨qa.toArray⟩,.int .i64 ql,.int .i64 qc,.bool qo,.slice none 0 0]] W fun r W'=>(∃ x,r=.returned x)/\Dif s D W' L (qYm t x ⟨qn,qr,qm,qa,ql,qc,qo⟩) (E++[⟨4,x,0,0,.mk ⟨qn,qr,qm,qa,ql,qc,qo⟩ []⟩])):=lH (fun W hM=>qXe hM ch (fun h=>by cases h) F.o aq)
          have dy:=lH (fun W=>qBg qn qr qm qa ql qc qo ka kn kc W)
          clear M Q q H bk ah ar ch ce ci
          go_upto_region 25 with (first
 | (go_at_call 57;(with_reducible refine C.o.mono ?_);rintro e w6 ⟨rfl,rfl⟩)
 | (go_at_call 57;(with_reducible refine cG.o.mono ?_);rintro e w7 ⟨rfl,rfl⟩))
          refine qK2 [0,1,2,3,4,5,6,7,8,9,10,11,12,13,14,15] [] (fun w'=>Bel _ w') (by kernel_rfl) (by kernel_rfl) (Br _).drew ?_
          simp only [pickL,List.filterMap_cons,List.filterMap_nil,Zd,Ze]
          iterate 16 (first
 | (refine DetL.cons (v:=?_) (fun _=>Says.plain ?_ ?_) ?_;rotate_left;rfl;(intro w' S;obtain ⟨s1,s2⟩:=HS.o w' S;go_simp;with_reducible rfl);simp only [Act.put,Zh,Zf,Zg])
 | (refine DetL.cons (v:=?_) (fun _=>Says.call (f:=?_) (args:=?_) ?_ ?_ ?_) ?_;rotate_left 3;rfl;(intro w';go_simp;constructor <;> with_reducible rfl);(intro w' S;refine Calls.mono (cS.o _ S) ?_;rintro e e9 ⟨rfl,hb⟩;refine ⟨?_,Bt S hb⟩;with_reducible rfl);simp only [Act.put,Zh,Zf,Zg]))
          refine DetL.nil (fun B U=>?_)
          have d:=lH (f.o.bel' U)
          have s2:=(HS.o _ U).2
          have X:=d5.o _ U
          have k0:=X.node
          have k1:=X.role
          have k2:=X.name
          have k3:=X.about
          have k4:=X.level
          have k5:=X.checked
          have k6:=X.off
          have k7:=X.kids
          simp only at k0 k1 k2 k3 k4 k5 k6
          clear U f X HS d5 b8
          go_wp2_with (first
 | (go_at_call 62;(with_reducible refine (dy.o _).mono ?_);rintro e wb ⟨rfl,bb⟩;have dw:=lH (d.o.bel' bb);clear bb)
 | (go_at_call 59;(with_reducible refine (cD.o _ dw.o).mono ?_);rintro e wd ⟨⟨rd,rfl⟩,md⟩;have dx:=lH md;clear md))
          go_roundw
          case rel=>exact ⟨i3+1,_,_,by go_num,a3,dx.o,j.o,by rw [List.append_assoc];exact l.o⟩
          case measure=>simp [intOf];omega
       ·have I:(nodesL b).drop i3=[]:=List.drop_of_length_le (by omega)
        rw [I] at Q q
        have R:E=G++T4.2:=by rw [<- q];exact (List.append_nil E).symm
        have he:evsM a b=E:=by rw [cp.o,R]
        obtain ⟨oa,oc,dl,hO⟩:=dif_out M
        have v:=M.bel
        rw [bi.o] at v
        have e1:s.heap.size=w.heap.size+1:=by rw [bi.o];exact c2.o
        have ca:=hO.base_le (base':=w.heap.size) (by omega)
        rw [<- he] at ca dl
        have HO:=lH ca
        have ak:=lH v
        have an:=(a5.o.bel v).cell 0
        simp only [Zd] at an
        clear M Q q I R hO ca e1 v cp cr c0 b6 c4 d4 co he bi
        by_cases ap:20<(evsM a b).length
        ·have d1:decide ((20:Int)<((evsM a b).length:Int))=true:=by
          rw [decide_eq_true_eq];omega
         by_cases hone:b.length=1
         ·obtain ⟨⟨h,ks⟩,rfl⟩:=List.length_eq_one_iff.1 hone
          simp only [List.length_singleton] at bj an
          have HS:=lH c2.o
          have dv:=lH ap
          clear a6 b0 bu az am al aw b1 HR bg a5 F HO ap hone
          go_wp2_with (go_at_call 12;(with_reducible refine (bj.o _ ak.o).mono ?_);rintro e wz ⟨bz,yz,rfl,c5,oz⟩;obtain ⟨g,e8,bl,ka,kc,rfl,el,em,T,V⟩:=zKf oz;have k0:=T.node;have k1:=T.role;have k2:=T.name;have k3:=T.about;have k4:=T.level;have k5:=T.checked;have k6:=T.off;have k7:=T.kids;have HI:=lH V;have cm:=lH bz;clear T V bz oz)
          go_ret
          refine ⟨Bel.alloc (Bt ay.o (Bt ak.o cm.o)) _,_,rfl,?_⟩
          refine OfAt.all ⟨rfl,.inr ?_⟩ ?_
          ·exact dv.o
          have h4:=cm.o.size
          have h3:=ak.o.size
          have hs:=HS.o
          refine ⟨h,ks,wz.heap.size,.slice ka ks.length kc,rfl,rfl,by omega,Blk.new' wz _ rfl _ _,?_⟩
          exact (HI.o.agree (fun x H=>Below.heap_alloc wz _ x H.2)).mono (fun x H=>⟨by omega,by simp;omega⟩)
         ·have d2:((b.length:Int)==1)=false:=by
           rw [beq_eq_false_iff_ne];omega
          have bw:Hi (¬ AllM a b):=lH (fun h=>hone h.1)
          clear hone ap
          go_wp2
          go_ret
          exact ⟨Bt ay.o ak.o,_,rfl,OfAt.plain bw.o HO.o⟩
        ·have d1:decide ((20:Int)<((evsM a b).length:Int))=false:=by
          rw [decide_eq_false_iff_not];omega
         have bw:Hi (¬ AllM a b):=lH (fun h=>by
          rcases h.2 with e | e
          ·exact HE.o ⟨e,h.1⟩
          ·exact ap e)
         clear ap
         go_wp2
         go_ret
         exact ⟨Bt ay.o ak.o,_,rfl,OfAt.plain bw.o HO.o⟩

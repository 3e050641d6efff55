/- The changer's put: a node comes to stand in another one's list, in place. (Printed by wip/tools/domput.py.) -/
import Derived.Test.YtkhkbifdakikcaaGreatDoorDomDeep
set_option maxRecDepth 100000
set_option maxHeartbeats 8000000
namespace Go.Proofs.YtkhkbifdakikcaaGreatDoor
open Go.RowKit
variable {d:Dc}
def Ch (base c:Nat) (w:World) (d:Dc) (n:Int):Prop:=∃ v,Blk w c [v,.int .i64 n] 108/\base<=c/\OwnD base (·=c) w v d
theorem Ch.bel {base c:Nat} {w w':World} {n:Int} (h:Ch base c w d n) (H:Bel w w'):Ch base c w' d n:=by
 obtain ⟨v,a,b,e⟩:=h;exact ⟨v,a.bel H,b,e.keep H⟩
theorem qWn (m:Nat) (v:Value) (l:List Int) (x:Int) (w:World) (hv:qKn m w v l):Calls Tryz.prog 50 #[v,.int .i64 x] w (Rv (.int .i64 (Lib.idxOf l x)) w):=by
 rcases qQa.cases hv with ⟨rfl,rfl⟩ | ⟨b,o,c,rfl,f,g,i⟩
 ·exact (Tryz.slices_Index_int_empty none 0 x w).mono (fun e W h=>⟨h.1,h.2.symm⟩)
 ·have a:∀ j,j<l.length->w.cell? ⟨b,o+j,none⟩=some (.int .i64 (l.getD j 0)):=fun j H=>by
   have:=qQa.int_cell hv j H;rw [this];simp [H]
  have:=Tryz.slices_Index_int b o l.length c l x w (Zb _) (by omega) a;rw [List.take_length] at this;exact this.mono (fun e W h=>⟨h.1,h.2.symm⟩)
theorem qGj {p:Nat} (h:p<d.length) (x:Nd):qZq d p x=d.set p x:=by unfold qZq;rw [if_neg (by omega)]
theorem idx_at {l:List Int} {x:Int} (h:l.Nodup):Lib.idxOf l x=atF x l 0 (-1):=(at_index h).symm
theorem zV7 {R:Nat} {r:Int->Nat} {k:Int} (g:G0 qQk R r d) (h:isM d k false=true):((qFi d k).length:Int) - 1+qZo d k=((r k+qZo d k:Nat):Int):=by
 rw [qGg g h];omega
theorem qG5 (base c:Nat) (d:Dc) (n k t before:Int) (w:World) (h:Ch base c w d n) (y:base<=w.heap.size) (hd:d.length<=100) (T:PutOk d k t false) :
 Calls Tryz.prog 84 #[.pointer (some ⟨c,0,none⟩),.int .i64 k,.int .i64 t,.int .i64 before,.bool false] w fun e w'=>e=.returned (.int .i64 (putM d k t before false).1)/\Below base w w'/\((putM d k t before false).1=0->Ch base c w' (putM d k t before false).2 n):=by
 have ad:=qZ0 T.to;obtain ⟨r0,g0⟩:=T.tree;have ao:=(g0.ok t).few false;have ab:=(g0.ok t).once false;have a7:=T.tree' (before:=before);have a4:(listM (nd d t) false).length<12->∀ ae,isM (putD d k t before false) ae false=true->(allM (putD d k t before false) ae).length<=1000:=fun hl ae hx=>Za (zGw T hl hx) (by omega);have Z:putD d k t before false=d.set t.toNat (qKw (nd d t) false (insM (listM (nd d t) false) (qXi (listM (nd d t) false) before).toNat k)):=zGh ad;obtain ⟨v,hK,aj,hD⟩:=h;obtain ⟨p,X,rfl,-⟩:=qQy.1 ad;obtain ⟨b,C,av,kv,sv,rfl,z1,z2,b7,a5,b6,hN,ap,_,rK,rS⟩:=hD.slots p X;rw [qQ2 X] at ao ab a7 Z a4;simp only [Int.toNat_natCast] at Z;have be:∀ a8:Int,(qXi (listM (nd d (p:Int)) false) before)=a8->(qXi d[p].kids before)=a8:=fun a8 h=>by rw [qQ2 X] at h;exact h
 have hM:putM d k p before false=if qXi d[p].kids before<0 then (8,[]) else if 12<=d[p].kids.length then (5,[]) else if 16<((qFi (putD d k p before false) k).length:Int) - 1+qZo (putD d k p before false) k then (3,[]) else (0,putD d k p before false):=by
  unfold putM;rw [qQ2 X];rfl
 obtain ⟨I,J,rfl,l1,l2⟩:=Rf rK.read;have ba:w.cell? ⟨b,p*9+5,none⟩=some (.slice I d[p].kids.length J):=hN.kids;have b8:=hK.cell 0;have bb:=hK.lt;have b9:c≠b:=fun e=>b6 e.symm;simp at b8;have HK:=lH hK;have HD:=lH hD;have M:=lH rK;have HF:=lH ap;have hL:listM d[p] false=d[p].kids:=rfl;rw [hL] at ao ab a7 Z a4;have HM:=lH hM;have HT:=lH a7;have b1:=lH Z;have az:=lH a4;generalize b5:putM d k p before false=aa at *
 clear b5 Z a7 hM hN hK hD rK rS ap a4 T g0 ad;generalize b3:putD d k p before false=D at *
 clear b3;generalize ah:d[p].kids=L at *
 have bg:=lH ah;clear ah;have x:Hi (∀ W,Bel w W->Calls Tryz.prog 50 #[.slice I L.length J,.int .i64 before] W (Rv (.int .i64 (atF before L 0 (-1))) W)):=lH (fun W hW=>by
  rw [<- idx_at ab];exact qWn w.heap.size _ L before W (qQa.later M.o.read qQc hW (Zb _)))
 obtain ⟨G,f⟩:∃ A,A=qXi L before:=⟨_,rfl⟩;by_cases a6:G<0
 ·
  have m:0<=before:=by
   unfold qXi at f;by_cases h:0<=before
   ·exact h
   ·rw [if_neg h] at f;omega
  have s:atF before L 0 (-1)=G:=by rw [f,qXi,if_pos m]
  rw [s] at x;have S:Hi (aa=(8,[])):=lH (by rw [HM.o,<- f,if_pos a6]);have hb1:decide (before ≥ 0)=true:=decide_eq_true m;have hb2:decide (G<0)=true:=decide_eq_true a6;clear f s;go_enter Tryz.func84,Tryz.ntmps84
  go_wp2_with (go_at_call 50;refine (x.o _ (Br w)).mono ?_;rintro e w1 ⟨rfl,rfl⟩)
  go_ret;rw [S.o];exact ⟨rfl,Below.refl _ _,fun h=>by cases h⟩
 ·by_cases aw:12<=L.length
  ·have S:Hi (aa=(5,[])):=lH (by rw [HM.o,<- f,if_neg a6,if_pos aw]);have hb2:decide (G<0)=false:=decide_eq_false a6;have hb3:(12:Int)<=(L.length:Int):=(by omega);by_cases m:0<=before
   ·have s:atF before L 0 (-1)=G:=(by rw [f,qXi,if_pos m]);rw [s] at x;have hb1:decide (before ≥ 0)=true:=decide_eq_true m;clear f s;go_enter Tryz.func84,Tryz.ntmps84
    go_wp2_with (go_at_call 50;refine (x.o _ (Br w)).mono ?_;rintro e w1 ⟨rfl,rfl⟩)
    go_ret;rw [S.o];exact ⟨rfl,Below.refl _ _,fun h=>by cases h⟩
   ·have hb1:decide (before ≥ 0)=false:=decide_eq_false m;clear f;go_enter Tryz.func84,Tryz.ntmps84
    go_wp2;go_ret;rw [S.o];exact ⟨rfl,Below.refl _ _,fun h=>by cases h⟩
  ·
   have au:=zV1 L before;obtain ⟨A,rfl⟩:=Int.eq_ofNat_of_zero_le (by omega:0<=G);obtain ⟨r,a3,V,_⟩:=HT.o (by omega);have hA:A<=L.length:=(by omega);have a9:Hi (D=d.set p { d[p] with kids:=L.take A++[k]++L.drop A }):=lH (by rw [b1.o,<- f];rfl);have bh:D.length<=100:=(by rw [a9.o];simpa using hd);have ai:=az.o (by omega) k V;have am:=zV7 a3 V;have aq:¬ ((A:Int)<0):=(by omega);have S:Hi (aa=if 16<r k+qZo D k then (3,[]) else (0,D)):=lH (by
    rw [HM.o,<- f,if_neg aq,if_neg aw,am];by_cases h:16<r k+qZo D k
    ·rw [if_pos h,if_pos (by omega)]
    ·rw [if_neg h,if_neg (by omega)])
   have bj:=(a3.rank k V).1;have an:=qDi D 100 k;have bi:qZo D k<=100:=an;have HG:=lH a3;have af:=lH V;have hb2:decide ((A:Int)<0)=false:=decide_eq_false aq;have hb3:¬ ((12:Int)<=(L.length:Int)):=(by omega);have l:Bel w (w.alloc (.cells #[.int .i64 k] 3)):=(Br w).alloc _;have ag:Hi (Calls Tryz.prog 116 #[.slice I L.length J,.int .i64 A,.slice (some ⟨w.heap.size,0,none⟩) 1 1] (w.alloc (.cells #[.int .i64 k] 3)) fun e w'=>∃ a1 n1 c1,e=.returned (.slice a1 n1 c1)/\Below base w w'/\w'.cell? ⟨b,p*9+5,none⟩=some (.slice I L.length J)/\w'.frozen? ⟨b,p*9+5,none⟩=false/\Blk (w'.setCell ⟨b,p*9+5,none⟩ (.slice a1 n1 c1)) c [.slice (some ⟨b,0,none⟩) d.length C,.int .i64 n] 108/\OwnD base (·=c) (w'.setCell ⟨b,p*9+5,none⟩ (.slice a1 n1 c1)) (.slice (some ⟨b,0,none⟩) d.length C) D/\Below base w (w'.setCell ⟨b,p*9+5,none⟩ (.slice a1 n1 c1))):=lH (by
    have ax:=(M.o.move (w':=w.alloc (.cells #[.int .i64 k] 3)) qQc (fun b _ hl=>l.block b hl) (fun _ h _=>h));refine (qHh base _ L A w.heap.size k _ ax.1 (Za y l.size) hA (by omega) (Blk.new' w _ rfl #[.int .i64 k] 3) (fun e=>by have:=(M.o.1.lt _ e).2;omega)).mono ?_;rintro e F ⟨bl,rfl,O,g2,Q⟩;obtain ⟨Y,K,rfl,_,_⟩:=Rf O.read;have ar:∀ j,(Value.slice I L.length J).ownBlock=some j->j≠b/\j≠c:=fun j q=>⟨(M.o.2 j q).1,(M.o.2 j q).2⟩;have ak:F.heap[b]?=(w.alloc (.cells #[.int .i64 k] 3)).heap[b]?:=g2.block b (Zc a5 l.size) (fun e=>(ar b e.symm).1 rfl);have bc:F.heap[c]?=(w.alloc (.cells #[.int .i64 k] 3)).heap[c]?:=g2.block c (Zc bb l.size) (fun e=>(ar c e.symm).2 rfl);have al:(w.alloc (.cells #[.int .i64 k] 3)).cell? ⟨b,p*9+5,none⟩=some (.slice I L.length J):=(Bel.cells l b _ a5).trans ba;have hb1:Below base w F:=Below.grown (Below.mono l y) g2 (Za y l.size) (fun j q=>(ax.1.lt j q).1);have ay:=OwnD.setKids (HD.o.keep l) rfl X al g2 (kv':=.slice Y (L.take A++[k]++L.drop A).length K) (l':=L.take A++[k]++L.drop A) ⟨O,fun j q=>by
     rcases Q with e | ⟨bk,e,hq⟩
     ·rw [e] at q;exact .inl q
     ·rw [e] at q;cases q;exact .inr hq⟩ (Zc a5 l.size)
    rw [<- a9.o] at ay;exact ⟨Y,_,K,rfl,hb1,(World.cell?_of_block ak).trans al,(World.frozen?_of_block ak).trans ((Bel.marks l b _ a5).trans (HF.o _)),(((HK.o.bel l).of bc).other _ _ b9),ay,Below.setCell hb1 b7 _⟩)
   have cD:Hi (∀ W v,OwnD base (·=c) W v D->Calls Tryz.prog 117 #[v,.int .i64 k] W (Rv (.int .i64 (r k)) W)):=lH (fun W v h=>qVb W.heap.size v D k W 33 r h.doc HG.o af.o (by omega));have cH:Hi (∀ W v,OwnD base (·=c) W v D->Calls Tryz.prog 118 #[v,.int .i64 k] W (Rb (.int .i64 (qZo D k)) W)):=lH (fun W v h=>qWc W.heap.size v D k W 33 r h.doc (Zb _) HG.o (by omega) af.o (by omega) ai);have bf:Hi (D.length=d.length):=lH (by rw [a9.o];simp);generalize b4:qZo D k=E at *
   generalize r k=R at *
   clear b4 am ai a3 V an;by_cases m:0<=before
   ·have s:atF before L 0 (-1)=(A:Int):=(by rw [f,qXi,if_pos m]);rw [s] at x;have hb1:decide (before ≥ 0)=true:=decide_eq_true m;clear f s au;go_enter Tryz.func84,Tryz.ntmps84
    go_wp2_with (first
 | (go_at_call 50;refine (x.o _ (Br w)).mono ?_;rintro e w1 ⟨rfl,rfl⟩)
 | (go_at_call 116;refine ag.o.mono ?_;rintro e F ⟨Y,yn,K,rfl,N,x2,Q,k2,O,P⟩;have b0:=lH N;have u:=lH k2;have g:=lH O;have o:=lH P;clear N k2 O P))
    obtain ⟨a,a0⟩:∃ a,a=F.setCell ⟨b,p*9+5,none⟩ (.slice Y yn K):=⟨_,rfl⟩
    rw [<- a0] at u g o ⊢
    clear a0 x2 Q
    have a2:Hi (w.heap.size<=a.heap.size):=lH o.o.size
    have i:Hi (∀ W,Bel a W->W.cell? ⟨c,0,none⟩=some (.slice (some ⟨b,0,none⟩) d.length C)):=lH (fun W h=>(u.o.bel h).cell 0)
    obtain q0:=i.o _ (Br a)
    have bd:IntKind.i64.wrap ((R:Int)+(E:Int))=(R:Int)+(E:Int):=by rw [IntKind.wrap_i64];omega
    by_cases U:16<R+E
    ·have z:(16:Int)<(R:Int)+(E:Int):=by omega
     have ac:decide ((R:Int)+(E:Int) > 16)=true:=decide_eq_true z
     rw [if_pos U] at S
     go_region_held (fun w'=>w'.cell? ⟨c,0,none⟩=some (.slice (some ⟨b,0,none⟩) d.length C)) (first | exact i.o _ (Br a).drew | exact i.o _ H.o) (first | (go_at_call 117;refine (cD.o _ _ (g.o.keep (Br a).drew)).mono ?_;rintro e w5 ⟨rfl,rfl⟩) | (go_at_call 118;refine (cH.o _ _ (g.o.keep (Br a).drew)).mono ?_;rintro e w6 ⟨rfl,B⟩;have H:=lH (Bt (Br a).drew B);clear B))
     all_goals
      go_wp2
      go_ret
      rw [S.o]
      exact ⟨rfl,Below.trans o.o (Below.mono H.o (Za y a2.o)),fun h=>by cases h⟩
    ·have z:¬ (16:Int)<(R:Int)+(E:Int):=by omega
     have ac:decide ((R:Int)+(E:Int) > 16)=false:=decide_eq_false z
     rw [if_neg U] at S
     go_region_held (fun w'=>w'.cell? ⟨c,0,none⟩=some (.slice (some ⟨b,0,none⟩) d.length C)) (first | exact i.o _ (Br a).drew | exact i.o _ H.o) (first | (go_at_call 117;refine (cD.o _ _ (g.o.keep (Br a).drew)).mono ?_;rintro e w5 ⟨rfl,rfl⟩) | (go_at_call 118;refine (cH.o _ _ (g.o.keep (Br a).drew)).mono ?_;rintro e w6 ⟨rfl,B⟩;have H:=lH (Bt (Br a).drew B);clear B))
     all_goals
      go_wp2
      go_ret
      rw [S.o]
      exact ⟨rfl,Below.trans o.o (Below.mono H.o (Za y a2.o)),fun _=>⟨_,u.o.bel H.o,aj,g.o.keep H.o⟩⟩
   ·have hb1:decide (before ≥ 0)=false:=decide_eq_false m
    have b2:L.length=A:=by rw [qXi,if_neg m] at f;omega
    subst b2
    clear f au
    go_enter Tryz.func84,Tryz.ntmps84
    go_wp2_with (first
 | (go_at_call 50;refine (x.o _ (Br w)).mono ?_;rintro e w1 ⟨rfl,rfl⟩)
 | (go_at_call 116;refine ag.o.mono ?_;rintro e F ⟨Y,yn,K,rfl,N,x2,Q,k2,O,P⟩;have b0:=lH N;have u:=lH k2;have g:=lH O;have o:=lH P;clear N k2 O P))
    obtain ⟨a,a0⟩:∃ a,a=F.setCell ⟨b,p*9+5,none⟩ (.slice Y yn K):=⟨_,rfl⟩
    rw [<- a0] at u g o ⊢
    clear a0 x2 Q
    have a2:Hi (w.heap.size<=a.heap.size):=lH o.o.size
    have i:Hi (∀ W,Bel a W->W.cell? ⟨c,0,none⟩=some (.slice (some ⟨b,0,none⟩) d.length C)):=lH (fun W h=>(u.o.bel h).cell 0)
    obtain q0:=i.o _ (Br a)
    have bd:IntKind.i64.wrap ((R:Int)+(E:Int))=(R:Int)+(E:Int):=by rw [IntKind.wrap_i64];omega
    by_cases U:16<R+E
    ·have z:(16:Int)<(R:Int)+(E:Int):=by omega
     have ac:decide ((R:Int)+(E:Int) > 16)=true:=decide_eq_true z
     rw [if_pos U] at S
     go_region_held (fun w'=>w'.cell? ⟨c,0,none⟩=some (.slice (some ⟨b,0,none⟩) d.length C)) (first | exact i.o _ (Br a).drew | exact i.o _ H.o) (first | (go_at_call 117;refine (cD.o _ _ (g.o.keep (Br a).drew)).mono ?_;rintro e w5 ⟨rfl,rfl⟩) | (go_at_call 118;refine (cH.o _ _ (g.o.keep (Br a).drew)).mono ?_;rintro e w6 ⟨rfl,B⟩;have H:=lH (Bt (Br a).drew B);clear B))
     all_goals
      go_wp2
      go_ret
      rw [S.o]
      exact ⟨rfl,Below.trans o.o (Below.mono H.o (Za y a2.o)),fun h=>by cases h⟩
    ·have z:¬ (16:Int)<(R:Int)+(E:Int):=by omega
     have ac:decide ((R:Int)+(E:Int) > 16)=false:=decide_eq_false z
     rw [if_neg U] at S
     go_region_held (fun w'=>w'.cell? ⟨c,0,none⟩=some (.slice (some ⟨b,0,none⟩) d.length C)) (first | exact i.o _ (Br a).drew | exact i.o _ H.o) (first | (go_at_call 117;refine (cD.o _ _ (g.o.keep (Br a).drew)).mono ?_;rintro e w5 ⟨rfl,rfl⟩) | (go_at_call 118;refine (cH.o _ _ (g.o.keep (Br a).drew)).mono ?_;rintro e w6 ⟨rfl,B⟩;have H:=lH (Bt (Br a).drew B);clear B))
     all_goals
      go_wp2
      go_ret
      rw [S.o]
      exact ⟨rfl,Below.trans o.o (Below.mono H.o (Za y a2.o)),fun _=>⟨_,u.o.bel H.o,aj,g.o.keep H.o⟩⟩
theorem qHb (base c:Nat) (d:Dc) (n k t before:Int) (w:World) (h:Ch base c w d n) (y:base<=w.heap.size) (hd:d.length<=100) (T:PutOk d k t true) :
 Calls Tryz.prog 84 #[.pointer (some ⟨c,0,none⟩),.int .i64 k,.int .i64 t,.int .i64 before,.bool true] w fun e w'=>e=.returned (.int .i64 (putM d k t before true).1)/\Below base w w'/\((putM d k t before true).1=0->Ch base c w' (putM d k t before true).2 n):=by
 have ad:=qZ0 T.to;obtain ⟨r0,g0⟩:=T.tree;have ao:=(g0.ok t).few true;have ab:=(g0.ok t).once true;have a7:=T.tree' (before:=before);have a4:(listM (nd d t) true).length<12->∀ ae,isM (putD d k t before true) ae false=true->(allM (putD d k t before true) ae).length<=1000:=fun hl ae hx=>Za (zGw T hl hx) (by omega);have Z:putD d k t before true=d.set t.toNat (qKw (nd d t) true (insM (listM (nd d t) true) (qXi (listM (nd d t) true) before).toNat k)):=zGh ad;obtain ⟨v,hK,aj,hD⟩:=h;obtain ⟨p,X,rfl,-⟩:=qQy.1 ad;obtain ⟨b,C,av,kv,sv,rfl,z1,z2,b7,a5,b6,hN,ap,_,rK,rS⟩:=hD.slots p X;rw [qQ2 X] at ao ab a7 Z a4;simp only [Int.toNat_natCast] at Z;have be:∀ a8:Int,(qXi (listM (nd d (p:Int)) true) before)=a8->(qXi d[p].shadow before)=a8:=fun a8 h=>by rw [qQ2 X] at h;exact h
 have hM:putM d k p before true=if qXi d[p].shadow before<0 then (8,[]) else if 12<=d[p].shadow.length then (5,[]) else if 16<((qFi (putD d k p before true) k).length:Int) - 1+qZo (putD d k p before true) k then (3,[]) else (0,putD d k p before true):=by
  unfold putM;rw [qQ2 X];rfl
 obtain ⟨I,J,rfl,l1,l2⟩:=Rf rS.read;have ba:w.cell? ⟨b,p*9+7,none⟩=some (.slice I d[p].shadow.length J):=hN.shadow;have b8:=hK.cell 0;have bb:=hK.lt;have b9:c≠b:=fun e=>b6 e.symm;simp at b8;have HK:=lH hK;have HD:=lH hD;have M:=lH rS;have HF:=lH ap;have hL:listM d[p] true=d[p].shadow:=rfl;rw [hL] at ao ab a7 Z a4;have HM:=lH hM;have HT:=lH a7;have b1:=lH Z;have az:=lH a4;generalize b5:putM d k p before true=aa at *
 clear b5 Z a7 hM hN hK hD rK rS ap a4 T g0 ad;generalize b3:putD d k p before true=D at *
 clear b3;generalize ah:d[p].shadow=L at *
 have bg:=lH ah;clear ah;have x:Hi (∀ W,Bel w W->Calls Tryz.prog 50 #[.slice I L.length J,.int .i64 before] W (Rv (.int .i64 (atF before L 0 (-1))) W)):=lH (fun W hW=>by
  rw [<- idx_at ab];exact qWn w.heap.size _ L before W (qQa.later M.o.read qQc hW (Zb _)))
 obtain ⟨G,f⟩:∃ A,A=qXi L before:=⟨_,rfl⟩;by_cases a6:G<0
 ·
  have m:0<=before:=by
   unfold qXi at f;by_cases h:0<=before
   ·exact h
   ·rw [if_neg h] at f;omega
  have s:atF before L 0 (-1)=G:=by rw [f,qXi,if_pos m]
  rw [s] at x;have S:Hi (aa=(8,[])):=lH (by rw [HM.o,<- f,if_pos a6]);have hb1:decide (before ≥ 0)=true:=decide_eq_true m;have hb2:decide (G<0)=true:=decide_eq_true a6;clear f s;go_enter Tryz.func84,Tryz.ntmps84
  go_wp2_with (go_at_call 50;refine (x.o _ (Br w)).mono ?_;rintro e w1 ⟨rfl,rfl⟩)
  go_ret;rw [S.o];exact ⟨rfl,Below.refl _ _,fun h=>by cases h⟩
 ·by_cases aw:12<=L.length
  ·have S:Hi (aa=(5,[])):=lH (by rw [HM.o,<- f,if_neg a6,if_pos aw]);have hb2:decide (G<0)=false:=decide_eq_false a6;have hb3:(12:Int)<=(L.length:Int):=(by omega);by_cases m:0<=before
   ·have s:atF before L 0 (-1)=G:=(by rw [f,qXi,if_pos m]);rw [s] at x;have hb1:decide (before ≥ 0)=true:=decide_eq_true m;clear f s;go_enter Tryz.func84,Tryz.ntmps84
    go_wp2_with (go_at_call 50;refine (x.o _ (Br w)).mono ?_;rintro e w1 ⟨rfl,rfl⟩)
    go_ret;rw [S.o];exact ⟨rfl,Below.refl _ _,fun h=>by cases h⟩
   ·have hb1:decide (before ≥ 0)=false:=decide_eq_false m;clear f;go_enter Tryz.func84,Tryz.ntmps84
    go_wp2;go_ret;rw [S.o];exact ⟨rfl,Below.refl _ _,fun h=>by cases h⟩
  ·
   have au:=zV1 L before;obtain ⟨A,rfl⟩:=Int.eq_ofNat_of_zero_le (by omega:0<=G);obtain ⟨r,a3,V,_⟩:=HT.o (by omega);have hA:A<=L.length:=(by omega);have a9:Hi (D=d.set p { d[p] with shadow:=L.take A++[k]++L.drop A }):=lH (by rw [b1.o,<- f];rfl);have bh:D.length<=100:=(by rw [a9.o];simpa using hd);have ai:=az.o (by omega) k V;have am:=zV7 a3 V;have aq:¬ ((A:Int)<0):=(by omega);have S:Hi (aa=if 16<r k+qZo D k then (3,[]) else (0,D)):=lH (by
    rw [HM.o,<- f,if_neg aq,if_neg aw,am];by_cases h:16<r k+qZo D k
    ·rw [if_pos h,if_pos (by omega)]
    ·rw [if_neg h,if_neg (by omega)])
   have bj:=(a3.rank k V).1;have an:=qDi D 100 k;have bi:qZo D k<=100:=an;have HG:=lH a3;have af:=lH V;have hb2:decide ((A:Int)<0)=false:=decide_eq_false aq;have hb3:¬ ((12:Int)<=(L.length:Int)):=(by omega);have l:Bel w (w.alloc (.cells #[.int .i64 k] 3)):=(Br w).alloc _;have ag:Hi (Calls Tryz.prog 116 #[.slice I L.length J,.int .i64 A,.slice (some ⟨w.heap.size,0,none⟩) 1 1] (w.alloc (.cells #[.int .i64 k] 3)) fun e w'=>∃ a1 n1 c1,e=.returned (.slice a1 n1 c1)/\Below base w w'/\w'.cell? ⟨b,p*9+7,none⟩=some (.slice I L.length J)/\w'.frozen? ⟨b,p*9+7,none⟩=false/\Blk (w'.setCell ⟨b,p*9+7,none⟩ (.slice a1 n1 c1)) c [.slice (some ⟨b,0,none⟩) d.length C,.int .i64 n] 108/\OwnD base (·=c) (w'.setCell ⟨b,p*9+7,none⟩ (.slice a1 n1 c1)) (.slice (some ⟨b,0,none⟩) d.length C) D/\Below base w (w'.setCell ⟨b,p*9+7,none⟩ (.slice a1 n1 c1))):=lH (by
    have ax:=(M.o.move (w':=w.alloc (.cells #[.int .i64 k] 3)) qQc (fun b _ hl=>l.block b hl) (fun _ h _=>h));refine (qHh base _ L A w.heap.size k _ ax.1 (Za y l.size) hA (by omega) (Blk.new' w _ rfl #[.int .i64 k] 3) (fun e=>by have:=(M.o.1.lt _ e).2;omega)).mono ?_;rintro e F ⟨bl,rfl,O,g2,Q⟩;obtain ⟨Y,K,rfl,_,_⟩:=Rf O.read;have ar:∀ j,(Value.slice I L.length J).ownBlock=some j->j≠b/\j≠c:=fun j q=>⟨(M.o.2 j q).1,(M.o.2 j q).2⟩;have ak:F.heap[b]?=(w.alloc (.cells #[.int .i64 k] 3)).heap[b]?:=g2.block b (Zc a5 l.size) (fun e=>(ar b e.symm).1 rfl);have bc:F.heap[c]?=(w.alloc (.cells #[.int .i64 k] 3)).heap[c]?:=g2.block c (Zc bb l.size) (fun e=>(ar c e.symm).2 rfl);have al:(w.alloc (.cells #[.int .i64 k] 3)).cell? ⟨b,p*9+7,none⟩=some (.slice I L.length J):=(Bel.cells l b _ a5).trans ba;have hb1:Below base w F:=Below.grown (Below.mono l y) g2 (Za y l.size) (fun j q=>(ax.1.lt j q).1);have ay:=OwnD.setShadow (HD.o.keep l) rfl X al g2 (kv':=.slice Y (L.take A++[k]++L.drop A).length K) (l':=L.take A++[k]++L.drop A) ⟨O,fun j q=>by
     rcases Q with e | ⟨bk,e,hq⟩
     ·rw [e] at q;exact .inl q
     ·rw [e] at q;cases q;exact .inr hq⟩ (Zc a5 l.size)
    rw [<- a9.o] at ay;exact ⟨Y,_,K,rfl,hb1,(World.cell?_of_block ak).trans al,(World.frozen?_of_block ak).trans ((Bel.marks l b _ a5).trans (HF.o _)),(((HK.o.bel l).of bc).other _ _ b9),ay,Below.setCell hb1 b7 _⟩)
   have cD:Hi (∀ W v,OwnD base (·=c) W v D->Calls Tryz.prog 117 #[v,.int .i64 k] W (Rv (.int .i64 (r k)) W)):=lH (fun W v h=>qVb W.heap.size v D k W 33 r h.doc HG.o af.o (by omega));have cH:Hi (∀ W v,OwnD base (·=c) W v D->Calls Tryz.prog 118 #[v,.int .i64 k] W (Rb (.int .i64 (qZo D k)) W)):=lH (fun W v h=>qWc W.heap.size v D k W 33 r h.doc (Zb _) HG.o (by omega) af.o (by omega) ai);have bf:Hi (D.length=d.length):=lH (by rw [a9.o];simp);generalize b4:qZo D k=E at *
   generalize r k=R at *
   clear b4 am ai a3 V an;by_cases m:0<=before
   ·have s:atF before L 0 (-1)=(A:Int):=(by rw [f,qXi,if_pos m]);rw [s] at x;have hb1:decide (before ≥ 0)=true:=decide_eq_true m;clear f s au;go_enter Tryz.func84,Tryz.ntmps84
    go_wp2_with (first
 | (go_at_call 50;refine (x.o _ (Br w)).mono ?_;rintro e w1 ⟨rfl,rfl⟩)
 | (go_at_call 116;refine ag.o.mono ?_;rintro e F ⟨Y,yn,K,rfl,N,x2,Q,k2,O,P⟩;have b0:=lH N;have u:=lH k2;have g:=lH O;have o:=lH P;clear N k2 O P))
    obtain ⟨a,a0⟩:∃ a,a=F.setCell ⟨b,p*9+7,none⟩ (.slice Y yn K):=⟨_,rfl⟩
    rw [<- a0] at u g o ⊢
    clear a0 x2 Q
    have a2:Hi (w.heap.size<=a.heap.size):=lH o.o.size
    have i:Hi (∀ W,Bel a W->W.cell? ⟨c,0,none⟩=some (.slice (some ⟨b,0,none⟩) d.length C)):=lH (fun W h=>(u.o.bel h).cell 0)
    obtain q0:=i.o _ (Br a)
    have bd:IntKind.i64.wrap ((R:Int)+(E:Int))=(R:Int)+(E:Int):=by rw [IntKind.wrap_i64];omega
    by_cases U:16<R+E
    ·have z:(16:Int)<(R:Int)+(E:Int):=by omega
     have ac:decide ((R:Int)+(E:Int) > 16)=true:=decide_eq_true z
     rw [if_pos U] at S
     go_region_held (fun w'=>w'.cell? ⟨c,0,none⟩=some (.slice (some ⟨b,0,none⟩) d.length C)) (first | exact i.o _ (Br a).drew | exact i.o _ H.o) (first | (go_at_call 117;refine (cD.o _ _ (g.o.keep (Br a).drew)).mono ?_;rintro e w5 ⟨rfl,rfl⟩) | (go_at_call 118;refine (cH.o _ _ (g.o.keep (Br a).drew)).mono ?_;rintro e w6 ⟨rfl,B⟩;have H:=lH (Bt (Br a).drew B);clear B))
     all_goals
      go_wp2
      go_ret
      rw [S.o]
      exact ⟨rfl,Below.trans o.o (Below.mono H.o (Za y a2.o)),fun h=>by cases h⟩
    ·have z:¬ (16:Int)<(R:Int)+(E:Int):=by omega
     have ac:decide ((R:Int)+(E:Int) > 16)=false:=decide_eq_false z
     rw [if_neg U] at S
     go_region_held (fun w'=>w'.cell? ⟨c,0,none⟩=some (.slice (some ⟨b,0,none⟩) d.length C)) (first | exact i.o _ (Br a).drew | exact i.o _ H.o) (first | (go_at_call 117;refine (cD.o _ _ (g.o.keep (Br a).drew)).mono ?_;rintro e w5 ⟨rfl,rfl⟩) | (go_at_call 118;refine (cH.o _ _ (g.o.keep (Br a).drew)).mono ?_;rintro e w6 ⟨rfl,B⟩;have H:=lH (Bt (Br a).drew B);clear B))
     all_goals
      go_wp2
      go_ret
      rw [S.o]
      exact ⟨rfl,Below.trans o.o (Below.mono H.o (Za y a2.o)),fun _=>⟨_,u.o.bel H.o,aj,g.o.keep H.o⟩⟩
   ·have hb1:decide (before ≥ 0)=false:=decide_eq_false m
    have b2:L.length=A:=by rw [qXi,if_neg m] at f;omega
    subst b2
    clear f au
    go_enter Tryz.func84,Tryz.ntmps84
    go_wp2_with (first
 | (go_at_call 50;refine (x.o _ (Br w)).mono ?_;rintro e w1 ⟨rfl,rfl⟩)
 | (go_at_call 116;refine ag.o.mono ?_;rintro e F ⟨Y,yn,K,rfl,N,x2,Q,k2,O,P⟩;have b0:=lH N;have u:=lH k2;have g:=lH O;have o:=lH P;clear N k2 O P))
    obtain ⟨a,a0⟩:∃ a,a=F.setCell ⟨b,p*9+7,none⟩ (.slice Y yn K):=⟨_,rfl⟩
    rw [<- a0] at u g o ⊢
    clear a0 x2 Q
    have a2:Hi (w.heap.size<=a.heap.size):=lH o.o.size
    have i:Hi (∀ W,Bel a W->W.cell? ⟨c,0,none⟩=some (.slice (some ⟨b,0,none⟩) d.length C)):=lH (fun W h=>(u.o.bel h).cell 0)
    obtain q0:=i.o _ (Br a)
    have bd:IntKind.i64.wrap ((R:Int)+(E:Int))=(R:Int)+(E:Int):=by rw [IntKind.wrap_i64];omega
    by_cases U:16<R+E
    ·have z:(16:Int)<(R:Int)+(E:Int):=by omega
     have ac:decide ((R:Int)+(E:Int) > 16)=true:=decide_eq_true z
     rw [if_pos U] at S
     go_region_held (fun w'=>w'.cell? ⟨c,0,none⟩=some (.slice (some ⟨b,0,none⟩) d.length C)) (first | exact i.o _ (Br a).drew | exact i.o _ H.o) (first | (go_at_call 117;refine (cD.o _ _ (g.o.keep (Br a).drew)).mono ?_;rintro e w5 ⟨rfl,rfl⟩) | (go_at_call 118;refine (cH.o _ _ (g.o.keep (Br a).drew)).mono ?_;rintro e w6 ⟨rfl,B⟩;have H:=lH (Bt (Br a).drew B);clear B))
     all_goals
      go_wp2
      go_ret
      rw [S.o]
      exact ⟨rfl,Below.trans o.o (Below.mono H.o (Za y a2.o)),fun h=>by cases h⟩
    ·have z:¬ (16:Int)<(R:Int)+(E:Int):=by omega
     have ac:decide ((R:Int)+(E:Int) > 16)=false:=decide_eq_false z
     rw [if_neg U] at S
     go_region_held (fun w'=>w'.cell? ⟨c,0,none⟩=some (.slice (some ⟨b,0,none⟩) d.length C)) (first | exact i.o _ (Br a).drew | exact i.o _ H.o) (first | (go_at_call 117;refine (cD.o _ _ (g.o.keep (Br a).drew)).mono ?_;rintro e w5 ⟨rfl,rfl⟩) | (go_at_call 118;refine (cH.o _ _ (g.o.keep (Br a).drew)).mono ?_;rintro e w6 ⟨rfl,B⟩;have H:=lH (Bt (Br a).drew B);clear B))
     all_goals
      go_wp2
      go_ret
      rw [S.o]
      exact ⟨rfl,Below.trans o.o (Below.mono H.o (Za y a2.o)),fun _=>⟨_,u.o.bel H.o,aj,g.o.keep H.o⟩⟩
theorem qV8 (base c:Nat) (d:Dc) (n k t before:Int) (sh:Bool) (w:World) (h:Ch base c w d n) (b:base<=w.heap.size) (hd:d.length<=100) (H:PutOk d k t sh) :
 Calls Tryz.prog 84 #[.pointer (some ⟨c,0,none⟩),.int .i64 k,.int .i64 t,.int .i64 before,.bool sh] w fun e w'=>e=.returned (.int .i64 (putM d k t before sh).1)/\Below base w w'/\((putM d k t before sh).1=0->Ch base c w' (putM d k t before sh).2 n):=by
 cases sh
 ·exact qG5 base c d n k t before w h b hd H
 ·exact qHb base c d n k t before w h b hd H

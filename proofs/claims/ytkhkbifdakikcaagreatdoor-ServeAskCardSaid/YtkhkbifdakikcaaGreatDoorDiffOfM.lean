/- diff's differ places items: the walk. -/
import Derived.Test.YtkhkbifdakikcaaGreatDoorDiffPlace
set_option maxRecDepth 100000
set_option maxHeartbeats 4000000
namespace Go.Proofs.YtkhkbifdakikcaaGreatDoor
open Go.RowKit
variable {t:Fl} {V:Int->Value} {D:Nat} {B:Nat->Prop} {w0:WP} {w:World}
theorem GoesL.one {T:Fl} {e:Evt} (h:GoesL t [e] T):Goes t e T:=by
 obtain ⟨a,g,r⟩:=h.head;cases r;exact g
theorem dif_both {L:List Int} {E:List Evt} (M:Dif w0 D w L t E) (x T:Int) (e:T = -1∨Has t T):∃ p kv a,(∀ W,Bel w W->Calls Tryz.prog 57 #[.pointer (some ⟨D,0,none⟩),.int .i64 x] W (Rv (.tuple #[p,kv]) W)) /\
 (∀ W,Bel w W->Calls Tryz.prog 109 #[.pointer (some ⟨D,0,none⟩),.int .i64 T] W (Rv (.pointer (some a)) W)) /\
 ((¬ Has t x/\p=.pointer none)∨(Has t x/\∃ b,p=.pointer (some b)/\kv=.int .i64 ((t.kids (t.par x)).idxOf x:Nat)/\(b=a↔t.par x=T)/\∀ W,Bel w W->(binOp .neq 127 (.pointer (some b)) (.pointer (some a))).run Tryz.prog W=.ok (.bool (!decide (b=a))) W)):=by
 obtain ⟨p,kv,c,m⟩:=qFa M x;rcases m with ⟨h,H⟩ | ⟨h,b,o,H,f,-,i⟩
 ·obtain ⟨g,G,q,r,s,⟨S,C,O,K,n,u,v,y,z,A,-⟩,-⟩:=M;obtain ⟨I,N,F⟩:=g.falls;exact ⟨p,kv,_,c,fun W d=>qYj g F (Nat.lt_succ_self N) G T W (K.bel d).rd (n.bel d).cell e,.inl ⟨h,H⟩⟩
 ·obtain ⟨a,j,k,l⟩:=i T e;exact ⟨p,kv,a,c,j,.inr ⟨h,b,H,f,k,l⟩⟩
theorem qDs {L:List Int} {B:Fl} (hB:Wf B) (am:zQ5 B) {μ:Int->Nat} {a5:Nat} (F:Falls B.kids μ a5) (b8:∀ n,Has B n->n∈L) (hL:L.length<=1000000000) (HV:qYw (·<w0.heap.size) w0.toWorld V B) :
 ∀ (f:Nat) (w:Int) (W:World) (t:Fl) (c:Int->Nat) (l:List Evt),Dif w0 D W L t l->Inv B t c->(w = -1∨qJx B c w)->(w = -1∨Has B w)->a5<μ w+f->(∀ y,Reach B.kids w y->c y=0)->(l++(qZf B f w t).2).length<=10000000000 ->
  Calls Tryz.prog 60 #[.pointer (some ⟨D,0,none⟩),V w,.int .i64 w] W fun r k=>(∃ x,r=.returned x)/\Dif w0 D k L (qZf B f w t).1 (l++(qZf B f w t).2):=by
 intro f
 induction f with
 | zero=>intro w W t c l _ _ _ _ hf;have:=F.top w;omega
 | succ f ih=>
 intro w W t c l ak aj hw aw hf h0 hE
 obtain ⟨va,vc,ao,v1,v2⟩:=Rf (HV w aw)
 rw [ao]
 have hu:qZf B (f+1) w t=qKg (qZf B f) B w 0 ((B.kids w).drop 0) t:=rfl
 rw [hu] at hE ⊢
 obtain ⟨T,hT⟩:∃ x,x=qKg (qZf B f) B w 0 ((B.kids w).drop 0) t:=⟨_,rfl⟩
 rw [<- hT] at hE ⊢
 have HM:=lH ak
 have HP:=lH (pl_start aj hw h0)
 have HT:=lH hT
 have HE:=lH hE
 have az:=lH ih
 clear hT hE ak aj ih h0 hu
 go_enter Tryz.func60,Tryz.ntmps60
 go_wp2
 go_loopw [13] (fun ab wr=>∃ (i:Nat) (t':Fl) (c':Int->Nat) (e':List Evt),ab=.int .i64 i/\i<=(B.kids w).length/\Dif w0 D wr L t' e'/\PlSt B t' c' w i/\(qKg (qZf B f) B w i ((B.kids w).drop i) t').1=T.1/\e'++(qKg (qZf B f) B w i ((B.kids w).drop i) t').2=l++T.2) (fun ab _=>(B.kids w).length - (intOf ab).toNat)
 case atStart=>exact ⟨0,t,c,l,rfl,Nat.zero_le _,HM.o,HP.o,by rw [HT.o],by rw [HT.o]⟩
 case round=>
  obtain ⟨i,d,c1,E,rfl,hi,M,P,C,Q⟩:=hrel;by_cases z:i<(B.kids w).length
  ·rw [zWp _ _ _ _ z] at C Q;obtain ⟨n1,⟨c2,n2,n3,n4⟩,c3,n5⟩:=pl_next hB am F hf P z;obtain ⟨b,ba,bc,hv,-,-,p,H⟩:=HV.item aw i z;rw [ao] at hv;simp only [Value.slice.injEq] at hv;obtain ⟨rfl,-,rfl⟩:=hv;have U:=(hB.has_kid (Zl z)).1;have hμ:=F.down _ _ (Zl z);have a9:=am _ U;have ax:w = -1∨Has d w:=P.here.imp id (fun a6=>(P.inv.has a6).1);have b9:wr.heap.size ≥ 0:=Nat.zero_le _;obtain ⟨xa,xc,ap,x1,x2⟩:=Rf (HV _ (.inr U));generalize (B.kids w)[i]=x at *
   obtain ⟨pv,kv,a,cF,cI,aq⟩:=dif_both M x w ax;have a2:=lH (fun k=>az.o x k (qZ2 B d x w i).1 c2);rw [ap] at a2 H;obtain ⟨q,a8⟩:∃ q,q=B.head x:=⟨_,rfl⟩;rw [<- a8] at H a9;have G:Hi (∀ j,Bel w0.toWorld j->TabC j b (ba+i*8) q (.slice xa (B.kids x).length xc)):=lH (fun j o=>⟨(Bel.cells o b _ p).trans H.node,(Bel.cells o b _ p).trans H.role,(Bel.cells o b _ p).trans H.name,(Bel.cells o b _ p).trans H.about,(Bel.cells o b _ p).trans H.level,(Bel.cells o b _ p).trans H.checked,(Bel.cells o b _ p).trans H.off,(Bel.cells o b _ p).trans H.kids⟩);obtain ⟨h,hr,hm,ha,hl,hc,ho⟩:=q;simp only at a9;subst a9;have au:(E++(qZ2 B d h w i).2).length+(qZf B f h (qZ2 B d h w i).1).2.length<=10000000000:=by
    have N:=HE.o;rw [<- Q] at N;simp only [Zj] at N ⊢;omega
   have a0:Hi (qZ2 B d h w i=if h∈d.kids (d.par h) then (if d.par h=w/\(d.kids w).idxOf h=i then (d,[]) else (qJ4 d h w i,[{ kind:=3,node:=h,dest:=w,spot:=i }])) else (addF d h ⟨h,hr,hm,ha,hl,hc,ho⟩ w i,[{ kind:=2,dest:=w,spot:=i,item:=.mk ⟨h,hr,hm,ha,hl,hc,ho⟩ [] }])):=lH (by rw [a8];rfl);have Y:=lH au;have a3:=lH M;have b4:=lH C;have b5:=lH Q;have a4:=lH n1;have ae:=lH n2;have af:=lH n3;have ag:=lH n4;have b3:=lH n5;have cF:=lH cF;have cI:=lH cI;have ad:=lH aq;have ai:=lH (b8 _ U);have Hμ:Hi (a5<μ h+f):=lH (by omega);have ah:=lH U;clear C Q n1 n2 n3 n4 n5 M P aq au H a8 U hμ ap ax b9;go_upto_region 4 with fail
   refine qK2 [0,1,2,3,4,5,6,7,8,9,10,11,12] [] (fun j=>Bel wr j) (by kernel_rfl) (by kernel_rfl) (Br wr).drew ?_;simp only [pickL,List.filterMap_cons,List.filterMap_nil,Zd,Ze];iterate 13 (first
 | (refine DetL.cons (v:=?_) (fun _=>Says.plain ?_ ?_) ?_;rotate_left;rfl;(intro j S;have p0:=(G.o j (Bt a3.o.bel S)).node;go_simp;with_reducible rfl);simp only [Act.put,Zh,Zf,Zg])
 | (refine DetL.cons (v:=?_) (fun _=>Says.call (f:=?_) (args:=?_) ?_ ?_ ?_) ?_;rotate_left 3;rfl;(intro j;go_simp;constructor <;> with_reducible rfl);(intro j S;refine Calls.mono (cF.o _ S) ?_;rintro e bf ⟨rfl,rfl⟩;refine ⟨?_,S⟩;with_reducible rfl);simp only [Act.put,Zh,Zf,Zg]))
   refine DetL.nil (fun w5 a7=>?_)
   have ac:=lH a7
   have v:=lH (a3.o.bel' a7)
   clear a7
   go_upto_region 6 with (go_at_call 109;(with_reducible refine (cI.o _ ac.o).mono ?_);rintro e w6 ⟨rfl,rfl⟩)
   clear cF cI a3
   rcases ad.o with ⟨u,rfl⟩ | ⟨u,J,rfl,rfl,hba,av⟩
   case' inl=>
    have s:=a0.o;rw [if_neg (show ¬ h∈d.kids (d.par h) from u)] at s;have I:Hi (∀ W,Dif w0 D W L d E->Calls Tryz.prog 59 #[.pointer (some ⟨D,0,none⟩),.agg #[.int .i64 2,.int .i64 0,.int .i64 w,.int .i64 i,.int .i64 h,.int .i64 hr,.string ⟨hm.toArray⟩,.string ⟨ha.toArray⟩,.int .i64 hl,.int .i64 hc,.bool ho,.slice none 0 0]] W fun r k=>(∃ x,r=.returned x)/\Dif w0 D k L (qZ2 B d h w i).1 (E++(qZ2 B d h w i).2)):=lH (fun W O=>by
     have g:=a4.o;have R:=Y.o;rw [s] at g R ⊢;exact qXe O g.one (fun _=>ai.o) hL (by simp only [Zj] at R;omega))
    have al:=lH (fun W=>qBg h hr hm ha hl hc ho xa (B.kids h).length xc W);have m:=G.o _ v.o.bel;have k0:=m.node;have k1:=m.role;have k2:=m.name;have k3:=m.about;have k4:=m.level;have k5:=m.checked;have k6:=m.off;have k7:=m.kids;clear m s u;go_upto_region 10 with (first
 | (go_at_call 62;(with_reducible refine (al.o _).mono ?_);rintro e w7 ⟨rfl,b7⟩;have b2:=lH (v.o.bel' b7);clear b7)
 | (go_at_call 59;(with_reducible refine (I.o _ b2.o).mono ?_);rintro e w8 ⟨⟨r8,rfl⟩,X⟩;have Z:=lH X;clear X))
    clear k0 k1 k2 k3 k4 k5 k6 k7 I al
   case' inr=>
    have aa:=av _ ac.o;clear av;by_cases A:d.par h=w/\(d.kids w).idxOf h=i
   case' pos=>
    have s:=a0.o;rw [if_pos (show h∈d.kids (d.par h) from u),if_pos A] at s;have Z:Hi (Dif w0 D w5 L (qZ2 B d h w i).1 (E++(qZ2 B d h w i).2)):=lH (by rw [s,List.append_nil];exact v.o);have e5:decide (J=a)=true:=(by simpa using hba.2 A.1);rw [e5] at aa;obtain ⟨e2,K⟩:=A;rw [e2,K];clear s u e2 K hba e5;go_upto_region 10 with fail
   case' neg=>
    have s:=a0.o;rw [if_pos (show h∈d.kids (d.par h) from u),if_neg A] at s;have I:Hi (∀ W,Dif w0 D W L d E->Calls Tryz.prog 59 #[.pointer (some ⟨D,0,none⟩),.agg #[.int .i64 3,.int .i64 h,.int .i64 w,.int .i64 i,.int .i64 0,.int .i64 0,.string ⟨#[]⟩,.string ⟨#[]⟩,.int .i64 0,.int .i64 0,.bool false,.slice none 0 0]] W fun r k=>(∃ x,r=.returned x)/\Dif w0 D k L (qZ2 B d h w i).1 (E++(qZ2 B d h w i).2)):=lH (fun W O=>by
     have g:=a4.o;have R:=Y.o;rw [s] at g R ⊢;exact qXe (hm:=[]) (ha:=[]) O g.one (fun a6=>by cases a6) hL (by simp only [Zj] at R;omega))
    have k0:=(G.o _ v.o.bel).node;have ar:J=a->((((d.kids (d.par h)).idxOf h:Nat):Int)==(i:Int))=false:=fun e=>by
     have N:=hba.1 e;rw [beq_eq_false_iff_ne];intro h2;refine A ⟨N,?_⟩;rw [N] at h2;omega
    by_cases a1:J=a;case' pos=>
     have bd:=ar a1;rw [show decide (J=a)=true by simpa using a1] at aa
    case' neg=>rw [show decide (J=a)=false by simpa using a1] at aa
    all_goals
     clear s u ar hba A a1
     go_upto_region 10 with (go_at_call 59;(with_reducible refine (I.o _ v.o).mono ?_);rintro e w8 ⟨⟨r8,rfl⟩,X⟩;have Z:=lH X;clear X)
     clear k0 I
   all_goals
    have cP:Hi (∀ k,Dif w0 D k L (qZ2 B d h w i).1 (E++(qZ2 B d h w i).2)->Calls Tryz.prog 60 #[.pointer (some ⟨D,0,none⟩),.slice xa (B.kids h).length xc,.int .i64 h] k fun r b6=>(∃ x,r=.returned x)/\Dif w0 D b6 L (qZf B f h (qZ2 B d h w i).1).1 ((E++(qZ2 B d h w i).2)++(qZf B f h (qZ2 B d h w i).1).2)):=lH (fun k O=>a2.o k _ O ae.o (.inr af.o) (.inr ah.o) Hμ.o ag.o (by have:=Y.o;simp only [Zj] at this ⊢;omega))
    clear a2 ae af ag ah Hμ Y a4 ai a0 ad v
    refine qQ6 [0,1,2,3,4,5,6,7,8] [] [9] (fun _ j=>Dif w0 D j L (qZ2 B d h w i).1 (E++(qZ2 B d h w i).2)) (by kernel_rfl) (by kernel_rfl) (Z.o.bel' (Br _).drew) ?_
    simp only [pickL,List.map_nil,List.filterMap_cons,List.filterMap_nil,Zd,Ze]
    iterate 9 (refine qZp.cons (v:=?_) (fun _=>Says.plain ?_ ?_) ?_;rotate_left;rfl;(intro j S;have p0:=(G.o j S.bel).node;have p7:=(G.o j S.bel).kids;go_simp;with_reducible rfl);simp only [Act.put,Zh,Zf,Zg])
    refine qZp.nil ⟨by simp,trivial,fun bb bg an=>?_⟩
    simp only [List.foldl_nil]
    have b0:=lH an
    clear an Z
    go_wp2_with (go_at_call 60;(with_reducible refine (cP.o _ b0.o).mono ?_);rintro e bh ⟨⟨be,rfl⟩,ay⟩;have b1:=lH ay;clear ay)
    go_roundw
    case rel=>exact ⟨i+1,_,_,_,by go_num,z,b1.o,b3.o,b4.o,by rw [List.append_assoc,List.append_assoc];exact b5.o⟩
    case measure=>simp [intOf];omega
  ·have q:(B.kids w).drop i=[]:=List.drop_of_length_le (by omega)
   rw [q] at C Q
   have K:d=T.1:=C
   have e4:E=l++T.2:=by rw [<- Q];exact (List.append_nil E).symm
   have HF:Hi (Dif w0 D wr L T.1 (l++T.2)):=lH (by rw [<- K,<- e4];exact M)
   clear M P C Q K e4 q
   go_wp2
   go_end0
   exact ⟨⟨_,rfl⟩,HF.o⟩
def zXa (B:Nat->Prop) (w:World) (hd:Int->Hd) (V:Int->Value) (R:List (Int×List Int)):Prop:=∀ r∈R,qQa 8 (fun _ cs k=>cs=qQi (hd k) (V k)) B w (V r.1) r.2
theorem zXa.swap {hd:Int->Hd} {V':Int->Value} {R:List (Int×List Int)} (h:zXa B w hd V R) (a:∀ r∈R,V' r.1=V r.1/\∀ k∈r.2,V' k=V k):zXa B w hd V' R:=fun r H=>by
 obtain ⟨s,S⟩:=a r H;rw [s];exact (h r H).mono (fun _ h=>h) (fun c k b e=>by rw [S k b];exact e)
open Classical in
theorem its_rows (B:Nat->Prop) (w:World) (hd:Int->Hd) :
 (∀ x:It,∀ (k:Nat) (v:Value),ItsK B k w v x.kids->(nodesI x).Nodup->(∀ h∈headsI x,hd h.node=h)->∃ V,V x.h.node=v/\zXa B w hd V (rowsI x)) /\
 ∀ l:List It,∀ (k:Nat) (vs:List Value),vs.length=l.length->(∀ i (c:i<l.length) (h2:i<vs.length),ItsK B k w vs[i] l[i].kids)->(nodesL l).Nodup->(∀ h∈headsL l,hd h.node=h) ->
  ∃ V,(∀ i (c:i<l.length) (h2:i<vs.length),V l[i].h.node=vs[i])/\zXa B w hd V (rowsK l):=by
 refine qDd ?_ ?_ ?_
 ·intro h K ih k v O g m
  rw [nodesI,List.nodup_cons] at g
  rw [headsI] at m
  simp only [It.kids] at O
  have ac:∀ i (c:i<K.length),K[i].h.node∈nodesL K:=fun i c=>by
   rw [qZm];exact List.mem_flatMap.2 ⟨K[i],Zl c,by rw [qKx];exact List.mem_cons_self⟩
  have X:∀ i,i<K.length->∃ v':Value,∀ (c:i<K.length),ItsK B (k - 1) w v' K[i].kids/\∀ b o p,v=.slice (some ⟨b,o,none⟩) K.length p->∀ C,C.length=8->Cells w b (o+i*8) C->C=qQi K[i].h v':=fun i c=>by
   obtain ⟨b,o,p,kv,k',rfl,j,-,-,-,I⟩:=O.item i c;refine ⟨kv,fun _=>⟨I.kidsAt,fun b2 ag af E C J f=>?_⟩⟩;rw [j] at E;simp only [Value.slice.injEq,Option.some.injEq,Addr.mk.injEq] at E;obtain ⟨⟨rfl,rfl,-⟩,-,-⟩:=E;match C,J with
   | [a0,a1,a2,a3,a4,a5,a6,a7],_=>
     have Q:=(f 0 a0 rfl).symm.trans (by simpa using I.node);have j:=(f 1 a1 rfl).symm.trans I.role;have E:=(f 2 a2 rfl).symm.trans I.name;have y:=(f 3 a3 rfl).symm.trans I.about;have z:=(f 4 a4 rfl).symm.trans I.level;have R:=(f 5 a5 rfl).symm.trans I.checked;have S:=(f 6 a6 rfl).symm.trans I.off;have T:=(f 7 a7 rfl).symm.trans I.kids;simp only [Option.some.injEq] at Q j E y z R S T;rw [Q,j,E,y,z,R,S,T];rfl
  obtain ⟨A,a8⟩:∃ A:Nat->Value,∀ i (c:i<K.length),ItsK B (k - 1) w (A i) K[i].kids/\∀ b o p,v=.slice (some ⟨b,o,none⟩) K.length p->∀ C,C.length=8->Cells w b (o+i*8) C->C=qQi K[i].h (A i):=by
   refine ⟨fun i=>if h:i<K.length then (X i h).choose else .int .i64 0,fun i c=>?_⟩;simp only [dif_pos c];exact (X i c).choose_spec c
  obtain ⟨d,P,M⟩:=ih (k - 1) ((List.range K.length).map A) (by simp) (fun i a b=>by
   rw [List.getElem_map,List.getElem_range];exact (a8 i a).1) g.2 (fun ae hy=>m ae (List.mem_cons_of_mem _ hy))
  refine ⟨fun n=>if n=h.node then v else d n,if_pos rfl,fun r H=>?_⟩
  rw [rowsI] at H
  rcases List.mem_cons.1 H with rfl | H
  ·show qQa 8 _ B w (if h.node=h.node then v else d h.node) _
   rw [if_pos rfl]
   rcases O with ⟨rfl,e⟩ | ⟨b,o,p,j,E,y,z⟩
   ·exact .inl ⟨rfl,by rw [e];rfl⟩
   ·refine .inr ⟨b,o,p,by rw [List.length_map];exact j,by rw [List.length_map];exact E,y,fun i s=>?_⟩
    have q:i<K.length:=by simpa using s
    obtain ⟨g1,C,U,W,_⟩:=z i q
    refine ⟨g1,C,U,W,?_⟩
    rw [List.getElem_map]
    have ab:K[i].h.node≠h.node:=fun e=>g.1 (e▸ac i q)
    have Z:=P i q (by simpa using q)
    rw [List.getElem_map,List.getElem_range] at Z
    have a9:hd K[i].h.node=K[i].h:=m _ (List.mem_cons_of_mem _ (by
     rw [qK5];exact List.mem_flatMap.2 ⟨K[i],Zl q,by rw [qDc];exact List.mem_cons_self⟩))
    show C=qQi (hd K[i].h.node) (if K[i].h.node=h.node then v else d K[i].h.node)
    rw [a9,if_neg ab,Z]
    exact (a8 i q).2 b o p j C U W
  ·exact (M.swap (V':=fun n=>if n=h.node then v else d n) (fun r H=>⟨if_neg (fun (e:r.1=h.node)=>g.1 (e▸(qKk K r H).1)),fun k u=>if_neg (fun (e:k=h.node)=>g.1 (e▸(qKk K r H).2 k u))⟩)) r H
 ·intro k vs c _ _ _
  exact ⟨fun _=>.int .i64 0,fun i s=>by simp at s,fun r H=>by simp [rowsK] at H⟩
 ·intro x l hx J k vs c O g m
  obtain ⟨v,vs,rfl⟩:∃ v ad,vs=v::ad:=by
   cases vs with
   | nil=>simp at c
   | cons v vs=>exact ⟨v,vs,rfl⟩
  rw [nodesL] at g
  rw [headsL] at m
  obtain ⟨n1,n2,N⟩:=List.nodup_append.1 g
  obtain ⟨F,P,M⟩:=hx k v (O 0 (by simp) (by simp)) n1 (fun h G=>m h (List.mem_append_left _ G))
  obtain ⟨d,q1,q2⟩:=J k vs (by simpa using c) (fun i a b=>O (i+1) (by simp;omega) (by simp;omega)) n2 (fun h G=>m h (List.mem_append_right _ G))
  refine ⟨fun n=>if n∈nodesI x then F n else d n,fun i s aa=>?_,fun r H=>?_⟩
  ·cases i with
   | zero=>
     have:x.h.node∈nodesI x:=(by rw [qKx];exact List.mem_cons_self);simp only [List.getElem_cons_zero,if_pos this];exact P
   | succ i=>
     have Y:i<l.length:=(by simpa using s);have hm:l[i].h.node∈nodesL l:=by
      rw [qZm];exact List.mem_flatMap.2 ⟨l[i],Zl Y,by rw [qKx];exact List.mem_cons_self⟩
     have:l[i].h.node∉nodesI x:=fun h=>N _ h _ hm rfl;simp only [List.getElem_cons_succ,if_neg this];exact q1 i Y (by simpa using aa)
  ·rw [rowsK] at H
   rcases List.mem_append.1 H with H | H
   ·exact (M.swap (V':=fun n=>if n∈nodesI x then F n else d n) (fun r H=>⟨if_pos (qWp x r H).1,fun k u=>if_pos ((qWp x r H).2 k u)⟩)) r H
   ·exact (q2.swap (V':=fun n=>if n∈nodesI x then F n else d n) (fun r H=>⟨if_neg (fun h=>N _ h _ (qKk l r H).1 rfl),fun k u=>if_neg (fun h=>N _ h _ ((qKk l r H).2 k u) rfl)⟩)) r H
theorem its_tab {k:Nat} {v:Value} {l:List It} (O:ItsK B k w v l) (h:qW3 l):∃ V,V (-1)=v/\qYw B w V (qQz l):=by
 have f:(-1:Int)∉nodesL l:=fun e=>by have:=h.2 _ e;omega
 obtain ⟨V,g,i⟩:=(its_rows B w (fun n=>if n = -1 then { node:=-1 } else qWa l n)).1 (.mk { node:=-1 } l) k v O (by
  rw [nodesI];exact List.nodup_cons.2 ⟨f,h.1⟩) (fun y b=>by
  rw [headsI] at b;rcases List.mem_cons.1 b with rfl | b
  ·simp
  ·have:y.node∈nodesL l:=(by rw [<- qX0.2];exact List.mem_map_of_mem b);have d:y.node ≠ -1:=fun e=>f (e▸this);simp only [if_neg d];exact zFi h b)
 refine ⟨V,g,fun n c=>?_⟩;have H:∃ r∈rowsI (.mk { node:=-1 } l),r.1=n:=by
  rcases c with rfl | c
  ·exact ⟨(-1,l.map (fun x=>x.h.node)),by rw [rowsI];exact List.mem_cons_self,rfl⟩
  ·have a:=(qHl h).1 c;rw [<- qXz.2] at a;obtain ⟨r,H,e⟩:=List.mem_map.1 a;exact ⟨r,by rw [rowsI];exact List.mem_cons_of_mem _ H,e⟩
 obtain ⟨r,H,rfl⟩:=H;have a:(qQz l).kids r.1=r.2:=qWs h (by rw [rowsI] at H;exact H);rw [a];refine (i r H).mono (fun _ h=>h) (fun C k j e=>?_);have:Has (qQz l) k:=((qWg h).has_kid (n:=r.1) (by rw [a];exact j)).1;have d:k ≠ -1:=by have:=this.ge (qWg h);omega
 simp only [if_neg d] at e;exact e
end Go.Proofs.YtkhkbifdakikcaaGreatDoor
namespace Go.Proofs.YtkhkbifdakikcaaGreatDoor
variable {t:Fl}
theorem qFm {L:List Int} (c:Wf t) (i:Fits L t):∃ a,Falls t.kids a (L.length+1):=by
 classical
 obtain ⟨a,N,F⟩:=c.falls;refine ⟨fun n=>if Has t n then L.countP (fun m=>decide (a m<a n))+1 else 0,fun n k b=>?_,fun n=>?_⟩
 ·have j:=(c.has_kid b).1;show (if Has t n then _ else _)<(if Has t k then _ else _);rw [if_pos j];split
  ·rename_i o;have g:=F.down _ _ b;have H:∀ l:List Int,l.countP (fun m=>decide (a m<a n))<=l.countP (fun m=>decide (a m<a k)):=fun l=>List.countP_mono_left (fun m _ h=>by
    simp only [decide_eq_true_eq] at h ⊢;omega)
   obtain ⟨A,C,e⟩:=List.append_of_mem (i n o);rw [e,List.countP_append,List.countP_append,List.countP_cons,List.countP_cons];have p:=H A;have q:=H C;have d:decide (a n<a n)=false:=(by simp);have f:decide (a n<a k)=true:=(by simpa using g);rw [d,f];simp;omega
  ·omega
 ·show (if Has t n then _ else _)<=_;split
  ·have:=List.countP_le_length (p:=fun m=>decide (a m<a n)) (l:=L);omega
  ·omega
theorem zF6 (B:Fl):∀ (f:Nat) (w:Int) (t:Fl),(qZf B f w t).2.length<=((B.kids w).flatMap (preF B.kids f)).length:=by
 intro f;induction f with
 | zero=>intro w t;exact Nat.zero_le _
 | succ f I=>
   intro w t;have m:∀ (l:List Int) (i:Nat) (t:Fl),(qKg (qZf B f) B w i l t).2.length<=(l.flatMap (preF B.kids (f+1))).length:=by
    intro l;induction l with
    | nil=>intro i t;exact Nat.zero_le _
    | cons x l a=>
      intro i t;have h:=a (i+1) (qZf B f x (qZ2 B t x w i).1).1;have H:=I x (qZ2 B t x w i).1;have b:(qZ2 B t x w i).2.length<=1:=by
       unfold qZ2;split
       ·split <;> simp
       ·simp
      show ((qZ2 B t x w i).2++((qZf B f x (qZ2 B t x w i).1).2++(qKg (qZf B f) B w (i+1) l (qZf B f x (qZ2 B t x w i).1).1).2)).length<=_;rw [List.flatMap_cons,preF];simp only [Zj,Zm];omega
   exact m _ 0 t
theorem zK9 (B:Fl):∀ (l:List Int) (t:Fl),(lonesF B l t).2.length<=l.length:=by
 intro l;induction l with
 | nil=>intro t;exact Nat.zero_le _
 | cons n l i=>
   intro t;unfold lonesF;split
   ·have:=i (dropF t n);simp only [Zm];omega
   ·have:=i t;simp only [Zm];omega
theorem zXv (B:Fl):∀ (l:List Int) (t:Fl),(dropsF B l t).2.length<=l.length:=by
 intro l;induction l with
 | nil=>intro t;exact Nat.zero_le _
 | cons n l i=>
   intro t;unfold dropsF;split
   ·have:=i (dropF t n);simp only [Zm];omega
   ·have:=i t;simp only [Zm];omega
theorem zHq (B:Fl):∀ (l:List Int) (t:Fl),(tellsF B l t).2.length<=l.length:=by
 intro l;induction l with
 | nil=>intro t;exact Nat.zero_le _
 | cons n l i=>
   intro t;unfold tellsF;split
   ·have:=i (qYm t n (B.head n));simp only [Zm];omega
   ·have:=i t;simp only [Zm];omega
theorem qDz {L:List Int} (h:Wf t) (a:Fits L t) {g:Int->Nat} {N f:Nat} (F:Falls t.kids g N) (i:N<f):(qW8 t f).length<=L.length:=by
 have e:-1::qW8 t f=preF t.kids f (-1):=(qG8 F (by omega)).symm;have d:(-1::qW8 t f).Nodup:=e▸qX4 F h.alone f (-1) (by omega);refine qDq _ _ (List.nodup_cons.1 d).2 (fun y c=>a y ?_);obtain ⟨k,b,H⟩:=List.mem_flatMap.1 c;have r:=(qXn F f k y (by omega)).1 H;exact h.in_has (h.has_kid b).1 r
noncomputable def evsM (a b:List It):List Evt:=(ofF (qQz a) (qQz b) (nodesL a) (nodesL b) ((nodesL a++nodesL b).length+2)).2

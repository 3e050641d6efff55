/- All that is shown, walked. -/
import Derived.Test.YtkhkbifdakikcaaGreatDoorFlatAll
import Derived.Test.YtkhkbifdakikcaaGreatDoorDiffDo
set_option maxRecDepth 100000
set_option maxHeartbeats 4000000
namespace Go.Proofs.YtkhkbifdakikcaaGreatDoor
open Go.RowKit
variable {d:Dc} {x:Int} {l:List Clm} {O:List Int} {e:TypeId} {w:World}
theorem zK3 (g:Good d):(shownR d).length<=60:=
 Za (qK7 d.length _ (qZs g).1 (fun x h=>by have:=qJq ((qZs g).2 x h);omega)) g.len
theorem zHp (g:Good d) (n:Int) (rest:List Int):(n::rest).flatMap (preF (kidsR d) 100)=n::(kidsR d n++rest).flatMap (preF (kidsR d) 100):=by
 obtain ⟨r,G⟩:=g.tree;obtain ⟨μ,F⟩:=qJ9 G;exact zF1 F (by have:=g.len;omega) n rest
theorem len_own {base:Nat} {v:Value} (h:qQb 1 qQf base e w v (O++[x])):lenV v=O.length+1:=by
 obtain ⟨a,c,rfl,_,_⟩:=Rf h.read;simp [lenV]
theorem apart {b B:Nat} {w':World} {t o:Value} {T:List Int} (g:qQb 1 qQf b e w' t T) (c:qQb 1 qQf B e w o O) (h:w.heap.size<=b):t.ownBlock=none∨t.ownBlock≠o.ownBlock:=by
 cases H:t.ownBlock with
 | none=>exact .inl rfl
 | some k=>
   right;intro a;have:=(g.lt k H).1;have:=(c.lt k a.symm).2;omega
theorem zKp {W c a:World} {v y V:Value} {X R:List Int} (H:qQb 1 qQf w.heap.size e W v (O++[x])) (b:Bel w W) (B:Bel W c) (i:qQb 1 qQf W.heap.size e c y X)
 (j:qQb 1 qQf W.heap.size e a V (X++R)) (g:c.grownBy a y.ownBlock) (r:O++x::(X++R).flatMap (preF (kidsR d) 100)=shownR d) (q:(X++R).length<=1000 - 12*(60 - (O++[x]).length)) :
 ∃ (O T:List Int),qQb 1 qQf w.heap.size e a v O/\qQb 1 qQf w.heap.size e a V T/\(V.ownBlock=none∨V.ownBlock≠v.ownBlock)/\O++T.flatMap (preF (kidsR d) 100)=shownR d/\T.length<=1000 - 12*(60 - O.length)/\Bel w a:=by
 have n:=H.below B (Zb _) (fun _ _ _ h=>h);have s:v.ownBlock=none∨v.ownBlock≠y.ownBlock:=by
  rcases apart i H (Zb _) with h | h
  ·cases u:v.ownBlock with
   | none=>exact .inl rfl
   | some k=>right;rw [h];simp
  ·exact .inr (fun e=>h e.symm)
 have o:=n.grown g s (fun _ _ _ h=>h);refine ⟨O++[x],X++R,o,j.base_le b.size,apart j H (Zb _),by rw [<- r];simp,q,?_⟩;exact Below.grown (Bt b B) g (Za b.size B.size) (fun k p=>Za b.size (i.lt k p).1)
theorem zQd (m:Nat) (v:Value) (d:Dc) (w:World) (hv:qZh m w v d) (hm:m<=w.heap.size) (g:Good d) :
 Calls Tryz.prog 38 #[v] w (Rn w fun w' x=>qQb 1 qQf w.heap.size 3 w' x (shownR d)):=by
 obtain ⟨Q,U,rfl,V,v2⟩:=Rf hv;have cK:Hi (∀ W x,Bel w W->Calls Tryz.prog 76 #[.slice Q d.length U,.int .i64 x] W (Rn W fun w' y=>qQb 1 qQf W.heap.size 3 w' y (kidsR d x))):=lH (fun W x h=>qW7 m _ d x W (hv.later h hm) (Za hm h.size) g);have eK:=enters_of (P:=Tryz.prog) Tryz.func76 (by kernel_rfl) rfl;have a4:=lH eK;have ai:Hi ([]++[(0:Int)].flatMap (preF (kidsR d) 100)=shownR d):=lH (by simp [shownR]);have ay:=zK3 g;have a5:=lH (zHp g);have ag:=lH (qFq g);have ac:=lH (zVv w w.heap.size 0 (Zb _));have ad:Hi (Bel w (w.alloc (.cells #[.int .i64 0] 3))):=lH ((Below.refl _ _).alloc (Zb _) _);clear hv eK;go_enter Tryz.func38,Tryz.ntmps38
 go_wp2;go_loopw [3,4] (fun o t wr=>∃ (O T:List Int),qQb 1 qQf w.heap.size 3 wr o O/\qQb 1 qQf w.heap.size 3 wr t T/\(t.ownBlock=none∨t.ownBlock≠o.ownBlock)/\O++T.flatMap (preF (kidsR d) 100)=shownR d/\T.length<=1000 - 12*(60 - O.length)/\Bel w wr) (fun o _ _=>61 - lenV o)
 case atStart=>exact ⟨[],[0],qQb.nil _ _ _,ac.o,.inr (by simp [Value.ownBlock]),ai.o,by simp,ad.o⟩
 case round=>
  obtain ⟨O,T,hO,A,aa,hS,al,hB⟩:=hrel;have Y:=lH hO;have HT:=lH A;have ah:=lH aa;have S:=lH hS;have X:=lH hB;have S0:=hB.size;have a7:O.length+(T.flatMap (preF (kidsR d) 100)).length<=60:=by
   have:=congrArg List.length hS;rw [Zj] at this;omega
  obtain ⟨oa,oc,rfl,P,j⟩:=Rf hO.read;clear hS aa hO hB;cases T with
  | nil=>
    obtain ⟨ta,tc,rfl,t1,t2⟩:=Rf A.read;have HR:Hi (O=shownR d):=lH (by have:=S.o;simpa using this);clear A S;go_wp2;go_ret;exact ⟨X.o,_,rfl,HR.o▸Y.o⟩
  | cons x R=>
    obtain ⟨tb,tc,a2,rfl,az,a8,ak,b0,ab,a1⟩:=zZ6 A (by simp);have av:wr.cell? ⟨tb,0,none⟩=some (.int .i64 x):=by
     rw [a8.cell 0];cases a2 with
     | nil=>simp at ak;simp at ab;omega
     | cons aq a2=>simp at a1;simp [a1.1]
    have I:Hi (O++x::(kidsR d x++R).flatMap (preF (kidsR d) 100)=shownR d):=lH (by rw [<- a5.o];exact S.o);have aw:=ag.o x;have aj:Hi (∀ W,Bel w W->Calls Tryz.prog 76 #[.slice Q d.length U,.int .i64 x] W (Rn W fun w' y=>qQb 1 qQf W.heap.size 3 w' y (kidsR d x))):=lH (fun W h=>cK.o W x h);have ar:O.length+1<=60:=by
     rw [a5.o,Zm] at a7;omega
    clear A a8 a1 S a7;generalize kidsR d x=a6 at *
    simp only [Zm] at ab al;have am:=X.o;go_upto_region 6 with (at_builtin;go_must (refine qGp rfl _ _ _ rfl qJg (by decide) (rd:=qQf) (n0:=w.heap.size) ?ha0 (fun _ _ _ _ _ h=>h) qKq (base:=w.heap.size) ?ha1 rfl Y.o rfl ?hg x ⟨rfl,rfl⟩ ?hb1 ?hb2 ?hb3 ?_);(case ha0=>exact S0);(case ha1=>exact Zb _);(case hg=>rfl);(case hb1=>omega);(case hb2=>omega);(case hb3=>exact S0);intro V D P g1 a;have J:=lH P;have c:=lH (Below.own X.o (Zb _) Y.o g1);have af:=lH g1;have E:Hi (lenV V=O.length+1):=lH (len_own P);clear P g1 a)
    have K:=HT.o.grown af.o ah.o (fun _ _ _ h=>h);have S1:=c.o.size;have an:=lH K.read;have au:=(K.lt tb rfl).2;have ap:=lH K;clear K am;have a9:=aj.o D.drew c.o.drew;have a3:=lH a9;clear a9;by_cases ao:tc=1
    ·subst ao;obtain rfl:R=[]:=List.eq_nil_of_length_eq_zero (by omega);have M:Hi (∀ W,qQa 1 qQf (fun _=>True) W (.slice (some ⟨tb,0,none⟩) 0 0) ([]:List Int)):=lH (fun W=>qQa.nothing);go_region_law (first
 | (refine qZ6 rfl 76 a4.o #[.tmp 17,.tmp 18] _ rfl (vs:=#[.slice Q d.length U,.int .i64 x]) ?hv a3.o ?_;(case hv=>simp [Act.eval];exact ⟨rfl,rfl⟩);rintro e w2 ⟨b,y2,rfl,j⟩;refine ⟨_,rfl,?_⟩;have Z:=b.size;have i:=lH (Below.trans (Br D).drew b);have H:=lH j;clear b j)
 | (refine qYb rfl (.tmp 19) (.tmp 21) 28 rfl qJg (by decide) (rd:=qQf) (base:=D.heap.size) (l:=a6) rfl H.o rfl (M.o w2) (fun cs y _ h=>qKq _ cs y h) ?hby ?mx Z (fun _ _ _ _ _ h=>h) ?_;(case hby=>simp only [List.length_nil];omega);(case mx=>simp only [List.length_nil];omega);intro v5 w5 C G _ F;have n:=lH C;have k:=lH G;have ae:=lH F;clear C G F))
     all_goals
      have a0:=zKp J.o c.o i.o H.o n.o k.o I.o (by simp;omega)
      clear J c i H n k I
      go_wp2
      go_roundw
      case rel=>
       obtain ⟨p,q,a,r,s,u,F,z⟩:=a0;first
        | exact ⟨p,a,q,r,s,u,F,z⟩
        | exact ⟨V,v5,_,_,_,_,_,_,_,_,_,_,_,_,_,_,_,_,_,⟨p,q,a,r,s,u,F,z⟩,rfl⟩
      case measure=>first | (have B:=E.o;simp only [B];simp [lenV];omega) | (have B:=E.o;show 61 - lenV V<61 - O.length;omega)
    ·have ax:(1:Int)<=(R.length:Int)+1:=by omega
     have M:=lH (an.o.drop 1 (by simp))
     simp only [Zm,Nat.add_sub_cancel,List.drop_succ_cons,List.drop_zero,Nat.mul_one,Nat.zero_add] at M
     go_region_law (first
 | (refine qZ6 rfl 76 a4.o #[.tmp 17,.tmp 18] _ rfl (vs:=#[.slice Q d.length U,.int .i64 x]) ?hv a3.o ?_;(case hv=>simp [Act.eval];exact ⟨rfl,rfl⟩);rintro e w2 ⟨b,y2,rfl,j⟩;refine ⟨_,rfl,?_⟩;have Z:=b.size;have i:=lH (Below.trans (Br D).drew b);have H:=lH j;clear b j)
 | (refine qYb rfl (.tmp 19) (.tmp 21) 28 rfl qJg (by decide) (rd:=qQf) (base:=D.heap.size) (l:=a6) rfl H.o rfl (qQa.later M.o qQc i.o (Zb _)) (fun cs y _ h=>qKq _ cs y h) ?hby ?mx Z (fun _ _ _ _ _ h=>h) ?_;(case hby=>omega);(case mx=>omega);intro v5 w5 C G _ F;have n:=lH C;have k:=lH G;have ae:=lH F;clear C G F))
     all_goals
      have a0:=zKp J.o c.o i.o H.o n.o k.o I.o (by simp;omega)
      clear J c i H n k I
      go_wp2
      go_roundw
      case rel=>
       obtain ⟨p,q,a,r,s,u,F,z⟩:=a0;first
        | exact ⟨p,a,q,r,s,u,F,z⟩
        | exact ⟨V,v5,_,_,_,_,_,_,_,_,_,_,_,_,_,_,_,_,_,⟨p,q,a,r,s,u,F,z⟩,rfl⟩
      case measure=>first | (have B:=E.o;simp only [B];simp [lenV];omega) | (have B:=E.o;show 61 - lenV V<61 - O.length;omega)
set_option maxRecDepth 100000
def qYr:World->List Value->Clm->Prop:=fun _ cs c=>cs=[.int .i64 c.owner,.int .i64 c.kid]
theorem qZj:qHo qYr:=fun _ _ _ _ h=>h
abbrev qBw (n:Nat) (w:World) (v:Value) (l:List Clm):Prop:=qQa 2 qYr (·<n) w v l
theorem slt_clms:SlT Tryz.prog 62 104 2 16:=by
 refine ⟨by kernel_rfl,?_⟩;obtain ⟨i,h,H,a,b⟩:=info_parts (by kernel_rfl:(Tryz.prog.info? 104).map (fun i=>(i.zero,i.size,i.bytes))=some (some (.agg #[.int .i64 0,.int .i64 0]),2,16));exact ⟨i,_,h,H,a,b,rfl⟩
theorem one_clm:∀ (w:World) (cs:List Value) (y:Clm),qYr w cs y->∀ u∈cs,u.oneCell'=true:=by
 rintro w cs y rfl u h;simp at h;rcases h with rfl | rfl <;> rfl
theorem zQk {B:Nat->Prop} {b o n c:Nat} (h:qQa 2 qYr B w (.slice (some ⟨b,o,none⟩) n c) l) (i:Nat) (j:i<l.length) :
 w.cell? ⟨b,o+i*2,none⟩=some (.int .i64 l[i].owner)/\w.cell? ⟨b,o+i*2+1,none⟩=some (.int .i64 l[i].kid):=by
 obtain ⟨k,q,C,s,H,_,p,a,g⟩:=qQa.elem h i j;simp at H;obtain ⟨⟨rfl,rfl⟩,_,_⟩:=H;cases g;exact ⟨by simpa using a.at 0 (by simp),by simpa using a.at 1 (by simp)⟩
theorem qJk (m:Nat) (v:Value) (l:List Int) (x:Int) (w:World) (hv:qKn m w v l):Calls Tryz.prog 21 #[v,.int .i64 x] w (Rv (.bool (l.contains x)) w):=by
 rcases qQa.cases hv with ⟨rfl,rfl⟩ | ⟨b,o,c,rfl,g,i,k⟩
 ·exact (Tryz.slices_Contains_int_empty none 0 x w).mono (fun e W h=>⟨h.1,h.2.symm⟩)
 ·have a:∀ j,j<l.length->w.cell? ⟨b,o+j,none⟩=some (.int .i64 (l.getD j 0)):=fun j H=>by
   rw [hv.int_cell j H];simp [List.getD,Zi H]
  have:=Tryz.slices_Contains_int b o l.length c l x w (Zb _) (by omega) a;rw [Zn (Zb _)] at this;exact this.mono (fun e W h=>⟨h.1,h.2.symm⟩)
def clmIdx (n:Int):List Clm->Nat->Int
 | [],_=>-1
 | c::l,i=>if c.kid=n then (i:Int) else clmIdx n l (i+1)
theorem zX0 {n:Int} {j:Nat} (h:j<l.length):clmIdx n (l.drop j) j=if l[j].kid=n then (j:Int) else clmIdx n (l.drop (j+1)) (j+1):=by
 rw [List.drop_eq_getElem_cons h];rfl
theorem zYg (n:Int):∀ (l:List Clm) (i:Nat),(clmIdx n l i = -1/\ownerM l n = -1)∨∃ k,∃ h:k<l.length,clmIdx n l i=((i+k:Nat):Int)/\ownerM l n=l[k].owner:=by
 intro l;induction l with
 | nil=>intro i;left;exact ⟨rfl,rfl⟩
 | cons a l I=>
   intro i;by_cases H:a.kid=n
   ·right;exact ⟨0,by simp,by simp [clmIdx,H],by simp [ownerM,H]⟩
   ·have e:ownerM (a::l) n=ownerM l n:=(by simp [ownerM,H]);rw [e,show clmIdx n (a::l) i=clmIdx n l (i+1) from if_neg H];rcases I (i+1) with h | ⟨k,g,b,c⟩
    ·exact .inl h
    ·right;exact ⟨k+1,by simp;omega,by rw [b];congr 1;omega,by simpa using c⟩
theorem qGy (o k n:Int) (g:Nat) (w:World) (h:w.cell? ⟨g,0,none⟩=some (.int .i64 n)) :
 Calls Tryz.prog 80 #[.agg #[.int .i64 o,.int .i64 k],.pointer (some ⟨g,0,none⟩)] w (Rb (.bool (k==n)) w):=by
 have H:=(Bel.cells ((Br w).alloc (.cells #[.int .i64 o,.int .i64 k] 104)) g 0 (World.block_lt_of_cell? w _ h)).trans h;go_enter Tryz.func80,Tryz.ntmps80
 go_wp2;go_ret;exact ⟨rfl,(Br w).alloc _⟩
theorem zQu (m:Nat) (v:Value) (l:List Clm) (n:Int) (g:Nat) (w:World) (hv:qBw m w v l) (hm:m<=w.heap.size) (q:w.cell? ⟨g,0,none⟩=some (.int .i64 n)) :
 Calls Tryz.prog 79 #[v,.func (.func 80) #[] #[.pointer (some ⟨g,0,none⟩)]] w (Rb (.int .i64 (clmIdx n l 0)) w):=by
 obtain ⟨a,c,rfl,M,P⟩:=Rf hv;have V:=lH hv;have C:Hi (∀ W o k,Bel w W->Calls Tryz.prog 80 #[.agg #[.int .i64 o,.int .i64 k],.pointer (some ⟨g,0,none⟩)] W (Rb (.bool (k==n)) W)):=lH (fun W o k D=>qGy o k n g W ((Bel.cells D g 0 (World.block_lt_of_cell? w _ q)).trans q));clear hv q;go_enter Tryz.func79,Tryz.ntmps79
 go_wp2;go_loopw [8] (fun i wr=>∃ j:Nat,j<=l.length/\i=.int .i64 j/\clmIdx n (l.drop j) j=clmIdx n l 0/\Bel w wr) (fun i _=>l.length - (intOf i).toNat)
 case atStart=>exact ⟨0,by omega,rfl,rfl,Br _⟩
 case round=>
  obtain ⟨j,K,rfl,y,r⟩:=hrel;have F:=lH y;have B:=lH r;have R:=qQa.later V.o qZj r hm;clear y r;by_cases u:j<l.length
  ·obtain ⟨_,_,_,_,E,_,_,_,_⟩:=qQa.elem R j u;simp at E;obtain ⟨rfl,rfl⟩:=E;obtain ⟨z,A⟩:=zQk R j u;have I:=lH (zX0 (n:=n) u);clear R;generalize l[j]=x at *
   obtain ⟨J,X⟩:=x;simp only at z A I;have b:=lH (C.o _ J X B.o);by_cases h:X=n
   ·have s:(X==n)=true:=(by simpa using h);have H:Hi (clmIdx n l 0=(j:Int)):=lH (by rw [<- F.o,I.o,if_pos h]);rw [s] at b;clear h;go_wp2_with (go_at_call 80;refine qQe b.o B fun G p=>?_)
    go_ret;exact ⟨qQr H.o.symm,p.o⟩
   ·have s:(X==n)=false:=(by simpa using h);have H:Hi (clmIdx n (l.drop (j+1)) (j+1)=clmIdx n l 0):=lH (by rw [<- F.o,I.o,if_neg h]);rw [s] at b;clear h;go_wp2_with (go_at_call 80;refine qQe b.o B fun G p=>?_)
    go_roundw;case rel=>exact ⟨j+1,by omega,by go_num,H.o,p.o⟩
    case measure=>simp [intOf];omega
  ·have H:Hi (clmIdx n l 0 = -1):=lH (by rw [<- F.o,List.drop_eq_nil_of_le (by omega)];rfl);clear R;go_wp2;go_ret;exact ⟨qQr H.o.symm,B.o⟩
theorem qX1 (m:Nat) (v:Value) (l:List Clm) (n:Int) (w:World) (hv:qBw m w v l) (hm:m<=w.heap.size):Calls Tryz.prog 42 #[v,.int .i64 n] w (Rb (.int .i64 (ownerM l n)) w):=by
 obtain ⟨a,c,rfl,y,z⟩:=Rf hv;have H:Bel w (w.alloc (.cells #[.int .i64 n] 3)):=(Br w).alloc _;have h:(w.alloc (.cells #[.int .i64 n] 3)).cell? ⟨w.heap.size,0,none⟩=some (.int .i64 n):=(Blk.new' w _ rfl #[.int .i64 n] 3).cell 0;have C:=lH (zQu m _ l n w.heap.size _ (qQa.later hv qZj H hm) (Za hm H.size) h);have V:=lH hv;have B:=lH H;clear hv H h;rcases zYg n l 0 with ⟨E,b⟩ | ⟨k,h,E,b⟩
 ·rw [E] at C;rw [b];clear E b;go_enter Tryz.func42,Tryz.ntmps42
  go_wp2_with (go_at_call 79;refine qQe C.o B fun s g=>?_)
  go_ret;exact ⟨rfl,g.o⟩
 ·rw [show ((0+k:Nat):Int)=(k:Int) by simp] at E;rw [E] at C;rw [b];obtain ⟨_,_,_,_,j,_,_,_,_⟩:=qQa.elem V.o k h;simp at j;obtain ⟨rfl,rfl⟩:=j;have p:∀ W,Bel w W->_:=fun W r=>(zQk (qQa.later V.o qZj r hm) k h).1;have q:=lH p;clear E b p;generalize l[k].owner=o at *
  go_enter Tryz.func42,Tryz.ntmps42
  go_wp2_with (go_at_call 79;refine C.o.mono ?_;rintro e s ⟨rfl,i⟩;have u:=q.o _ (Bt B.o i);have g:=lH (Bt B.o i);clear i)
  go_ret;exact ⟨rfl,g.o⟩
theorem qGi (m:Nat) (v u:Value) (d:Dc) (l:List Clm) (n:Int) (w:World) (hv:qZh m w v d) (a:qBw m w u l) (hm:m<=w.heap.size) (g:Good d) :
 Calls Tryz.prog 81 #[v,u,.int .i64 n] w (Rb (.int .i64 (inM d l n)) w):=by
 have c:=lH (qX1 m u l n w a hm);have C:Hi (∀ W,Bel w W->Calls Tryz.prog 33 #[v,.int .i64 n] W (Rb (.int .i64 (upR d n)) W)):=lH (fun W h=>qX7 m v d n W (hv.later h hm) (Za hm h.size) g);obtain ⟨V,p,rfl,_,_⟩:=Rf hv;obtain ⟨U,k,rfl,_,_⟩:=Rf a;have I:inM d l n=if 0<=ownerM l n then ownerM l n else upR d n:=rfl
 rw [I];clear hv a I;generalize ownerM l n=o at *
 by_cases b:0<=o
 ·rw [if_pos b];go_enter Tryz.func81,Tryz.ntmps81
  go_wp2_with (go_at_call 42;refine qJ7 c.o fun j H=>?_)
  go_ret;exact ⟨rfl,H.o⟩
 ·rw [if_neg b];go_enter Tryz.func81,Tryz.ntmps81
  go_wp2_with (first
 | (go_at_call 42;refine qJ7 c.o fun j H=>?_)
 | (go_at_call 33;refine qQe (C.o _ H.o) H fun q i=>?_))
  go_ret
  exact ⟨rfl,i.o⟩
open Classical in
theorem zXf (m:Nat) (v u:Value) (d:Dc) (l:List Clm) (n k:Int) (w:World) (hv:qZh m w v d) (a:qBw m w u l) (hm:m<=w.heap.size) (g:Good d) (c:ClmOk d l) :
 Calls Tryz.prog 43 #[v,u,.int .i64 n,.int .i64 k] w (Rb (.bool (onB d l n k)) w):=by
 obtain ⟨μ,R,E⟩:=c.tight g;have o:onB d l n k=decide (On (inM d l) n k):=by
  have:=zH5 g c (n:=n) (k:=k);by_cases h:On (inM d l) n k <;> simp [h,this] <;> simpa [h] using this
 rw [o];have C:Hi (∀ W x,Bel w W->Calls Tryz.prog 81 #[v,u,.int .i64 x] W (Rb (.int .i64 (inM d l x)) W)):=lH (fun W x h=>qGi m v u d l x W (hv.later h hm) (qQa.later a qZj h hm) (Za hm h.size) g);obtain ⟨V,J,rfl,_,_⟩:=Rf hv;obtain ⟨G,I,rfl,_,_⟩:=Rf a;clear hv a o c E;have A:=lH R.up;clear R;generalize inM d l=U at *
 go_enter Tryz.func43,Tryz.ntmps43
 go_wp2;go_loopw [2] (fun z wr=>∃ x:Int,z=.int .i64 x/\(On U x k↔On U n k)/\Bel w wr) (fun z _=>if intOf z<0 then 0 else μ (intOf z)+1)
 case atStart=>exact ⟨n,rfl,Iff.rfl,Br _⟩
 case round=>
  obtain ⟨x,rfl,j,i⟩:=hrel;have F:=lH j;have B:=lH i;clear j i;by_cases b:0<=x
  ·by_cases H:x=k
   ·have D:(x==k)=true:=(by simpa using H);have T:Hi (On U n k):=lH (F.o.1 (by rw [<- H];exact .here b));clear H;go_wp2;go_ret;exact ⟨qJo (by simp [T.o]),B.o⟩
   ·have D:(x==k)=false:=(by simpa using H);have X:=lH (C.o _ x B.o);have s:Hi (On U (U x) k↔On U n k):=lH (Iff.trans ⟨fun h=>.step b h,fun h=>by
     cases h with
 | here _=>exact absurd rfl H
 | step _ h=>exact h⟩ F.o)
    have M:Hi (0<=U x->μ (U x)<μ x):=lH (A.o x b)
    clear H
    generalize U x=y at *
    go_wp2_with (go_at_call 81;refine qQe X.o B fun K r=>?_)
    go_roundw
    case rel=>exact ⟨y,rfl,s.o,r.o⟩
    case measure=>
     simp only [intOf];have p:¬ x<0:=(by omega);by_cases q:y<0
     ·simp [q,p]
     ·have:=M.o (by omega);simp [q,p];omega
  ·have T:Hi (¬ On U n k):=lH (fun h=>by have:=(F.o.2 h).ge;omega)
   go_wp2
   go_ret
   exact ⟨qJo (by simp [T.o]),B.o⟩
end Go.Proofs.YtkhkbifdakikcaaGreatDoor
set_option maxRecDepth 100000
set_option maxHeartbeats 2000000
namespace Go.Proofs.YtkhkbifdakikcaaGreatDoor
open Go.RowKit
variable {t:Fl} {x:Int} {μ:Int->Nat} {NB:List Int} {N f m:Nat} {nv:Value} {w:World}
theorem qBg (n r:Int) (i X:Txt) (g c:Int) (o:Bool) (K:Option Addr) (E D:Nat) (w:World) :
 Calls Tryz.prog 62 #[.agg #[.int .i64 n,.int .i64 r,.string ⟨i.toArray⟩,.string ⟨X.toArray⟩,.int .i64 g,.int .i64 c,.bool o,.slice K E D]] w (Rb (.agg #[.int .i64 n,.int .i64 r,.string ⟨i.toArray⟩,.string ⟨X.toArray⟩,.int .i64 g,.int .i64 c,.bool o,.slice none 0 0]) w):=by
 go_enter Tryz.func62,Tryz.ntmps62
 go_upto_region 1 with fail
 refine qQt (E:=fun W=>Blk W w.heap.size [.int .i64 n,.int .i64 r,.string ⟨i.toArray⟩,.string ⟨X.toArray⟩,.int .i64 g,.int .i64 c,.bool o,.slice K E D] 82/\Blk W (w.heap.size+1) [.int .i64 0,.int .i64 0,.string ⟨#[]⟩,.string ⟨#[]⟩,.int .i64 0,.int .i64 0,.bool false,.slice none 0 0] 82/\Bel w W) ⟨(Blk.new' w _ rfl #[.int .i64 n,.int .i64 r,.string ⟨i.toArray⟩,.string ⟨X.toArray⟩,.int .i64 g,.int .i64 c,.bool o,.slice K E D] _).bel ((Br _).alloc _),Blk.new' _ _ (by simp) _ _,((Br w).alloc _).alloc _⟩ ?_;rintro Z ⟨h,H,p⟩;have C:=h.cell 7;have V:=h.frozen 7;simp only [Zd,Ze] at C;have F:=lH h;have k:=lH H;have B:=lH p;clear h H p;go_upto_region 2 with fail
 refine qQt (E:=fun W=>Blk W w.heap.size [.int .i64 n,.int .i64 r,.string ⟨i.toArray⟩,.string ⟨X.toArray⟩,.int .i64 g,.int .i64 c,.bool o,.slice none 0 0] 82/\Blk W (w.heap.size+1) [.int .i64 0,.int .i64 0,.string ⟨#[]⟩,.string ⟨#[]⟩,.int .i64 0,.int .i64 0,.bool false,.slice none 0 0] 82/\Bel w W) ⟨F.o.set 7 _,k.o.other _ _ (by simp),B.o.setCell _ _ _ (Zb _)⟩ ?_;clear C V F k B;rintro T ⟨h,H,p⟩;have q:=h.cell 0;have s:=h.cell 1;have u:=h.cell 2;have c3:=h.cell 3;have c4:=h.cell 4;have v:=h.cell 5;have y:=h.cell 6;have C:=h.cell 7;have G:=H.cell 0;have I:=H.cell 1;have J:=H.cell 2;have M:=H.cell 3;have P:=H.cell 4;have Q:=H.cell 5;have R:=H.cell 6;have S:=H.cell 7;have Y:∀ j,T.frozen? ⟨w.heap.size+1,j,none⟩=false:=fun j=>H.frozen j;simp only [Zd,Ze] at q s u c3 c4 v y C G I J M P Q R S;have k:=lH H;have B:=lH p;clear h H p;go_wp2;obtain ⟨A,z⟩:∃ A,A=(((((((T.setCell ⟨w.heap.size+1,0,none⟩ (.int .i64 n)).setCell ⟨w.heap.size+1,1,none⟩ (.int .i64 r)).setCell ⟨w.heap.size+1,2,none⟩ (.string ⟨i.toArray⟩)).setCell ⟨w.heap.size+1,3,none⟩ (.string ⟨X.toArray⟩)).setCell ⟨w.heap.size+1,4,none⟩ (.int .i64 g)).setCell ⟨w.heap.size+1,5,none⟩ (.int .i64 c)).setCell ⟨w.heap.size+1,6,none⟩ (.bool o)).setCell ⟨w.heap.size+1,7,none⟩ (.slice none 0 0):=⟨_,rfl⟩;have a:Blk A (w.heap.size+1) [.int .i64 n,.int .i64 r,.string ⟨i.toArray⟩,.string ⟨X.toArray⟩,.int .i64 g,.int .i64 c,.bool o,.slice none 0 0] 82:=by rw [z];exact (((((((k.o.set 0 _).set 1 _).set 2 _).set 3 _).set 4 _).set 5 _).set 6 _).set 7 _
 have U:Hi (Bel w A):=lH (by
  have b:w.heap.size<=w.heap.size+1:=Nat.le_succ _;rw [z];exact (((((((B.o.setCell _ 0 _ b).setCell _ 1 _ b).setCell _ 2 _ b).setCell _ 3 _ b).setCell _ 4 _ b).setCell _ 5 _ b).setCell _ 6 _ b).setCell _ 7 _ b)
 rw [<- z];have q:=a.cell 0;have s:=a.cell 1;have u:=a.cell 2;have c3:=a.cell 3;have c4:=a.cell 4;have v:=a.cell 5;have y:=a.cell 6;have C:=a.cell 7;simp only [Zd,Ze] at q s u c3 c4 v y C;clear z a k B Y G I J M P Q R S;exact bodyPost_ret (v:=.agg #[.int .i64 n,.int .i64 r,.string ⟨i.toArray⟩,.string ⟨X.toArray⟩,.int .i64 g,.int .i64 c,.bool o,.slice none 0 0]) (by simp [results,Tryz.results62,go_sem,q,s,u,c3,c4,v,y,C]) rfl ⟨rfl,U.o⟩
def itsOf (t:Fl):Nat->Int->List It
 | 0,_=>[]
 | f+1,n=>(t.kids n).map (fun k=>.mk (t.head k) (itsOf t f k))
theorem qD6 (c:Wf t) (H:zQ5 t):∀ (f:Nat) (n:Int),nodesL (itsOf t f n)=(t.kids n).flatMap (preF t.kids f):=by
 intro f;induction f with
 | zero=>
   intro n;rw [itsOf];induction t.kids n with
   | nil=>rfl
   | cons a l i=>rw [List.flatMap_cons,<- i];rfl
 | succ f i=>
   intro n;have:∀ L:List Int,(∀ k∈L,Has t k)->nodesL (L.map (fun k=>It.mk (t.head k) (itsOf t f k)))=L.flatMap (preF t.kids (f+1)):=by
    intro L;induction L with
    | nil=>intro _;rfl
    | cons k L I=>
      intro h;rw [List.map_cons,nodesL,I (fun x g=>h x (List.mem_cons_of_mem _ g)),List.flatMap_cons,nodesI,i k,H k (h k List.mem_cons_self),preF]
   exact this _ (fun k b=>(c.has_kid b).1)
theorem rd_its {B:Nat->Prop} {V:Int->Value} (H:qYw B w V t) (j:Wf t) (F:Falls t.kids μ N):∀ (f:Nat) (n:Int),(n = -1∨Has t n)->N<μ n+f->ItsK B f w (V n) (itsOf t f n):=by
 intro f;induction f with
 | zero=>intro n _ h;have:=F.top n;omega
 | succ f I=>
   intro n g p;refine (H n g).conv (by rw [itsOf,List.length_map]) (fun i a o b C _ c r=>⟨c,V (t.kids n)[i],?_,?_⟩)
   ·simp only [itsOf,List.getElem_map];exact r
   ·simp only [itsOf,List.getElem_map];have k:=Zl a;have:=F.down _ _ k;exact I _ (.inr (j.has_kid k).1) (by omega)
def zK5 (t:Fl) (f:Nat) (x:Int):List Int:=x::(t.kids x).flatMap (preF t.kids f)
theorem zB9 {L:List Int} (h:Wf t) (H:Fits L t) (F:Falls t.kids μ N) (c:N<f) (a:Has t x):(zK5 t f x).length<=L.length:=by
 have e:zK5 t f x=preF t.kids f x:=(qG8 F (by omega)).symm;rw [e];refine qDq _ _ (qX4 F h.alone f x (by omega)) (fun y b=>H y ?_);exact h.in_has a ((qXn F f x y (by omega)).1 b)
theorem zXj (F:Falls t.kids μ N) (h:N<f) {y:Int} :y∈zK5 t f x↔Reach t.kids x y:=by
 have e:zK5 t f x=preF t.kids f x:=(qG8 F (by omega)).symm;rw [e];exact qXn F f x y (by omega)
theorem idx_any (p:Int->Bool) (l:List Int):decide (0<=idxM p l 0)=l.any p:=by
 rcases zJc p l 0 with ⟨h,H⟩ | ⟨k,a,h,H,_⟩
 ·rw [h];have:l.any p=false:=by rw [List.any_eq_false];intro x b;rw [H x b];simp
  rw [this];rfl
 ·rw [h];have:l.any p=true:=by rw [List.any_eq_true];exact ⟨_,Zl a,H⟩
  rw [this];simp
theorem qKy (g:Nat) (b:Array Value) (p:Int->Bool) (E:∀ args w,(callFunc g args).run Tryz.prog w=.ok (.enter g args) w) (m:Nat) (v:Value) (l:List Int) (w:World) (hv:qKn m w v l) (hm:m<=w.heap.size) (h:zH0 g b p w.heap.size w) :
 Calls Tryz.prog 54 #[v,.func (.func g) #[] b] w (Rb (.bool (l.any p)) w):=by
 have c:=lH (qKf g b p E m v l w hv hm h);have H:=lH (idx_any p l);obtain ⟨V,a,rfl,_,_⟩:=Rf hv;clear hv h;generalize idxM p l 0=r at *
 go_enter Tryz.func54,Tryz.ntmps54
 go_wp2_with (go_at_call 106;(with_reducible refine qJ7 c.o fun W B=>?_))
 go_ret;exact ⟨by rw [<- H.o];rfl,B.o⟩
theorem qFo {g:Nat} (h:qKn m w nv NB) (_hm:m<=w.heap.size) (hg:w.cell? ⟨g,0,none⟩=some nv) (x:Int) :
 Calls Tryz.prog 107 #[.int .i64 x,.pointer (some ⟨g,0,none⟩)] w (Rb (.bool (NB.contains x)) w):=by
 have c:=lH (qJk m nv NB x w h);obtain ⟨v,V,rfl,_,_⟩:=Rf h;clear h;go_enter Tryz.func107,Tryz.ntmps107
 go_wp2_with (go_at_call 21;(with_reducible refine c.o.mono ?_);rintro e W ⟨rfl,rfl⟩)
 go_ret;exact ⟨qJo (by simp),Br _⟩
theorem cf_lone1 (args:Array Value) (w:World):(callFunc 107 args).run Tryz.prog w=.ok (.enter 107 args) w:=by kernel_rfl
theorem zQq {k:Nat} {kv:Value} {b o:Nat} {h:Hd} {K:List It} (q:qKn m w nv NB) (hm:m<=w.heap.size) (c:TabC w b o h kv) (p:ItsK (·<w.heap.size) k w kv K) (Y:(nodesL [It.mk h K]).length<=1000000000) :
 Calls Tryz.prog 58 #[.pointer (some ⟨b,o,none⟩),nv] w (Rb (.bool (!(nodesL [It.mk h K]).any NB.contains)) w):=by
 obtain ⟨r,s,rfl,_,_⟩:=Rf p;obtain ⟨E,F,rfl,_,_⟩:=Rf q;have g:=World.block_lt_of_cell? w _ c.node;obtain ⟨a,j⟩:∃ a,a=w.alloc (.cells #[.slice E NB.length F] 28):=⟨_,rfl⟩;have H:Bel w a:=by rw [j];exact (Br w).alloc _
 have A:Blk a w.heap.size [.slice E NB.length F] 28:=by rw [j];exact Blk.new' w _ rfl _ _
 have R:=(H.cells b _ g).trans c.node;have S:=(H.cells b _ g).trans c.role;have T:=(H.cells b _ g).trans c.name;have c3:=(H.cells b _ g).trans c.about;have c4:=(H.cells b _ g).trans c.level;have U:=(H.cells b _ g).trans c.checked;have V:=(H.cells b _ g).trans c.off;have c7:=(H.cells b _ g).trans c.kids;have I:=qJv (rd:=rdIt (·<a.heap.size+1) (k+1)) (sz:=8) a [.int .i64 h.node,.int .i64 h.role,.string ⟨h.name.toArray⟩,.string ⟨h.about.toArray⟩,.int .i64 h.level,.int .i64 h.checked,.bool h.off,.slice r K.length s] 82 (It.mk h K) rfl ⟨.slice r K.length s,rfl,(p.up (Bt H ((Br a).alloc _)) (Zb _)).mono (fun b D=>by simpa using D)⟩;have z:ItsK (·<a.heap.size+1) (k+1) (a.alloc (.cells [.int .i64 h.node,.int .i64 h.role,.string ⟨h.name.toArray⟩,.string ⟨h.about.toArray⟩,.int .i64 h.level,.int .i64 h.checked,.bool h.off,.slice r K.length s].toArray 82)) (.slice (some ⟨a.heap.size,0,none⟩) 1 1) [It.mk h K]:=qQa.mono I (fun b D=>by omega) (fun _ _ _ h=>h);have C:=lH (qKv (k+1) _ _ _ _ z (by simp) Y);have J:=lH H;have P:=lH A;have Q:=lH (qQa.later q qQc H hm);have Z:=H.size;clear I z c p q H A;generalize nodesL [It.mk h K]=L at *
 obtain ⟨a4,a6,a3,a0,a2,a1,a5⟩:=h;simp only at R S T c3 c4 U V C;go_enter Tryz.func58,Tryz.ntmps58
 go_upto_region 1 with fail
 rw [<- j];clear j;go_wp2_with (first
 | (go_at_call 56;(with_reducible refine C.o.mono ?_);rintro e G ⟨B,y,rfl,u⟩;have i:=lH (Bt ((Br a).alloc _) B);have X:=lH (qKy 107 #[.pointer (some ⟨w.heap.size,0,none⟩)] NB.contains cf_lone1 G.heap.size y L G u.read (Zb _) (fun W n x=>qFo (qQa.later Q.o qQc (Bt i.o n) (by omega)) (Za (by omega) (Bt i.o n).size) ((P.o.bel (Bt i.o n)).cell 0) x));obtain ⟨ya,yc,rfl,_,_⟩:=Rf u.read;clear B u)
 | (go_at_call 54;(with_reducible refine X.o.mono ?_);rintro e w3 ⟨rfl,v⟩;have M:=lH (Bt J.o (Bt i.o v));clear v))
 go_ret;exact ⟨rfl,M.o⟩

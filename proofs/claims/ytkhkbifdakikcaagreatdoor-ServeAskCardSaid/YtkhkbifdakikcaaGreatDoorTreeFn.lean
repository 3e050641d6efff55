/- tree's zWx functions, walked: the level of an element, and whether it is checked. -/
import Derived.Test.YtkhkbifdakikcaaGreatDoorNamOf
set_option maxRecDepth 100000
set_option maxHeartbeats 4000000
namespace Go.Proofs.YtkhkbifdakikcaaGreatDoor
open Go.RowKit
variable {n r:Int}
def cntM (d:Dc) (C:List Clm) (r:Int) (n:Int):Nat:=(qZ3 (inM d C) 100 n).countP (fun a=>qQd d a==r)
section
variable {d:Dc} {C:List Clm}
theorem qB6 (u:Int->Int):∀ (f:Nat) (n:Int),(qZ3 u f n).length<=f:=by
 intro f;induction f with
 | zero=>intro n;exact Zb _
 | succ f i=>
   intro n;rw [qZ3];split
   ·exact Nat.zero_le _
   ·rw [Zm];have:=i (u n);omega
theorem cntM_le (r n:Int):cntM d C r n<=100:=Za List.countP_le_length (qB6 _ _ _)
theorem cntM_neg (h:n<0):cntM d C r n=0:=by
 unfold cntM;have e:qZ3 (inM d C) 100 n=[]:=by rw [qZ3,if_pos h]
 rw [e];rfl
theorem zK2 (g:Good d) (h:ClmOk d C) (a:0<=n):cntM d C r n=cntM d C r (inM d C n)+if qQd d n==r then 1 else 0:=by
 obtain ⟨b,R,H⟩:=h.tight g;unfold cntM;rw [<- zW2 R 100 n (H n)];have e:qZ3 (inM d C) (100+1) n=n::qZ3 (inM d C) 100 (inM d C n):=by
  have E:∀ f n,qZ3 (inM d C) (f+1) n=if n<0 then [] else n::qZ3 (inM d C) f (inM d C n):=fun _ _=>rfl
  rw [E 100 n,if_neg (by omega)]
 rw [e,List.countP_cons]
theorem level_el (g:Good d) (h:(kOf (qQd d n)).level=true∨(kOf (qQd d n)).checked=true):isM d n true=true:=by
 cases H:isM d n false with
 | false=>
   rw [zVz H] at h;rcases h with h | h <;> exact absurd h (by decide)
 | true=>
   cases t:isM d n true with
   | true=>rfl
   | false=>
     have c:(nd d n).tag=[]:=by
      cases e:(nd d n).tag with
      | nil=>rfl
      | cons a l=>
        have:isM d n true=true:=by
         simp [isM] at H ⊢;exact ⟨H,by rw [e];simp⟩
        rw [t] at this;simp at this
     have b:qQd d n=10:=zFs g H c;rw [b] at h;rcases h with h | h <;> exact absurd h (by decide)
end
theorem zYu (A b c a e f g:Value) (w:World):(Instr.field 57 (.agg #[A,b,c,a,e,f,g]) 3).run Tryz.prog w=.ok a w:=by kernel_rfl
theorem zYq (A b c e a f g:Value) (w:World):(Instr.field 57 (.agg #[A,b,c,e,a,f,g]) 4).run Tryz.prog w=.ok a w:=by kernel_rfl
theorem qDk (m:Nat) (v u:Value) (d:Dc) (C:List Clm) (n:Int) (W:World) (hv:qZh m W v d) (o:qQa 2 qYr (·<m) W u C) (hm:m<=W.heap.size) (g:Good d) (hC:ClmOk d C) :
 Calls Tryz.prog 104 #[v,u,.int .i64 n] W (Rb (.int .i64 (qBe d C n)) W):=by
 have al:=zYu;obtain ⟨a5,R⟩:∃ x,x=qBe d C n:=⟨_,rfl⟩;rw [<- R];unfold qBe at R;cases l:(kOf (qQd d n)).level with
 | false=>
   rw [l,if_pos rfl] at R;subst R;have f:=lH (qKa m v d n W hv hm g);have i:=lH (qKt (qQd d n));rw [l] at i;obtain ⟨va,vc,rfl,_,_⟩:=Rf hv;obtain ⟨ua,uc,rfl,_,_⟩:=Rf o;clear l;generalize e:kOf (qQd d n)=kk at *
   clear e;obtain ⟨af,ab,ac,ad,aa,ae,ag⟩:=kk;generalize qQd d n=r at *
   go_enter Tryz.func104,Tryz.ntmps104
   go_wp2_with (first
 | (go_at_call 14;(with_reducible refine qJ7 (f.o) fun F H=>?_))
 | (go_at_call 15;(with_reducible refine qQe (i.o _) H fun I H=>?_)))
   go_ret
   exact ⟨rfl,H.o⟩
 | true=>
   rw [l,if_neg (by simp)] at R;have hi:=level_el g (.inl l);obtain ⟨p,hp,rfl,-⟩:=qQy.1 (qZ0 hi);have E:=hv;obtain ⟨b,P,a0,av,kv,sv,rfl,v1,v2,ai,hN⟩:=hv.node p hp;obtain ⟨ua,uc,rfl,u1,u2⟩:=Rf o;have Y:Hi (∀ a,Bel W a->∀ x,Calls Tryz.prog 14 #[.slice (some ⟨b,P,none⟩) d.length a0,.int .i64 x] a (Rb (.int .i64 (qQd d x)) a)):=lH (fun a h x=>qKa m _ d x a (E.later h hm) (Za hm h.size) g);have Z:Hi (∀ a,Bel W a->∀ x,Calls Tryz.prog 81 #[.slice (some ⟨b,P,none⟩) d.length a0,.slice ua C.length uc,.int .i64 x] a (Rb (.int .i64 (inM d C x)) a)):=lH (fun a h x=>qGi m _ _ d C x a (E.later h hm) (o.later qZj h hm) (Za hm h.size) g);have z:Hi (∀ a,Bel W a->Calls Tryz.prog 39 #[.slice (some ⟨b,P,none⟩) d.length a0,.int .i64 (p:Int),.string ⟨#[97,114,105,97,45,108,101,118,101,108]⟩] a (Rb (.tuple #[.string ⟨(said d (p:Int) alvlT).toArray⟩,.bool (hasA d (p:Int) alvlT)]) a)):=lH (fun a h=>qZv m _ d (p:Int) alvlT a (E.later h hm) (Za hm h.size));have y:Hi (∀ w',Bel W w'->w'.cell? ⟨b,P+p*9+1,none⟩=some (.string ⟨d[p].tag.toArray⟩)):=lH (fun w' hW=>zVs (E.later hW hm) hp);have i:=lH (qKt (qQd d (p:Int)));rw [l] at i;have a9:=qJp g (p:Int) alvlT;have A:=lH (fun W=>zF4 (said d (p:Int) alvlT) W (by omega));obtain ⟨μ,RS,-⟩:=hC.tight g;have S:=lH RS;have f:=lH (fun a h=>Y.o a h (p:Int));have hst:=zK2 g hC (r:=qQd d (p:Int)) (n:=(p:Int)) (by omega);have X:=lH (fun (r:Int) {x:Int} (q:0<=x)=>zK2 g hC (r:=r) q);rw [if_pos (by simp)] at hst;have N:=cntM_le (d:=d) (C:=C) (qQd d (p:Int)) (p:Int);rw [qQ2 hp] at R;have c:a5=if 1<=num (said d (p:Int) alvlT)/\num (said d (p:Int) alvlT)<=9 then num (said d (p:Int) alvlT) else if qQd d (p:Int)=4 then (if d[p].tag=h1T then 1 else if d[p].tag=h3T then 3 else 2) else ((cntM d C (qQd d (p:Int)) (p:Int):Nat):Int):=R
   clear R hN a9 RS E l hi;generalize e:kOf (qQd d (p:Int))=kk at *
   clear e;obtain ⟨af,ab,ac,ad,aa,ae,ag⟩:=kk;generalize num (said d (p:Int) alvlT)=k at *
   generalize said d (p:Int) alvlT=sd at *
   generalize hasA d (p:Int) alvlT=sh at *
   generalize a6:d[p].tag=t at *
   clear a6;generalize qQd d (p:Int)=r at *
   have H:=lH (Br W);have a2:(1<=k/\k<=9)∨(1<=k/\¬ k<=9)∨¬ 1<=k:=(by omega);have ao:(p:Int)<(d.length:Int):=(by omega);by_cases hk:1<=k/\k<=9
   ·obtain ⟨K,w⟩:=hk;rw [if_pos ⟨K,w⟩] at c;have aj:decide (1<=k)=true:=(by simpa using K);have ak:decide (k<=9)=true:=(by simpa using w);subst c;clear hst N X S a2;go_enter Tryz.func104,Tryz.ntmps104
    go_wp2_with (first
 | (go_at_call 14;(with_reducible refine qQe (f.o _ H.o) H fun F H=>?_))
 | (go_at_call 15;(with_reducible refine qQe (i.o _) H fun I H=>?_))
 | (go_at_call 39;(with_reducible refine qQe (z.o _ H.o) H fun Q H=>?_))
 | (go_at_call 130;(with_reducible refine (A.o _).mono ?_);rintro J U ⟨rfl,B⟩;have H:=lH (Bt H.o B);have T:=y.o _ H.o;clear B))
    go_ret
    exact ⟨rfl,H.o⟩
   ·rw [if_neg hk] at c
    have e:decide (1<=k)=false∨(decide (1<=k)=true/\decide (k<=9)=false):=by
     by_cases K:1<=k
     ·exact .inr ⟨by simpa using K,by simp;omega⟩
     ·exact .inl (by simpa using K)
    clear hk a2
    by_cases M:r=4
    ·subst M
     rw [if_pos rfl] at c
     clear hst N X S
     by_cases G:t=h1T
     ·rw [if_pos G] at c
      subst c G
      have a7:(h1T==[104,49])=true:=by decide
      unfold h1T at *
      rcases e with K | ⟨K,w⟩
      all_goals
       go_enter Tryz.func104,Tryz.ntmps104
       go_wp2_with (first
 | (go_at_call 14;(with_reducible refine qQe (f.o _ H.o) H fun F H=>?_))
 | (go_at_call 15;(with_reducible refine qQe (i.o _) H fun I H=>?_))
 | (go_at_call 39;(with_reducible refine qQe (z.o _ H.o) H fun Q H=>?_))
 | (go_at_call 130;(with_reducible refine (A.o _).mono ?_);rintro J U ⟨rfl,B⟩;have H:=lH (Bt H.o B);have T:=y.o _ H.o;clear B))
       go_ret
       exact ⟨rfl,H.o⟩
     ·rw [if_neg G] at c
      have a7:(t==[104,49])=false:=by
       have:(t==h1T)=false:=(by simpa using G);exact this
      by_cases s:t=h3T
      ·rw [if_pos s] at c
       have a8:(t==[104,51])=true:=by rw [s];decide
       subst c
       clear G s
       rcases e with K | ⟨K,w⟩
       all_goals
        go_enter Tryz.func104,Tryz.ntmps104
        go_wp2_with (first
 | (go_at_call 14;(with_reducible refine qQe (f.o _ H.o) H fun F H=>?_))
 | (go_at_call 15;(with_reducible refine qQe (i.o _) H fun I H=>?_))
 | (go_at_call 39;(with_reducible refine qQe (z.o _ H.o) H fun Q H=>?_))
 | (go_at_call 130;(with_reducible refine (A.o _).mono ?_);rintro J U ⟨rfl,B⟩;have H:=lH (Bt H.o B);have T:=y.o _ H.o;clear B))
        go_ret
        exact ⟨rfl,H.o⟩
      ·rw [if_neg s] at c
       have a8:(t==[104,51])=false:=by
        have:(t==h3T)=false:=(by simpa using s);exact this
       subst c
       clear G s
       rcases e with K | ⟨K,w⟩
       all_goals
        go_enter Tryz.func104,Tryz.ntmps104
        go_wp2_with (first
 | (go_at_call 14;(with_reducible refine qQe (f.o _ H.o) H fun F H=>?_))
 | (go_at_call 15;(with_reducible refine qQe (i.o _) H fun I H=>?_))
 | (go_at_call 39;(with_reducible refine qQe (z.o _ H.o) H fun Q H=>?_))
 | (go_at_call 130;(with_reducible refine (A.o _).mono ?_);rintro J U ⟨rfl,B⟩;have H:=lH (Bt H.o B);have T:=y.o _ H.o;clear B))
        go_ret
        exact ⟨rfl,H.o⟩
    ·rw [if_neg M] at c
     subst c
     have am:(r==4)=false:=by simpa using M
     clear M
     have a4:=lH hst
     have a3:=lH N
     clear hst N
     generalize cntM d C r (p:Int)=ct at *
     rcases e with K | ⟨K,w⟩
     all_goals
      go_enter Tryz.func104,Tryz.ntmps104
      go_upto_region 16 with (first
 | (go_at_call 14;(with_reducible refine qQe (f.o _ H.o) H fun F H=>?_))
 | (go_at_call 15;(with_reducible refine qQe (i.o _) H fun I H=>?_))
 | (go_at_call 39;(with_reducible refine qQe (z.o _ H.o) H fun Q H=>?_))
 | (go_at_call 130;(with_reducible refine (A.o _).mono ?_);rintro J U ⟨rfl,B⟩;have H:=lH (Bt H.o B);have T:=y.o _ H.o;clear B))
      go_wp2_with (go_at_call 81;(with_reducible refine qQe (Z.o _ H.o (p:Int)) H fun w5 H=>?_))
      go_loopw [12,11] (fun a1 ah wr=>∃ (x:Int) (j:Nat),a1=.int .i64 x/\ah=.int .i64 j/\j+cntM d C r x=ct/\Bel W wr) (fun a1 _ _=>zKe μ (intOf a1))
      case atStart=>exact ⟨_,1,rfl,rfl,by have:=a4.o;omega,H.o⟩
      case round=>
      obtain ⟨x,j,rfl,rfl,hj,hB⟩:=hrel
      have H:=lH hB
      have V:=lH hj
      have an:j<=100:=by have:=a3.o;omega
      clear hB hj
      by_cases q:0<=x
      ·have HX:=lH (X.o r q)
       by_cases O:qQd d x=r
       ·have hb:(qQd d x==r)=true:=by simpa using O
        have hc:decide (qQd d x=r)=true:=by simpa using O
        go_wp2_with (first
 | (go_at_call 14;(with_reducible refine qQe (Y.o _ H.o x) H fun w6 H=>?_))
 | (go_at_call 81;(with_reducible refine qQe (Z.o _ H.o x) H fun w7 H=>?_)))
        go_roundw
        case rel=>exact ⟨inM d C x,j+1,rfl,by go_num,by have D:=HX.o;rw [hb,if_pos rfl] at D;have:=V.o;omega,H.o⟩
        case measure=>exact qDf q (fun o=>S.o.up x q o)
       ·have hb:(qQd d x==r)=false:=by simpa using O
        have hc:decide (qQd d x=r)=false:=by simpa using O
        go_wp2_with (first
 | (go_at_call 14;(with_reducible refine qQe (Y.o _ H.o x) H fun w6 H=>?_))
 | (go_at_call 81;(with_reducible refine qQe (Z.o _ H.o x) H fun w7 H=>?_)))
        go_roundw
        case rel=>exact ⟨inM d C x,j,rfl,by go_num,by have D:=HX.o;rw [hb,if_neg (by simp)] at D;have:=V.o;omega,H.o⟩
        case measure=>exact qDf q (fun o=>S.o.up x q o)
      ·have he:ct=j:=by have D:=V.o;rw [cntM_neg (by omega)] at D;omega
       subst he
       go_wp2
       go_ret
       exact ⟨rfl,H.o⟩
theorem zYn (r:Int):(kOf r).checked=(r==9):=by
 have a:(r=1∨r=2∨r=3∨r=4∨r=5∨r=6∨r=7∨r=8∨r=9∨r=10∨r=11∨r=12∨r=13∨r=14∨r=15∨r=16∨r=17∨r=18)∨(r<1∨18<r):=by omega
 rcases a with (rfl | rfl | rfl | rfl | rfl | rfl | rfl | rfl | rfl | rfl | rfl | rfl | rfl | rfl | rfl | rfl | rfl | rfl) | h;all_goals first
  | rfl
  | (have H:(r==9)=false:=by simp;omega
     rw [H]
     unfold kOf
     repeat rw [if_neg (by omega)])
theorem qH2 (m:Nat) (v:Value) (d:Dc) (n:Int) (W:World) (hv:qZh m W v d) (hm:m<=W.heap.size) (g:Good d) :
 Calls Tryz.prog 105 #[v,.int .i64 n] W (Rb (.int .i64 (qK8 d n)) W):=by
 have P:=zYq;have k:Hi (∀ a,Bel W a->Calls Tryz.prog 14 #[v,.int .i64 n] a (Rb (.int .i64 (qQd d n)) a)):=lH (fun a h=>qKa m v d n a (hv.later h hm) (Za hm h.size) g);have c:=lH (qKt (qQd d n));have i:Hi (∀ a,Bel W a->Calls Tryz.prog 39 #[v,.int .i64 n,.string ⟨#[97,114,105,97,45,99,104,101,99,107,101,100]⟩] a (Rb (.tuple #[.string ⟨(said d n qVh).toArray⟩,.bool (hasA d n qVh)]) a)):=lH (fun a h=>qZv m v d n qVh a (hv.later h hm) (Za hm h.size));have j:Hi (∀ a,Bel W a->Calls Tryz.prog 39 #[v,.int .i64 n,.string ⟨#[99,104,101,99,107,101,100]⟩] a (Rb (.tuple #[.string ⟨(said d n chkT).toArray⟩,.bool (hasA d n chkT)]) a)):=lH (fun a h=>qZv m v d n chkT a (hv.later h hm) (Za hm h.size));have J:=qJp g n qVh;have M:(sq d n qVh).length<=60:=Za (qWo g n qVh) (by omega);have q:Hi (∀ a,Calls Tryz.prog 68 #[.string ⟨(said d n qVh).toArray⟩] a (Rb (.string ⟨(sq d n qVh).toArray⟩) a)):=lH (fun W=>qJf (said d n qVh) W (by omega));have o:=lH (fun W=>qBh (sq d n qVh) W (by omega));have l:=zYn (qQd d n);obtain ⟨R,b⟩:∃ x,x=qK8 d n:=⟨_,rfl⟩;rw [<- b];unfold qK8 at b;obtain ⟨va,vc,rfl,_,_⟩:=Rf hv;have H:=lH (Br W);clear J M hv;generalize F:kOf (qQd d n)=N at *
 clear F;obtain ⟨X,Q,T,U,K,V,Y⟩:=N;simp only at l c;generalize said d n qVh=sd at *
 generalize sq d n qVh=S at *
 generalize I:qKd S=s at *
 clear I;generalize hasA d n qVh=O at *
 generalize said d n chkT=Z at *
 generalize hasA d n chkT=B at *
 generalize qQd d n=r at *
 by_cases f:r=9
 ·rw [if_neg (by simpa using f)] at b;have A:K=true:=by rw [l];simpa using f
  subst A;clear l f;by_cases G:s=qGx
  ·have D:(s==[116,114,117,101])=true:=(by rw [G];decide);rw [if_pos G] at b;subst b;clear G;go_enter Tryz.func105,Tryz.ntmps105
   go_wp2_with (first
 | (go_at_call 14;(with_reducible refine qQe (k.o _ H.o) H fun w H=>?_))
 | (go_at_call 15;(with_reducible refine qQe (c.o _) H fun p H=>?_))
 | (go_at_call 39;(with_reducible refine qQe (i.o _ H.o) H fun t H=>?_))
 | (go_at_call 68;(with_reducible refine qQe (q.o _) H fun u H=>?_))
 | (go_at_call 65;(with_reducible refine qQe (o.o _) H fun y H=>?_))
 | (go_at_call 39;(with_reducible refine qQe (j.o _ H.o) H fun z H=>?_)))
   go_ret
   exact ⟨rfl,H.o⟩
  ·have D:(s==[116,114,117,101])=false:=by
    have:(s==qGx)=false:=(by simpa using G);exact this
   rw [if_neg G] at b
   clear G
   by_cases e:s=zDg
   ·have E:(s==[109,105,120,101,100])=true:=by rw [e];decide
    rw [if_pos e] at b
    subst b
    clear e
    go_enter Tryz.func105,Tryz.ntmps105
    go_wp2_with (first
 | (go_at_call 14;(with_reducible refine qQe (k.o _ H.o) H fun w H=>?_))
 | (go_at_call 15;(with_reducible refine qQe (c.o _) H fun p H=>?_))
 | (go_at_call 39;(with_reducible refine qQe (i.o _ H.o) H fun t H=>?_))
 | (go_at_call 68;(with_reducible refine qQe (q.o _) H fun u H=>?_))
 | (go_at_call 65;(with_reducible refine qQe (o.o _) H fun y H=>?_))
 | (go_at_call 39;(with_reducible refine qQe (j.o _ H.o) H fun z H=>?_)))
    go_ret
    exact ⟨rfl,H.o⟩
   ·have E:(s==[109,105,120,101,100])=false:=by
     have:(s==zDg)=false:=(by simpa using e);exact this
    rw [if_neg e] at b
    clear e
    cases B with
    | true=>
      rw [if_pos rfl] at b;subst b;go_enter Tryz.func105,Tryz.ntmps105
      go_wp2_with (first
 | (go_at_call 14;(with_reducible refine qQe (k.o _ H.o) H fun w H=>?_))
 | (go_at_call 15;(with_reducible refine qQe (c.o _) H fun p H=>?_))
 | (go_at_call 39;(with_reducible refine qQe (i.o _ H.o) H fun t H=>?_))
 | (go_at_call 68;(with_reducible refine qQe (q.o _) H fun u H=>?_))
 | (go_at_call 65;(with_reducible refine qQe (o.o _) H fun y H=>?_))
 | (go_at_call 39;(with_reducible refine qQe (j.o _ H.o) H fun z H=>?_)))
      go_ret
      exact ⟨rfl,H.o⟩
    | false=>
      rw [if_neg (by simp)] at b;subst b;go_enter Tryz.func105,Tryz.ntmps105
      go_wp2_with (first
 | (go_at_call 14;(with_reducible refine qQe (k.o _ H.o) H fun w H=>?_))
 | (go_at_call 15;(with_reducible refine qQe (c.o _) H fun p H=>?_))
 | (go_at_call 39;(with_reducible refine qQe (i.o _ H.o) H fun t H=>?_))
 | (go_at_call 68;(with_reducible refine qQe (q.o _) H fun u H=>?_))
 | (go_at_call 65;(with_reducible refine qQe (o.o _) H fun y H=>?_))
 | (go_at_call 39;(with_reducible refine qQe (j.o _ H.o) H fun z H=>?_)))
      go_ret
      exact ⟨rfl,H.o⟩
 ·rw [if_pos f] at b;have A:K=false:=by rw [l];simpa using f
  subst A b;clear l f;go_enter Tryz.func105,Tryz.ntmps105
  go_wp2_with (first
 | (go_at_call 14;(with_reducible refine qQe (k.o _ H.o) H fun w H=>?_))
 | (go_at_call 15;(with_reducible refine qQe (c.o _) H fun p H=>?_))
 | (go_at_call 39;(with_reducible refine qQe (i.o _ H.o) H fun t H=>?_))
 | (go_at_call 68;(with_reducible refine qQe (q.o _) H fun u H=>?_))
 | (go_at_call 65;(with_reducible refine qQe (o.o _) H fun y H=>?_))
 | (go_at_call 39;(with_reducible refine qQe (j.o _ H.o) H fun z H=>?_)))
  go_ret
  exact ⟨rfl,H.o⟩

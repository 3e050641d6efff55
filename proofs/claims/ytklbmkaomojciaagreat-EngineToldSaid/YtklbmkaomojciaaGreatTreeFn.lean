/- tree's zWw functions, walked: the level of an element, and whether it is checked. -/
import Derived.Test.YtklbmkaomojciaaGreatNamOf
set_option maxRecDepth 100000
set_option maxHeartbeats 4000000
namespace Go.Proofs.YtklbmkaomojciaaGreat
open Go.RowKit
def cntM (d:Dc) (C:List Clm) (r:Int) (n:Int):Nat:=(qZ6 (inM d C) 100 n).countP (fun a=>qQd d a==r)
section
variable {d:Dc} {C:List Clm}
theorem zBm (up:Int->Int):∀ (f:Nat) (n:Int),(qZ6 up f n).length<=f:=by
 intro f
 induction f with
 | zero=>intro n;exact Zb _
 | succ f ih=>
   intro n
   rw [qZ6]
   split
   ·exact Nat.zero_le _
   ·rw [Zm];have:=ih (up n);omega
theorem cntM_le (r n:Int):cntM d C r n<=100:=Za List.countP_le_length (zBm _ _ _)
theorem cntM_neg {r n:Int} (h:n<0):cntM d C r n=0:=by
 unfold cntM
 have e:qZ6 (inM d C) 100 n=[]:=by rw [qZ6,if_pos h]
 rw [e];rfl
theorem zJn (g:Good d) (h:ClmOk d C) {r n:Int} (hn:0<=n):cntM d C r n=cntM d C r (inM d C n)+if qQd d n==r then 1 else 0:=by
 obtain ⟨μ,R,hμ⟩:=h.tight g
 unfold cntM
 rw [<- zVy R 100 n (hμ n)]
 have e:qZ6 (inM d C) (100+1) n=n::qZ6 (inM d C) 100 (inM d C n):=by
  have e1:∀ f n,qZ6 (inM d C) (f+1) n=if n<0 then [] else n::qZ6 (inM d C) f (inM d C n):=fun _ _=>rfl
  rw [e1 100 n,if_neg (by omega)]
 rw [e,List.countP_cons]
theorem level_el (g:Good d) {n:Int} (h:(kOf (qQd d n)).level=true∨(kOf (qQd d n)).checked=true):isM d n true=true:=by
 cases hf:isM d n false with
 | false=>
   rw [zVf hf] at h
   rcases h with h | h <;> exact absurd h (by decide)
 | true=>
   cases ht:isM d n true with
   | true=>rfl
   | false=>
     have htag:(nd d n).tag=[]:=by
      cases e:(nd d n).tag with
      | nil=>rfl
      | cons a l=>
        have:isM d n true=true:=by
         simp [isM] at hf ⊢
         exact ⟨hf,by rw [e];simp⟩
        rw [ht] at this
        simp at this
     have hr:qQd d n=10:=zG9 g hf htag
     rw [hr] at h
     rcases h with h | h <;> exact absurd h (by decide)
end
theorem zXp (a0 a1 a2 a3 a4 a5 a6:Value) (w:World):(Instr.field 45 (.agg #[a0,a1,a2,a3,a4,a5,a6]) 3).run Tryz.prog w=.ok a3 w:=by kernel_rfl
theorem zX3 (a0 a1 a2 a3 a4 a5 a6:Value) (w:World):(Instr.field 45 (.agg #[a0,a1,a2,a3,a4,a5,a6]) 4).run Tryz.prog w=.ok a4 w:=by kernel_rfl
theorem qDg (m:Nat) (v u:Value) (d:Dc) (C:List Clm) (n:Int) (W:World) (hv:qZb m W v d) (hu:qQa 2 qVh (·<m) W u C) (hm:m<=W.heap.size) (g:Good d) (hC:ClmOk d C) :
 Calls Tryz.prog 36 #[v,u,.int .i64 n] W (Rb (.int .i64 (qDa d C n)) W):=by
 have hf3:=zXp
 obtain ⟨R,hR⟩:∃ x,x=qDa d C n:=⟨_,rfl⟩
 rw [<- hR]
 unfold qDa at hR
 cases hl:(kOf (qQd d n)).level with
 | false=>
   rw [hl,if_pos rfl] at hR
   subst hR
   have cRn:=lH (qKq m v d n W hv hm g)
   have cKi:=lH (qXc (qQd d n))
   rw [hl] at cKi
   obtain ⟨va,vc,rfl,_,_⟩:=Rf hv
   obtain ⟨ua,uc,rfl,_,_⟩:=Rf hu
   clear hl
   generalize hkk:kOf (qQd d n)=kk at *
   clear hkk
   obtain ⟨kname,kcont,kleaf,klev,kchk,knam,kneed⟩:=kk
   generalize qQd d n=r at *
   go_enter Tryz.func36,Tryz.ntmps36
   go_wp2_with (first
 | (go_at_call 59;(with_reducible refine qKb (cRn.o) fun w1 HB=>?_))
 | (go_at_call 58;(with_reducible refine qQe (cKi.o _) HB fun w2 HB=>?_)))
   go_ret
   exact ⟨rfl,HB.o⟩
 | true=>
   rw [hl,if_neg (by simp)] at hR
   have hi:=level_el g (.inl hl)
   obtain ⟨p,hp,rfl,-⟩:=qQz.1 (qZr hi)
   have hvv:=hv
   obtain ⟨b,off,cap,av,kv,sv,rfl,v1,v2,hbb,hN⟩:=hv.node p hp
   obtain ⟨ua,uc,rfl,u1,u2⟩:=Rf hu
   have cRo:Hi (∀ W',Bel W W'->∀ x,Calls Tryz.prog 59 #[.slice (some ⟨b,off,none⟩) d.length cap,.int .i64 x] W' (Rb (.int .i64 (qQd d x)) W')):=lH (fun W' h x=>qKq m _ d x W' (hvv.later h hm) (Za hm h.size) g)
   have cUp:Hi (∀ W',Bel W W'->∀ x,Calls Tryz.prog 78 #[.slice (some ⟨b,off,none⟩) d.length cap,.slice ua C.length uc,.int .i64 x] W' (Rb (.int .i64 (inM d C x)) W')):=lH (fun W' h x=>qGe m _ _ d C x W' (hvv.later h hm) (hu.later qZh h hm) (Za hm h.size) g)
   have cAt:Hi (∀ W',Bel W W'->Calls Tryz.prog 76 #[.slice (some ⟨b,off,none⟩) d.length cap,.int .i64 (p:Int),.string ⟨#[97,114,105,97,45,108,101,118,101,108]⟩] W' (Rb (.tuple #[.string ⟨(said d (p:Int) alvlT).toArray⟩,.bool (hasA d (p:Int) alvlT)]) W')):=lH (fun W' h=>qZo m _ d (p:Int) alvlT W' (hvv.later h hm) (Za hm h.size))
   have HTG:Hi (∀ w',Bel W w'->w'.cell? ⟨b,off+p*9+1,none⟩=some (.string ⟨d[p].tag.toArray⟩)):=lH (fun w' hW=>zYw (hvv.later hW hm) hp)
   have cKi:=lH (qXc (qQd d (p:Int)))
   rw [hl] at cKi
   have hsl:=qJn g (p:Int) alvlT
   have cNu:=lH (fun W=>zHo (said d (p:Int) alvlT) W (by omega))
   obtain ⟨μ,RS,-⟩:=hC.tight g
   have HRS:=lH RS
   have cRn:=lH (fun W' h=>cRo.o W' h (p:Int))
   have hst:=zJn g hC (r:=qQd d (p:Int)) (n:=(p:Int)) (by omega)
   have HST:=lH (fun (r:Int) {x:Int} (hx:0<=x)=>zJn g hC (r:=r) hx)
   rw [if_pos (by simp)] at hst
   have hle:=cntM_le (d:=d) (C:=C) (qQd d (p:Int)) (p:Int)
   rw [qQ2 hp] at hR
   have hR2:R=if 1<=num (said d (p:Int) alvlT)/\num (said d (p:Int) alvlT)<=9 then num (said d (p:Int) alvlT) else if qQd d (p:Int)=4 then (if d[p].tag=h1T then 1 else if d[p].tag=h3T then 3 else 2) else ((cntM d C (qQd d (p:Int)) (p:Int):Nat):Int):=hR
   clear hR hN hsl RS hvv hl hi
   generalize hkk:kOf (qQd d (p:Int))=kk at *
   clear hkk
   obtain ⟨kname,kcont,kleaf,klev,kchk,knam,kneed⟩:=kk
   generalize num (said d (p:Int) alvlT)=k at *
   generalize said d (p:Int) alvlT=sd at *
   generalize hasA d (p:Int) alvlT=sh at *
   generalize hTg:d[p].tag=tg at *
   clear hTg
   generalize qQd d (p:Int)=r at *
   have HB:=lH (Br W)
   have hkc:(1<=k/\k<=9)∨(1<=k/\¬ k<=9)∨¬ 1<=k:=by omega
   have hpz:(p:Int)<(d.length:Int):=by omega
   by_cases hk:1<=k/\k<=9
   ·obtain ⟨k1,k2⟩:=hk
    rw [if_pos ⟨k1,k2⟩] at hR2
    have hd1:decide (1<=k)=true:=by simpa using k1
    have hd2:decide (k<=9)=true:=by simpa using k2
    subst hR2
    clear hst hle HST HRS hkc
    go_enter Tryz.func36,Tryz.ntmps36
    go_wp2_with (first
 | (go_at_call 59;(with_reducible refine qQe (cRn.o _ HB.o) HB fun w1 HB=>?_))
 | (go_at_call 58;(with_reducible refine qQe (cKi.o _) HB fun w2 HB=>?_))
 | (go_at_call 76;(with_reducible refine qQe (cAt.o _ HB.o) HB fun w3 HB=>?_))
 | (go_at_call 77;(with_reducible refine (cNu.o _).mono ?_);rintro e1 w4 ⟨rfl,b4⟩;have HB:=lH (Bt HB.o b4);have t1:=HTG.o _ HB.o;clear b4))
    go_ret
    exact ⟨rfl,HB.o⟩
   ·rw [if_neg hk] at hR2
    have hkk:decide (1<=k)=false∨(decide (1<=k)=true/\decide (k<=9)=false):=by
     by_cases k1:1<=k
     ·exact .inr ⟨by simpa using k1,by simp;omega⟩
     ·exact .inl (by simpa using k1)
    clear hk hkc
    by_cases h4:r=4
    ·subst h4
     rw [if_pos rfl] at hR2
     clear hst hle HST HRS
     by_cases g1:tg=h1T
     ·rw [if_pos g1] at hR2
      subst hR2 g1
      have hg1:(h1T==[104,49])=true:=by decide
      unfold h1T at *
      rcases hkk with k1 | ⟨k1,k2⟩
      all_goals
       go_enter Tryz.func36,Tryz.ntmps36
       go_wp2_with (first
 | (go_at_call 59;(with_reducible refine qQe (cRn.o _ HB.o) HB fun w1 HB=>?_))
 | (go_at_call 58;(with_reducible refine qQe (cKi.o _) HB fun w2 HB=>?_))
 | (go_at_call 76;(with_reducible refine qQe (cAt.o _ HB.o) HB fun w3 HB=>?_))
 | (go_at_call 77;(with_reducible refine (cNu.o _).mono ?_);rintro e1 w4 ⟨rfl,b4⟩;have HB:=lH (Bt HB.o b4);have t1:=HTG.o _ HB.o;clear b4))
       go_ret
       exact ⟨rfl,HB.o⟩
     ·rw [if_neg g1] at hR2
      have hg1:(tg==[104,49])=false:=by
       have:(tg==h1T)=false:=by simpa using g1
       exact this
      by_cases g2:tg=h3T
      ·rw [if_pos g2] at hR2
       have hg2:(tg==[104,51])=true:=by rw [g2];decide
       subst hR2
       clear g1 g2
       rcases hkk with k1 | ⟨k1,k2⟩
       all_goals
        go_enter Tryz.func36,Tryz.ntmps36
        go_wp2_with (first
 | (go_at_call 59;(with_reducible refine qQe (cRn.o _ HB.o) HB fun w1 HB=>?_))
 | (go_at_call 58;(with_reducible refine qQe (cKi.o _) HB fun w2 HB=>?_))
 | (go_at_call 76;(with_reducible refine qQe (cAt.o _ HB.o) HB fun w3 HB=>?_))
 | (go_at_call 77;(with_reducible refine (cNu.o _).mono ?_);rintro e1 w4 ⟨rfl,b4⟩;have HB:=lH (Bt HB.o b4);have t1:=HTG.o _ HB.o;clear b4))
        go_ret
        exact ⟨rfl,HB.o⟩
      ·rw [if_neg g2] at hR2
       have hg2:(tg==[104,51])=false:=by
        have:(tg==h3T)=false:=by simpa using g2
        exact this
       subst hR2
       clear g1 g2
       rcases hkk with k1 | ⟨k1,k2⟩
       all_goals
        go_enter Tryz.func36,Tryz.ntmps36
        go_wp2_with (first
 | (go_at_call 59;(with_reducible refine qQe (cRn.o _ HB.o) HB fun w1 HB=>?_))
 | (go_at_call 58;(with_reducible refine qQe (cKi.o _) HB fun w2 HB=>?_))
 | (go_at_call 76;(with_reducible refine qQe (cAt.o _ HB.o) HB fun w3 HB=>?_))
 | (go_at_call 77;(with_reducible refine (cNu.o _).mono ?_);rintro e1 w4 ⟨rfl,b4⟩;have HB:=lH (Bt HB.o b4);have t1:=HTG.o _ HB.o;clear b4))
        go_ret
        exact ⟨rfl,HB.o⟩
    ·rw [if_neg h4] at hR2
     subst hR2
     have hg4:(r==4)=false:=by simpa using h4
     clear h4
     have HS0:=lH hst
     have HLE:=lH hle
     clear hst hle
     generalize cntM d C r (p:Int)=ct at *
     rcases hkk with k1 | ⟨k1,k2⟩
     all_goals
      go_enter Tryz.func36,Tryz.ntmps36
      go_upto_region 16 with (first
 | (go_at_call 59;(with_reducible refine qQe (cRn.o _ HB.o) HB fun w1 HB=>?_))
 | (go_at_call 58;(with_reducible refine qQe (cKi.o _) HB fun w2 HB=>?_))
 | (go_at_call 76;(with_reducible refine qQe (cAt.o _ HB.o) HB fun w3 HB=>?_))
 | (go_at_call 77;(with_reducible refine (cNu.o _).mono ?_);rintro e1 w4 ⟨rfl,b4⟩;have HB:=lH (Bt HB.o b4);have t1:=HTG.o _ HB.o;clear b4))
      go_wp2_with (go_at_call 78;(with_reducible refine qQe (cUp.o _ HB.o (p:Int)) HB fun w5 HB=>?_))
      go_loopw [12,11] (fun z y wr=>∃ (x:Int) (j:Nat),z=.int .i64 x/\y=.int .i64 j/\j+cntM d C r x=ct/\Bel W wr) (fun z _ _=>zKu μ (intOf z))
      case atStart=>exact ⟨_,1,rfl,rfl,by have:=HS0.o;omega,HB.o⟩
      case round=>
      obtain ⟨x,j,rfl,rfl,hj,hB⟩:=hrel
      have HB:=lH hB
      have HJ:=lH hj
      have hjl:j<=100:=by have:=HLE.o;omega
      clear hB hj
      by_cases hx:0<=x
      ·have HX:=lH (HST.o r hx)
       by_cases hq:qQd d x=r
       ·have hb:(qQd d x==r)=true:=by simpa using hq
        have hc:decide (qQd d x=r)=true:=by simpa using hq
        go_wp2_with (first
 | (go_at_call 59;(with_reducible refine qQe (cRo.o _ HB.o x) HB fun w6 HB=>?_))
 | (go_at_call 78;(with_reducible refine qQe (cUp.o _ HB.o x) HB fun w7 HB=>?_)))
        go_roundw
        case rel=>exact ⟨inM d C x,j+1,rfl,by go_num,by have h1:=HX.o;rw [hb,if_pos rfl] at h1;have:=HJ.o;omega,HB.o⟩
        case measure=>exact qFr hx (fun hu=>HRS.o.up x hx hu)
       ·have hb:(qQd d x==r)=false:=by simpa using hq
        have hc:decide (qQd d x=r)=false:=by simpa using hq
        go_wp2_with (first
 | (go_at_call 59;(with_reducible refine qQe (cRo.o _ HB.o x) HB fun w6 HB=>?_))
 | (go_at_call 78;(with_reducible refine qQe (cUp.o _ HB.o x) HB fun w7 HB=>?_)))
        go_roundw
        case rel=>exact ⟨inM d C x,j,rfl,by go_num,by have h1:=HX.o;rw [hb,if_neg (by simp)] at h1;have:=HJ.o;omega,HB.o⟩
        case measure=>exact qFr hx (fun hu=>HRS.o.up x hx hu)
      ·have he:ct=j:=by have h1:=HJ.o;rw [cntM_neg (by omega)] at h1;omega
       subst he
       go_wp2
       go_ret
       exact ⟨rfl,HB.o⟩
theorem zXw (r:Int):(kOf r).checked=(r==9):=by
 have hr:(r=1∨r=2∨r=3∨r=4∨r=5∨r=6∨r=7∨r=8∨r=9∨r=10∨r=11∨r=12∨r=13∨r=14∨r=15∨r=16∨r=17∨r=18)∨(r<1∨18<r):=by omega
 rcases hr with (rfl | rfl | rfl | rfl | rfl | rfl | rfl | rfl | rfl | rfl | rfl | rfl | rfl | rfl | rfl | rfl | rfl | rfl) | h
 all_goals first
  | rfl
  | (have hb:(r==9)=false:=by simp;omega
     rw [hb]
     unfold kOf
     repeat rw [if_neg (by omega)])
theorem qHr (m:Nat) (v:Value) (d:Dc) (n:Int) (W:World) (hv:qZb m W v d) (hm:m<=W.heap.size) (g:Good d) :
 Calls Tryz.prog 38 #[v,.int .i64 n] W (Rb (.int .i64 (qVd d n)) W):=by
 have hf4:=zX3
 have cRn:Hi (∀ W',Bel W W'->Calls Tryz.prog 59 #[v,.int .i64 n] W' (Rb (.int .i64 (qQd d n)) W')):=lH (fun W' h=>qKq m v d n W' (hv.later h hm) (Za hm h.size) g)
 have cKi:=lH (qXc (qQd d n))
 have cA1:Hi (∀ W',Bel W W'->Calls Tryz.prog 76 #[v,.int .i64 n,.string ⟨#[97,114,105,97,45,99,104,101,99,107,101,100]⟩] W' (Rb (.tuple #[.string ⟨(said d n qVc).toArray⟩,.bool (hasA d n qVc)]) W')):=lH (fun W' h=>qZo m v d n qVc W' (hv.later h hm) (Za hm h.size))
 have cA2:Hi (∀ W',Bel W W'->Calls Tryz.prog 76 #[v,.int .i64 n,.string ⟨#[99,104,101,99,107,101,100]⟩] W' (Rb (.tuple #[.string ⟨(said d n chkT).toArray⟩,.bool (hasA d n chkT)]) W')):=lH (fun W' h=>qZo m v d n chkT W' (hv.later h hm) (Za hm h.size))
 have hsl:=qJn g n qVc
 have hsq:(sq d n qVc).length<=60:=Za (qBo g n qVc) (by omega)
 have cSq:Hi (∀ W',Calls Tryz.prog 81 #[.string ⟨(said d n qVc).toArray⟩] W' (Rb (.string ⟨(sq d n qVc).toArray⟩) W')):=lH (fun W=>qJa (said d n qVc) W (by omega))
 have cLo:=lH (fun W=>qBj (sq d n qVc) W (by omega))
 have hck:=zXw (qQd d n)
 obtain ⟨R,hR⟩:∃ x,x=qVd d n:=⟨_,rfl⟩
 rw [<- hR]
 unfold qVd at hR
 obtain ⟨va,vc,rfl,_,_⟩:=Rf hv
 have HB:=lH (Br W)
 clear hsl hsq hv
 generalize hkk:kOf (qQd d n)=kk at *
 clear hkk
 obtain ⟨kname,kcont,kleaf,klev,kchk,knam,kneed⟩:=kk
 simp only at hck cKi
 generalize said d n qVc=sd at *
 generalize sq d n qVc=s2 at *
 generalize hlo:qJ5 s2=s3 at *
 clear hlo
 generalize hasA d n qVc=ha at *
 generalize said d n chkT=sc at *
 generalize hasA d n chkT=hc at *
 generalize qQd d n=r at *
 by_cases h9:r=9
 ·rw [if_neg (by simpa using h9)] at hR
  have hk9:kchk=true:=by rw [hck];simpa using h9
  subst hk9
  clear hck h9
  by_cases g1:s3=qGk
  ·have hg1:(s3==[116,114,117,101])=true:=by rw [g1];decide
   rw [if_pos g1] at hR
   subst hR
   clear g1
   go_enter Tryz.func38,Tryz.ntmps38
   go_wp2_with (first
 | (go_at_call 59;(with_reducible refine qQe (cRn.o _ HB.o) HB fun w1 HB=>?_))
 | (go_at_call 58;(with_reducible refine qQe (cKi.o _) HB fun w2 HB=>?_))
 | (go_at_call 76;(with_reducible refine qQe (cA1.o _ HB.o) HB fun w3 HB=>?_))
 | (go_at_call 81;(with_reducible refine qQe (cSq.o _) HB fun w4 HB=>?_))
 | (go_at_call 80;(with_reducible refine qQe (cLo.o _) HB fun w5 HB=>?_))
 | (go_at_call 76;(with_reducible refine qQe (cA2.o _ HB.o) HB fun w6 HB=>?_)))
   go_ret
   exact ⟨rfl,HB.o⟩
  ·have hg1:(s3==[116,114,117,101])=false:=by
    have:(s3==qGk)=false:=by simpa using g1
    exact this
   rw [if_neg g1] at hR
   clear g1
   by_cases g2:s3=zB5
   ·have hg2:(s3==[109,105,120,101,100])=true:=by rw [g2];decide
    rw [if_pos g2] at hR
    subst hR
    clear g2
    go_enter Tryz.func38,Tryz.ntmps38
    go_wp2_with (first
 | (go_at_call 59;(with_reducible refine qQe (cRn.o _ HB.o) HB fun w1 HB=>?_))
 | (go_at_call 58;(with_reducible refine qQe (cKi.o _) HB fun w2 HB=>?_))
 | (go_at_call 76;(with_reducible refine qQe (cA1.o _ HB.o) HB fun w3 HB=>?_))
 | (go_at_call 81;(with_reducible refine qQe (cSq.o _) HB fun w4 HB=>?_))
 | (go_at_call 80;(with_reducible refine qQe (cLo.o _) HB fun w5 HB=>?_))
 | (go_at_call 76;(with_reducible refine qQe (cA2.o _ HB.o) HB fun w6 HB=>?_)))
    go_ret
    exact ⟨rfl,HB.o⟩
   ·have hg2:(s3==[109,105,120,101,100])=false:=by
     have:(s3==zB5)=false:=by simpa using g2
     exact this
    rw [if_neg g2] at hR
    clear g2
    cases hc with
    | true=>
      rw [if_pos rfl] at hR
      subst hR
      go_enter Tryz.func38,Tryz.ntmps38
      go_wp2_with (first
 | (go_at_call 59;(with_reducible refine qQe (cRn.o _ HB.o) HB fun w1 HB=>?_))
 | (go_at_call 58;(with_reducible refine qQe (cKi.o _) HB fun w2 HB=>?_))
 | (go_at_call 76;(with_reducible refine qQe (cA1.o _ HB.o) HB fun w3 HB=>?_))
 | (go_at_call 81;(with_reducible refine qQe (cSq.o _) HB fun w4 HB=>?_))
 | (go_at_call 80;(with_reducible refine qQe (cLo.o _) HB fun w5 HB=>?_))
 | (go_at_call 76;(with_reducible refine qQe (cA2.o _ HB.o) HB fun w6 HB=>?_)))
      go_ret
      exact ⟨rfl,HB.o⟩
    | false=>
      rw [if_neg (by simp)] at hR
      subst hR
      go_enter Tryz.func38,Tryz.ntmps38
      go_wp2_with (first
 | (go_at_call 59;(with_reducible refine qQe (cRn.o _ HB.o) HB fun w1 HB=>?_))
 | (go_at_call 58;(with_reducible refine qQe (cKi.o _) HB fun w2 HB=>?_))
 | (go_at_call 76;(with_reducible refine qQe (cA1.o _ HB.o) HB fun w3 HB=>?_))
 | (go_at_call 81;(with_reducible refine qQe (cSq.o _) HB fun w4 HB=>?_))
 | (go_at_call 80;(with_reducible refine qQe (cLo.o _) HB fun w5 HB=>?_))
 | (go_at_call 76;(with_reducible refine qQe (cA2.o _ HB.o) HB fun w6 HB=>?_)))
      go_ret
      exact ⟨rfl,HB.o⟩
 ·rw [if_pos h9] at hR
  have hk9:kchk=false:=by rw [hck];simpa using h9
  subst hk9 hR
  clear hck h9
  go_enter Tryz.func38,Tryz.ntmps38
  go_wp2_with (first
 | (go_at_call 59;(with_reducible refine qQe (cRn.o _ HB.o) HB fun w1 HB=>?_))
 | (go_at_call 58;(with_reducible refine qQe (cKi.o _) HB fun w2 HB=>?_))
 | (go_at_call 76;(with_reducible refine qQe (cA1.o _ HB.o) HB fun w3 HB=>?_))
 | (go_at_call 81;(with_reducible refine qQe (cSq.o _) HB fun w4 HB=>?_))
 | (go_at_call 80;(with_reducible refine qQe (cLo.o _) HB fun w5 HB=>?_))
 | (go_at_call 76;(with_reducible refine qQe (cA2.o _ HB.o) HB fun w6 HB=>?_)))
  go_ret
  exact ⟨rfl,HB.o⟩
end Go.Proofs.YtklbmkaomojciaaGreat

/- Elements' roles, and what is hidden, walked. -/
import Derived.Test.YthbhcdbedfimhaaGreatDoorKindsFind
import Derived.Test.YthbhcdbedfimhaaGreatDoorOwnsClaims
set_option maxRecDepth 100000
set_option maxHeartbeats 4000000
namespace Go.Proofs.YthbhcdbedfimhaaGreatDoor
open Go.RowKit
variable {d:Dc} {n:Int}
theorem qJo {m:Nat} {v:Value} {w:World} (hv:qZh m w v d) (hm:m<=w.heap.size) (n:Int) (s:Txt) (W:World) (h:Bel w W) :
 Calls Tryz.prog 53 #[v,.int .i64 n,.string ⟨s.toArray⟩] W (Rb (.tuple #[.string ⟨(said d n s).toArray⟩,.bool (hasA d n s)]) W):=qZx m v d n s W (hv.later h hm) (Za hm h.size)
theorem qKn (s:Txt) (h:s.length<=60) (W:World):Calls Tryz.prog 86 #[.string ⟨s.toArray⟩] W (Rb (.string ⟨(qQo s).toArray⟩) W):=qJg s W (by omega)
theorem zKl (s:Txt) (h:s.length<=60) (W:World):Calls Tryz.prog 83 #[.string ⟨s.toArray⟩] W (Rb (.string ⟨(qKh s).toArray⟩) W):=qBr s W (by omega)
theorem zD3 (g:Good d) (n:Int) (s:Txt):(sq d n s).length<=60:=Za (qVd _) (qJr g n s)
theorem qYu (m:Nat) (v:Value) (d:Dc) (n:Int) (w:World) (hv:qZh m w v d) (hm:m<=w.heap.size) (g:Good d) :
 Calls Tryz.prog 85 #[v,.int .i64 n] w (Rb (.bool (qZr d n)) w):=by
 have c:=lH (qJo hv hm n labelT);have C:=lH (qJo hv hm n qJz);have a:=lH (qKn (said d n labelT) (qJr g _ _));have e:=lH (qKn (said d n qJz) (qJr g _ _));have h:qZr d n=(!(qQo (said d n labelT)).isEmpty||!(qQo (said d n qJz)).isEmpty):=rfl;rw [h];obtain ⟨s,t,rfl,V,r⟩:=Rf hv;clear h hv;generalize qQo (said d n labelT)=S at *
 generalize qQo (said d n qJz)=j at *
 generalize said d n labelT=A at *
 generalize said d n qJz=B at *
 generalize hasA d n labelT=l at *
 generalize hasA d n qJz=o at *
 have H:=lH (Br w);have F:∀ (b:Bool),(S.isEmpty=b∨S.isEmpty=!b):=fun b=>by cases b <;> cases S <;> simp
 clear F;cases p:S.isEmpty with
 | false=>
   go_enter Tryz.func85,Tryz.ntmps85
   go_wp2_with (first
 | (go_at_call 53;refine qQf (c.o _ H.o) H fun W H=>?_;clear c)
 | (go_at_call 53;refine qQf (C.o _ H.o) H fun f H=>?_;clear C)
 | (go_at_call 86;refine qQf (a.o _) H fun i H=>?_;clear a))
   go_ret
   exact ⟨rfl,H.o⟩
 | true=>
   cases q:j.isEmpty with
   | false=>
     go_enter Tryz.func85,Tryz.ntmps85
     go_wp2_with (first
 | (go_at_call 53;refine qQf (c.o _ H.o) H fun W H=>?_;clear c)
 | (go_at_call 53;refine qQf (C.o _ H.o) H fun f H=>?_;clear C)
 | (go_at_call 86;refine qQf (a.o _) H fun i H=>?_;clear a)
 | (go_at_call 86;refine qQf (e.o _) H fun k H=>?_;clear e))
     go_ret
     exact ⟨rfl,H.o⟩
   | true=>
     go_enter Tryz.func85,Tryz.ntmps85
     go_wp2_with (first
 | (go_at_call 53;refine qQf (c.o _ H.o) H fun W H=>?_;clear c)
 | (go_at_call 53;refine qQf (C.o _ H.o) H fun f H=>?_;clear C)
 | (go_at_call 86;refine qQf (a.o _) H fun i H=>?_;clear a)
 | (go_at_call 86;refine qQf (e.o _) H fun k H=>?_;clear e))
     go_ret
     exact ⟨rfl,H.o⟩
theorem zJ3 (m:Nat) (v:Value) (d:Dc) (n:Int) (w:World) (hv:qZh m w v d) (hm:m<=w.heap.size) (g:Good d) :
 Calls Tryz.prog 136 #[v,.int .i64 n] w (Rb (.bool (offM d n)) w):=by
 have c:=lH (qJo hv hm n qDe);have C:=lH (qJo hv hm n qXz);have e:=lH (qKn (said d n qXz) (qJr g _ _));have b:=lH (zKl (qQo (said d n qXz)) (zD3 g _ _));have f:offM d n=(hasA d n qDe||decide (qKh (qQo (said d n qXz))=qFh)):=rfl;rw [f];obtain ⟨s,t,rfl,V,r⟩:=Rf hv;clear f hv;generalize qKh (qQo (said d n qXz))=S at *
 generalize qQo (said d n qXz)=p at *
 generalize said d n qXz=A at *
 generalize said d n qDe=B at *
 generalize hasA d n qDe=j at *
 generalize hasA d n qXz=q at *
 have H:=lH (Br w);cases j with
 | true=>
   go_enter Tryz.func136,Tryz.ntmps136
   go_wp2_with (first
 | (go_at_call 53;refine qQf (c.o _ H.o) H fun W H=>?_;clear c)
 | (go_at_call 53;refine qQf (C.o _ H.o) H fun i H=>?_;clear C))
   go_ret
   exact ⟨rfl,H.o⟩
 | false=>
   by_cases h:S=qFh
   ·have k:(S==[116,114,117,101])=true:=(by rw [h];rfl);have a:decide (S=qFh)=true:=(by simp [h]);rw [a];clear h a;go_enter Tryz.func136,Tryz.ntmps136
    go_wp2_with (first
 | (go_at_call 53;refine qQf (c.o _ H.o) H fun W H=>?_;clear c)
 | (go_at_call 53;refine qQf (C.o _ H.o) H fun i H=>?_;clear C)
 | (go_at_call 86;refine qQf (e.o _) H fun l H=>?_;clear e)
 | (go_at_call 83;refine qQf (b.o _) H fun o H=>?_;clear b))
    go_ret
    exact ⟨rfl,H.o⟩
   ·have k:(S==[116,114,117,101])=false:=by
     have:(S==qFh)=false:=(by simpa using h);exact this
    have a:decide (S=qFh)=false:=by simp [h]
    rw [a]
    clear h a
    go_enter Tryz.func136,Tryz.ntmps136
    go_wp2_with (first
 | (go_at_call 53;refine qQf (c.o _ H.o) H fun W H=>?_;clear c)
 | (go_at_call 53;refine qQf (C.o _ H.o) H fun i H=>?_;clear C)
 | (go_at_call 86;refine qQf (e.o _) H fun l H=>?_;clear e)
 | (go_at_call 83;refine qQf (b.o _) H fun o H=>?_;clear b))
    go_ret
    exact ⟨rfl,H.o⟩
theorem ask_drop {lab:Bool} {T:List Txt} {j:Nat} (h:j<T.length):askF lab (T.drop j)=if qVq T[j]=0/\lab=true then -1 else if 0<=qVq T[j] then qVq T[j] else askF lab (T.drop (j+1)):=by
 rw [List.drop_eq_getElem_cons h];rfl
theorem zYf (s:Txt):(qKh s).length=s.length:=qG5 s
theorem zQi (m:Nat) (v:Value) (d:Dc) (n:Int) (w:World) (hv:qZh m w v d) (hm:m<=w.heap.size) (g:Good d) :
 Calls Tryz.prog 45 #[v,.int .i64 n] w (Rb (.int .i64 (qWt d n)) w):=by
 have J:=lH (qJo hv hm n qFn);have O:=qJr g n qFn;have K:=lH (zKl (said d n qFn) O);have N:Hi (∀ W,Calls Tryz.prog 54 #[.string ⟨(qKh (said d n qFn)).toArray⟩] W (Rn W fun Q v=>qQb 1 qH0 W.heap.size 9 Q v (toks (qKh (said d n qFn))))):=lH (fun W=>qYq _ W (by rw [zYf];omega));have M:Hi (∀ W,Bel w W->Calls Tryz.prog 85 #[v,.int .i64 n] W (Rb (.bool (qZr d n)) W)):=lH (fun W h=>qYu m v d n W (hv.later h hm) (Za hm h.size) g);have x:qWt d n=askF (qZr d n) (toks (qKh (said d n qFn))):=rfl;have P:=qVj (qKh (said d n qFn));rw [zYf] at P;rw [x];obtain ⟨va,vc,rfl,v1,v2⟩:=Rf hv;clear x hv;generalize toks (qKh (said d n qFn))=T at *
 generalize qKh (said d n qFn)=L at *
 generalize said d n qFn=s at *
 generalize hasA d n qFn=X at *
 generalize qZr d n=l at *
 have H:=lH (Br w);go_enter Tryz.func45,Tryz.ntmps45
 go_wp2_with (first
 | (go_at_call 53;refine qQf (J.o _ H.o) H fun w2 H=>?_)
 | (go_at_call 83;refine qQf (K.o _) H fun w3 H=>?_)
 | (go_at_call 54;refine (N.o _).mono ?_;rintro e S ⟨q,y4,rfl,o⟩;have H:=lH (Bt H.o q);have G:=lH o.read;obtain ⟨ta,tc,rfl,t1,t2⟩:=Rf o.read;clear q o))
 go_loopw [20] (fun z wr=>∃ j:Nat,j<=T.length/\z=.int .i64 j/\askF l (T.drop j)=askF l T/\Bel S wr) (fun z _=>T.length - (intOf z).toNat)
 case atStart=>exact ⟨0,by omega,rfl,rfl,Br _⟩
 case round=>
  obtain ⟨j,Z,rfl,y,k⟩:=hrel;have F:=lH y;have a:=lH k;have f:=qQa.later G.o qXj k (Zb _);clear y k;by_cases t:j<T.length
  ·obtain ⟨_,_,_,_,E,_,_,_,_⟩:=qQa.elem f j t;simp at E;obtain ⟨rfl,rfl⟩:=E;have V:=qQa.str_cell f j t;have I:=lH (ask_drop (lab:=l) t);clear f;generalize T[j]=D at *
   have C:=lH (zGa D);have u:=lH (fun W (h:Bel _ W)=>M.o W (Bt H.o (Bt a.o h)));generalize qVq D=r at *
   by_cases c:r=0
   ·subst c;cases l with
    | true=>
      have R:Hi (askF true T = -1):=lH (by rw [<- F.o,I.o,if_pos ⟨rfl,rfl⟩]);go_wp2_with (first
 | (go_at_call 84;refine (C.o _).mono ?_;rintro e p ⟨rfl,b⟩;have i:=lH b;have B:=lH (Bt a.o b);clear b)
 | (go_at_call 85;refine qQf (u.o _ i.o) B fun U B=>?_))
      go_ret
      exact ⟨qQs R.o.symm,Bt H.o B.o⟩
    | false=>
      have R:Hi (askF false T=0):=lH (by rw [<- F.o,I.o,if_neg (by simp),if_pos (by omega)]);go_wp2_with (first
 | (go_at_call 84;refine (C.o _).mono ?_;rintro e p ⟨rfl,b⟩;have i:=lH b;have B:=lH (Bt a.o b);clear b)
 | (go_at_call 85;refine qQf (u.o _ i.o) B fun U B=>?_))
      go_ret
      exact ⟨qQs R.o.symm,Bt H.o B.o⟩
   ·have Y:(r==0)=false:=by simpa using c
    by_cases A:0<=r
    ·have R:Hi (askF l T=r):=lH (by rw [<- F.o,I.o,if_neg (by simp [c]),if_pos A])
     clear c
     go_wp2_with (first
 | (go_at_call 84;refine qQf (C.o _) a fun p B=>?_))
     go_ret
     exact ⟨qQs R.o.symm,Bt H.o B.o⟩
    ·have R:Hi (askF l (T.drop (j+1))=askF l T):=lH (by rw [<- F.o,I.o,if_neg (by simp [c]),if_neg A])
     clear c
     go_wp2_with (first
 | (go_at_call 84;refine qQf (C.o _) a fun p B=>?_))
     go_roundw
     case rel=>exact ⟨j+1,by omega,by go_num,R.o,B.o⟩
     case measure=>simp [intOf];omega
  ·have R:Hi (askF l T = -1):=lH (by rw [<- F.o,List.drop_eq_nil_of_le (by omega)];rfl)
   clear f
   go_wp2
   go_ret
   exact ⟨qQs R.o.symm,Bt H.o a.o⟩
theorem zGd (r:Int):(kOf r).need≠18/\0<=(kOf r).need:=by
 by_cases h:0<=r/\r<19
 ·obtain ⟨H,a⟩:=h;have:∀ k:Fin 19,(kOf (k.val:Int)).need≠18/\0<=(kOf (k.val:Int)).need:=by decide
  have:=this ⟨r.toNat,by omega⟩;rwa [show ((r.toNat:Nat):Int)=r by omega] at this
 ·have:(kOf r).need=0:=by unfold kOf;repeat (first | rw [if_neg (by omega)] | rfl)
  rw [this];omega
theorem zKx (m:Nat) (v:Value) (d:Dc) (n:Int) (w:World) (hv:qZh m w v d) (hm:m<=w.heap.size) (g:Good d) (P:isM d n false=true) :
 Calls Tryz.prog 46 #[v,.int .i64 n] w (Rb (.int .i64 (qZl d n)) w):=by
 obtain ⟨p,U,rfl,-⟩:=qQz.1 P;have u:=lH (fun s=>qJo hv hm (p:Int) s);have l:=lH (fun W (h:Bel w W)=>qYu m v d (p:Int) W (hv.later h hm) (Za hm h.size) g);obtain ⟨b,Z,a0,av,kv,sv,rfl,v1,v2,a1,N⟩:=hv.node p U;have M:=N.tag;have Q:=qQ3 U;have a:Hi (∀ J,Bel w J->J.cell? ⟨b,Z+p*9+1,none⟩=some (.string ⟨d[p].tag.toArray⟩)):=lH (fun J X=>(Bel.cells X _ _ (by omega)).trans M);have O:qZl d (p:Int)=if d[p].tag=aT then (if hasA d p zHp then 7 else qVs aT) else if d[p].tag=qG6 then (if qKh (sq d p zZa)=qWl then 9 else 12) else if d[p].tag=imgT then (if hasA d p altT&&(sq d p altT).isEmpty&&!qZr d p then 0 else 11) else if d[p].tag=qW3 then (if qZr d p||!(sq d p titleT).isEmpty then 16 else qVs qW3) else qVs d[p].tag:=by unfold qZl;rw [Q]
 have k:=lH O;have T:=a.o _ (Br w);have y:=lH (zDs d[p].tag);clear N Q P hv O M;generalize d[p].tag=t at *
 have H:=lH (Br w);by_cases i:t=aT
 ·have G:(t==[97])=true:=by rw [i];rfl
  have f:Hi (qZl d (p:Int)=if hasA d p zHp then 7 else qVs t):=lH (by rw [k.o,if_pos i,i]);have c:=lH (fun W h=>u.o zHp W h);clear u k i;generalize said d (p:Int) zHp=s at *
  cases x:hasA d (p:Int) zHp with
  | true=>
    have R:Hi (qZl d (p:Int)=7):=lH (by rw [f.o,if_pos x]);simp only [x] at c;go_enter Tryz.func46,Tryz.ntmps46
    go_wp2_with (first | (go_at_call 53;refine (c.o _ H.o).mono ?_;rintro e r ⟨rfl,B⟩;have H:=lH (Bt H.o B);have T:=a.o _ H.o;clear B c))
    go_ret;exact ⟨qQs R.o.symm,H.o⟩
  | false=>
    have R:Hi (qZl d (p:Int)=qVs t):=lH (by rw [f.o,if_neg (by simp [x])]);simp only [x] at c;go_enter Tryz.func46,Tryz.ntmps46
    go_wp2_with (first | (go_at_call 53;refine (c.o _ H.o).mono ?_;rintro e r ⟨rfl,B⟩;have H:=lH (Bt H.o B);have T:=a.o _ H.o;clear B c) | (go_at_call 87;refine qQf (y.o _) H fun V H=>?_;clear y))
    go_ret;exact ⟨qQs R.o.symm,H.o⟩
 by_cases j:t=qG6
 ·have G:(t==[97])=false:=by rw [j];rfl
  have hb1:(t==[105,110,112,117,116])=true:=by rw [j];rfl
  have f:Hi (qZl d (p:Int)=if qKh (qQo (said d p zZa))=qWl then 9 else 12):=lH (by rw [k.o,if_neg i,if_pos j];rfl);have c:=lH (fun W h=>u.o zZa W h);have C:=lH (qKn (said d (p:Int) zZa) (qJr g _ _));have F:=lH (zKl (qQo (said d (p:Int) zZa)) (zD3 g _ _));clear u k i j;generalize hasA d (p:Int) zZa=x at *
  generalize qKh (qQo (said d (p:Int) zZa))=S at *
  generalize qQo (said d (p:Int) zZa)=E at *
  generalize said d (p:Int) zZa=s at *
  by_cases z:S=qWl
  ·have Y:(S==[99,104,101,99,107,98,111,120])=true:=(by rw [z];rfl);have R:Hi (qZl d (p:Int)=9):=lH (by rw [f.o,if_pos z]);clear z;go_enter Tryz.func46,Tryz.ntmps46
   go_wp2_with (first | (go_at_call 53;refine (c.o _ H.o).mono ?_;rintro e r ⟨rfl,B⟩;have H:=lH (Bt H.o B);have T:=a.o _ H.o;clear B c) | (go_at_call 86;refine (C.o _).mono ?_;rintro e A ⟨rfl,B⟩;have H:=lH (Bt H.o B);have T:=a.o _ H.o;clear B C) | (go_at_call 83;refine (F.o _).mono ?_;rintro e w4 ⟨rfl,B⟩;have H:=lH (Bt H.o B);have T:=a.o _ H.o;clear B F))
   go_ret;exact ⟨qQs R.o.symm,H.o⟩
  ·have Y:(S==[99,104,101,99,107,98,111,120])=false:=by
    have:(S==qWl)=false:=(by simpa using z);exact this
   have R:Hi (qZl d (p:Int)=12):=lH (by rw [f.o,if_neg z]);clear z;go_enter Tryz.func46,Tryz.ntmps46
   go_wp2_with (first | (go_at_call 53;refine (c.o _ H.o).mono ?_;rintro e r ⟨rfl,B⟩;have H:=lH (Bt H.o B);have T:=a.o _ H.o;clear B c) | (go_at_call 86;refine (C.o _).mono ?_;rintro e A ⟨rfl,B⟩;have H:=lH (Bt H.o B);have T:=a.o _ H.o;clear B C) | (go_at_call 83;refine (F.o _).mono ?_;rintro e w4 ⟨rfl,B⟩;have H:=lH (Bt H.o B);have T:=a.o _ H.o;clear B F))
   go_ret;exact ⟨qQs R.o.symm,H.o⟩
 by_cases o:t=imgT
 ·have G:(t==[97])=false:=by rw [o];rfl
  have hb1:(t==[105,110,112,117,116])=false:=by rw [o];rfl
  have hb2:(t==[105,109,103])=true:=by rw [o];rfl
  have f:Hi (qZl d (p:Int)=if hasA d p altT&&(qQo (said d p altT)).isEmpty&&!qZr d p then 0 else 11):=lH (by rw [k.o,if_neg i,if_neg j,if_pos o];rfl);have c:=lH (fun W h=>u.o altT W h);have C:=lH (qKn (said d (p:Int) altT) (qJr g _ _));clear u k i j o;generalize hasA d (p:Int) altT=x at *
  generalize qQo (said d (p:Int) altT)=E at *
  generalize said d (p:Int) altT=s at *
  generalize qZr d (p:Int)=K at *
  cases x with
  | false=>
    have R:Hi (qZl d (p:Int)=11):=lH (by rw [f.o];simp);go_enter Tryz.func46,Tryz.ntmps46
    go_wp2_with (first | (go_at_call 53;refine (c.o _ H.o).mono ?_;rintro e r ⟨rfl,B⟩;have H:=lH (Bt H.o B);have T:=a.o _ H.o;clear B c))
    go_ret;exact ⟨qQs R.o.symm,H.o⟩
  | true=>
    cases D:E.isEmpty with
    | false=>
      have R:Hi (qZl d (p:Int)=11):=lH (by rw [f.o,D];simp);go_enter Tryz.func46,Tryz.ntmps46
      go_wp2_with (first | (go_at_call 53;refine (c.o _ H.o).mono ?_;rintro e r ⟨rfl,B⟩;have H:=lH (Bt H.o B);have T:=a.o _ H.o;clear B c) | (go_at_call 86;refine (C.o _).mono ?_;rintro e A ⟨rfl,B⟩;have H:=lH (Bt H.o B);have T:=a.o _ H.o;clear B C))
      go_ret;exact ⟨qQs R.o.symm,H.o⟩
    | true=>
      cases K with
      | true=>
        have R:Hi (qZl d (p:Int)=11):=lH (by rw [f.o];simp);go_enter Tryz.func46,Tryz.ntmps46
        go_wp2_with (first | (go_at_call 53;refine (c.o _ H.o).mono ?_;rintro e r ⟨rfl,B⟩;have H:=lH (Bt H.o B);have T:=a.o _ H.o;clear B c) | (go_at_call 86;refine (C.o _).mono ?_;rintro e A ⟨rfl,B⟩;have H:=lH (Bt H.o B);have T:=a.o _ H.o;clear B C) | (go_at_call 85;refine (l.o _ H.o).mono ?_;rintro e I ⟨rfl,B⟩;have H:=lH (Bt H.o B);have T:=a.o _ H.o;clear B l))
        go_ret;exact ⟨qQs R.o.symm,H.o⟩
      | false=>
        have R:Hi (qZl d (p:Int)=0):=lH (by rw [f.o,D];simp);go_enter Tryz.func46,Tryz.ntmps46
        go_wp2_with (first | (go_at_call 53;refine (c.o _ H.o).mono ?_;rintro e r ⟨rfl,B⟩;have H:=lH (Bt H.o B);have T:=a.o _ H.o;clear B c) | (go_at_call 86;refine (C.o _).mono ?_;rintro e A ⟨rfl,B⟩;have H:=lH (Bt H.o B);have T:=a.o _ H.o;clear B C) | (go_at_call 85;refine (l.o _ H.o).mono ?_;rintro e I ⟨rfl,B⟩;have H:=lH (Bt H.o B);have T:=a.o _ H.o;clear B l))
        go_ret;exact ⟨qQs R.o.symm,H.o⟩
 by_cases q:t=qW3
 ·have G:(t==[97])=false:=by rw [q];rfl
  have hb1:(t==[105,110,112,117,116])=false:=by rw [q];rfl
  have hb2:(t==[105,109,103])=false:=by rw [q];rfl
  have hb3:(t==[115,101,99,116,105,111,110])=true:=by rw [q];rfl
  have f:Hi (qZl d (p:Int)=if qZr d p||!(qQo (said d p titleT)).isEmpty then 16 else qVs t):=lH (by rw [k.o,if_neg i,if_neg j,if_neg o,if_pos q,q];rfl);have c:=lH (fun W h=>u.o titleT W h);have C:=lH (qKn (said d (p:Int) titleT) (qJr g _ _));clear u k i j o q;generalize hasA d (p:Int) titleT=x at *
  generalize qQo (said d (p:Int) titleT)=E at *
  generalize said d (p:Int) titleT=s at *
  generalize qZr d (p:Int)=K at *
  cases K with
  | true=>
    have R:Hi (qZl d (p:Int)=16):=lH (by rw [f.o];simp);go_enter Tryz.func46,Tryz.ntmps46
    go_wp2_with (first | (go_at_call 53;refine (c.o _ H.o).mono ?_;rintro e r ⟨rfl,B⟩;have H:=lH (Bt H.o B);have T:=a.o _ H.o;clear B c) | (go_at_call 85;refine (l.o _ H.o).mono ?_;rintro e I ⟨rfl,B⟩;have H:=lH (Bt H.o B);have T:=a.o _ H.o;clear B l))
    go_ret;exact ⟨qQs R.o.symm,H.o⟩
  | false=>
    cases D:E.isEmpty with
    | false=>
      have R:Hi (qZl d (p:Int)=16):=lH (by rw [f.o,D];simp);go_enter Tryz.func46,Tryz.ntmps46
      go_wp2_with (first | (go_at_call 53;refine (c.o _ H.o).mono ?_;rintro e r ⟨rfl,B⟩;have H:=lH (Bt H.o B);have T:=a.o _ H.o;clear B c) | (go_at_call 85;refine (l.o _ H.o).mono ?_;rintro e I ⟨rfl,B⟩;have H:=lH (Bt H.o B);have T:=a.o _ H.o;clear B l) | (go_at_call 86;refine (C.o _).mono ?_;rintro e A ⟨rfl,B⟩;have H:=lH (Bt H.o B);have T:=a.o _ H.o;clear B C))
      go_ret;exact ⟨qQs R.o.symm,H.o⟩
    | true=>
      have R:Hi (qZl d (p:Int)=qVs t):=lH (by rw [f.o,D];simp);go_enter Tryz.func46,Tryz.ntmps46
      go_wp2_with (first | (go_at_call 53;refine (c.o _ H.o).mono ?_;rintro e r ⟨rfl,B⟩;have H:=lH (Bt H.o B);have T:=a.o _ H.o;clear B c) | (go_at_call 85;refine (l.o _ H.o).mono ?_;rintro e I ⟨rfl,B⟩;have H:=lH (Bt H.o B);have T:=a.o _ H.o;clear B l) | (go_at_call 86;refine (C.o _).mono ?_;rintro e A ⟨rfl,B⟩;have H:=lH (Bt H.o B);have T:=a.o _ H.o;clear B C) | (go_at_call 87;refine qQf (y.o _) H fun V H=>?_;clear y))
      go_ret;exact ⟨qQs R.o.symm,H.o⟩
 have G:(t==[97])=false:=by
  have:(t==aT)=false:=by simpa using i
  exact this
 have hb1:(t==[105,110,112,117,116])=false:=by
  have:(t==qG6)=false:=by simpa using j
  exact this
 have hb2:(t==[105,109,103])=false:=by
  have:(t==imgT)=false:=by simpa using o
  exact this
 have hb3:(t==[115,101,99,116,105,111,110])=false:=by
  have:(t==qW3)=false:=by simpa using q
  exact this
 have R:Hi (qZl d (p:Int)=qVs t):=lH (by rw [k.o,if_neg i,if_neg j,if_neg o,if_neg q]);clear u k i j o q;go_enter Tryz.func46,Tryz.ntmps46
 go_wp2_with (first | (go_at_call 87;refine qQf (y.o _) H fun V H=>?_;clear y))
 go_ret;exact ⟨qQs R.o.symm,H.o⟩
theorem zVa (A b c e f g a:Value) (w:World):(Instr.field 76 (.agg #[A,b,c,e,f,g,a]) 6).run Tryz.prog w=.ok a w:=by kernel_rfl
theorem zYo (g:Good d) {x:Int} (h:0<=x):qVu d x=if qQd d x=0∨qQd d x=18 then qVu d (upR d x) else qQd d x:=(zV1 g x h).2
theorem zYd (d:Dc) (g:Good d) (c:Int->Nat) (hμ:∀ n,0<=upR d n->c (upR d n)<c n):∀ (f:Nat) (m:Nat) (v:Value) (n:Int) (w:World),c n<f->qZh m w v d->m<=w.heap.size ->
 Calls Tryz.prog 20 #[v,.int .i64 n] w (Rb (.int .i64 (qQd d n)) w):=by
 intro f;induction f with
 | zero=>intro m v n w h;omega
 | succ f ih=>
 intro m v n w hf hv q;have I:=lH (qQ7 m v d n false w hv);cases o:isM d n false with
 | false=>
   rw [o] at I;rw [zBc o];obtain ⟨va,vc,rfl,v1,v2⟩:=Rf hv;go_enter Tryz.func20,Tryz.ntmps20
   go_wp2_with (go_at_call 19;refine I.o.mono ?_;rintro e U ⟨rfl,rfl⟩)
   go_ret;exact ⟨rfl,Br _⟩
 | true=>
   rw [o] at I;have hst:=(zV1 g n (qQi.1 o).1).1;rw [o] at hst;have Y:=lH (fun W (h:Bel w W)=>zQi m v d n W (hv.later h q) (Za q h.size) g);have a4:=lH (fun W (h:Bel w W)=>zKx m v d n W (hv.later h q) (Za q h.size) g o);have Z:=lH (fun W x (h:Bel w W)=>qYg m v d x W (hv.later h q) (Za q h.size) g);have a5:Hi (∀ W x,Bel w W->c x<f->Calls Tryz.prog 20 #[v,.int .i64 x] W (Rb (.int .i64 (qQd d x)) W)):=lH (fun W x h i=>ih m v x W i (hv.later h q) (Za q h.size));have a3:Hi (0<=upR d n->c (upR d n)<f):=lH (fun h=>by have:=hμ n h;omega);obtain ⟨p,hp,rfl,-⟩:=qQz.1 o;obtain ⟨ae,ao,af,av,kv,sv,rfl,v1,v2,ag,hN⟩:=hv.node p hp;have c1:=hN.tag;rw [qQ3 hp] at hst;have a1:Hi (qQd d (p:Int)=if d[p].tag.isEmpty then 10 else if (kOf (qXo d p)).need=0 then qXo d p else if qVu d (upR d p)=(kOf (qXo d p)).need then qXo d p else 18):=lH (by rw [hst];simp);clear hN o hv hst;generalize d[p].tag=tg at *
   have H:=lH (Br w);cases a6:tg.isEmpty with
   | true=>
     have R:Hi (qQd d (p:Int)=10):=lH (by rw [a1.o,if_pos a6]);go_enter Tryz.func20,Tryz.ntmps20
     go_wp2_with (go_at_call 19;refine I.o.mono ?_;rintro e U ⟨rfl,rfl⟩)
     go_ret;exact ⟨qQs R.o.symm,Br _⟩
   | false=>
     have V:Hi (qXo d p=if qWt d p<0 then qZl d p else qWt d p):=lH rfl;have G:Hi (qQd d (p:Int)=if (kOf (qXo d p)).need=0 then qXo d p else if qVu d (upR d p)=(kOf (qXo d p)).need then qXo d p else 18):=lH (by rw [a1.o,if_neg (by simp [a6])]);have K:=lH (qKu (qXo d p));clear a1;have ah:=zVa;have ab:=zGd (qXo d p);generalize qWt d (p:Int)=E at *
     generalize qZl d (p:Int)=tr at *
     generalize qXo d (p:Int)=s at *
     have ac:∀ (ad:E<0∨0<=E),True:=fun _=>trivial;clear ac;generalize a8:kOf s=kk at *
     clear a8;obtain ⟨an,aj,ak,al,ai,am,k⟩:=kk;simp only at K G ab;by_cases a0:k=0
     ·have aa:(k==0)=true:=(by simpa using a0);have R:Hi (qQd d (p:Int)=s):=lH (by rw [G.o,if_pos a0]);clear G;by_cases Q:E<0
      ·have hbs:s=tr:=(by have:=V.o;rwa [if_pos Q] at this);subst hbs;go_enter Tryz.func20,Tryz.ntmps20
       go_wp2_with (first
 | (go_at_call 19;refine I.o.mono ?_;rintro e U ⟨rfl,rfl⟩)
 | (go_at_call 45;refine qQf (Y.o _ H.o) H fun w2 H=>?_)
 | (go_at_call 46;refine qQf (a4.o _ H.o) H fun w3 H=>?_)
 | (go_at_call 21;refine qQf (K.o _) H fun w4 H=>?_))
       go_ret
       exact ⟨qQs R.o.symm,H.o⟩
      ·have hbs:s=E:=by have:=V.o;rwa [if_neg Q] at this
       subst hbs
       go_enter Tryz.func20,Tryz.ntmps20
       go_wp2_with (first
 | (go_at_call 19;refine I.o.mono ?_;rintro e U ⟨rfl,rfl⟩)
 | (go_at_call 45;refine qQf (Y.o _ H.o) H fun w2 H=>?_)
 | (go_at_call 21;refine qQf (K.o _) H fun w4 H=>?_))
       go_ret
       exact ⟨qQs R.o.symm,H.o⟩
     ·have aa:(k==0)=false:=by simpa using a0
      have D:Hi (qQd d (p:Int)=if qVu d (upR d p)=k then s else 18):=lH (by rw [G.o,if_neg a0])
      clear G
      have a9:∀ x:Int,True:=fun _=>trivial
      clear a9
      by_cases Q:E<0
      ·have hbs:s=tr:=by have:=V.o;rwa [if_pos Q] at this
       subst hbs
       go_enter Tryz.func20,Tryz.ntmps20
       go_wp2_with (first
 | (go_at_call 19;refine I.o.mono ?_;rintro e U ⟨rfl,rfl⟩)
 | (go_at_call 45;refine qQf (Y.o _ H.o) H fun w2 H=>?_)
 | (go_at_call 46;refine qQf (a4.o _ H.o) H fun w3 H=>?_)
 | (go_at_call 21;refine qQf (K.o _) H fun w4 H=>?_)
 | (go_at_call 47;refine qQf (Z.o _ (p:Int) H.o) H fun w5 H=>?_))
       go_loopw [7] (fun z wr=>∃ x:Int,z=.int .i64 x/\qVu d x=qVu d (upR d p)/\(0<=x->c x<f)/\Bel w wr) (fun z _=>if intOf z<0 then 0 else c (intOf z)+1)
       case atStart=>exact ⟨_,rfl,rfl,a3.o,H.o⟩
       case round=>
        obtain ⟨x,rfl,O,P,N⟩:=hrel;have l:=lH O;have X:=lH P;have B:=lH N;clear O P N c1;by_cases i:0<=x
        ·have C:=lH (a5.o _ x B.o (X.o i));have T:=zYo g i;have M:Hi (0<=upR d x->c (upR d x)<c x):=lH (hμ x);have J:=lH (fun W (h:Bel w W)=>Z.o W x h);have S:=lH T;clear T;generalize qQd d x=r at *
         generalize hu:upR d x=u at *
         clear hu;by_cases b:r=k
         ·have a2:(r==k)=true:=(by simpa using b);have R:Hi (qQd d (p:Int)=s):=lH (by rw [D.o,if_pos];rw [<- l.o,S.o,if_neg (by omega),b]);clear b;go_wp2_with (go_at_call 20;refine qQf C.o B fun A a=>?_)
          go_ret;exact ⟨qQs R.o.symm,a.o⟩
         ·have a2:(r==k)=false:=(by simpa using b);by_cases hg:r=0∨r=18
          ·have F:Hi (qVu d u=qVu d (upR d p)):=lH (by rw [<- l.o,S.o,if_pos hg]);have a7:(r != 0&&r != 18)=false:=(by rcases hg with h | h <;> simp [h]);rcases hg with h | h
           ·subst h;clear b;go_wp2_with (first
 | (go_at_call 20;refine qQf C.o B fun A a=>?_)
 | (go_at_call 47;refine qQf (J.o _ a.o) a fun w7 t=>?_))
            go_roundw
            case rel=>exact ⟨u,rfl,F.o,fun h=>by have:=M.o h;have:=X.o i;omega,t.o⟩
            case measure=>
             simp only [intOf];have j:¬ x<0:=(by omega);by_cases y:u<0
             ·simp [y,j]
             ·have:=M.o (by omega);simp [y,j];omega
           ·subst h
            clear b
            go_wp2_with (first
 | (go_at_call 20;refine qQf C.o B fun A a=>?_)
 | (go_at_call 47;refine qQf (J.o _ a.o) a fun w7 t=>?_))
            go_roundw
            case rel=>exact ⟨u,rfl,F.o,fun h=>by have:=M.o h;have:=X.o i;omega,t.o⟩
            case measure=>
             simp only [intOf];have j:¬ x<0:=(by omega);by_cases y:u<0
             ·simp [y,j]
             ·have:=M.o (by omega);simp [y,j];omega
          ·have h1:(r != 0)=true:=by simp;omega
           have h2:(r != 18)=true:=by simp;omega
           have R:Hi (qQd d (p:Int)=18):=lH (by rw [D.o,if_neg];rw [<- l.o,S.o,if_neg hg];exact b)
           clear b hg
           go_wp2_with (go_at_call 20;refine qQf C.o B fun A a=>?_)
           go_ret
           exact ⟨qQs R.o.symm,a.o⟩
        ·have R:Hi (qQd d (p:Int)=18):=lH (by rw [D.o,if_neg];rw [<- l.o,zBh (by omega)];omega)
         go_wp2
         go_ret
         exact ⟨qQs R.o.symm,B.o⟩
      ·have hbs:s=E:=by have:=V.o;rwa [if_neg Q] at this
       subst hbs
       go_enter Tryz.func20,Tryz.ntmps20
       go_wp2_with (first
 | (go_at_call 19;refine I.o.mono ?_;rintro e U ⟨rfl,rfl⟩)
 | (go_at_call 45;refine qQf (Y.o _ H.o) H fun w2 H=>?_)
 | (go_at_call 21;refine qQf (K.o _) H fun w4 H=>?_)
 | (go_at_call 47;refine qQf (Z.o _ (p:Int) H.o) H fun w5 H=>?_))
       go_loopw [7] (fun z wr=>∃ x:Int,z=.int .i64 x/\qVu d x=qVu d (upR d p)/\(0<=x->c x<f)/\Bel w wr) (fun z _=>if intOf z<0 then 0 else c (intOf z)+1)
       case atStart=>exact ⟨_,rfl,rfl,a3.o,H.o⟩
       case round=>
        obtain ⟨x,rfl,O,P,N⟩:=hrel;have l:=lH O;have X:=lH P;have B:=lH N;clear O P N c1;by_cases i:0<=x
        ·have C:=lH (a5.o _ x B.o (X.o i));have T:=zYo g i;have M:Hi (0<=upR d x->c (upR d x)<c x):=lH (hμ x);have J:=lH (fun W (h:Bel w W)=>Z.o W x h);have S:=lH T;clear T;generalize qQd d x=r at *
         generalize hu:upR d x=u at *
         clear hu;by_cases b:r=k
         ·have a2:(r==k)=true:=(by simpa using b);have R:Hi (qQd d (p:Int)=s):=lH (by rw [D.o,if_pos];rw [<- l.o,S.o,if_neg (by omega),b]);clear b;go_wp2_with (go_at_call 20;refine qQf C.o B fun A a=>?_)
          go_ret;exact ⟨qQs R.o.symm,a.o⟩
         ·have a2:(r==k)=false:=(by simpa using b);by_cases hg:r=0∨r=18
          ·have F:Hi (qVu d u=qVu d (upR d p)):=lH (by rw [<- l.o,S.o,if_pos hg]);have a7:(r != 0&&r != 18)=false:=(by rcases hg with h | h <;> simp [h]);rcases hg with h | h
           ·subst h;clear b;go_wp2_with (first
 | (go_at_call 20;refine qQf C.o B fun A a=>?_)
 | (go_at_call 47;refine qQf (J.o _ a.o) a fun w7 t=>?_))
            go_roundw
            case rel=>exact ⟨u,rfl,F.o,fun h=>by have:=M.o h;have:=X.o i;omega,t.o⟩
            case measure=>
             simp only [intOf];have j:¬ x<0:=(by omega);by_cases y:u<0
             ·simp [y,j]
             ·have:=M.o (by omega);simp [y,j];omega
           ·subst h
            clear b
            go_wp2_with (first
 | (go_at_call 20;refine qQf C.o B fun A a=>?_)
 | (go_at_call 47;refine qQf (J.o _ a.o) a fun w7 t=>?_))
            go_roundw
            case rel=>exact ⟨u,rfl,F.o,fun h=>by have:=M.o h;have:=X.o i;omega,t.o⟩
            case measure=>
             simp only [intOf];have j:¬ x<0:=(by omega);by_cases y:u<0
             ·simp [y,j]
             ·have:=M.o (by omega);simp [y,j];omega
          ·have h1:(r != 0)=true:=by simp;omega
           have h2:(r != 18)=true:=by simp;omega
           have R:Hi (qQd d (p:Int)=18):=lH (by rw [D.o,if_neg];rw [<- l.o,S.o,if_neg hg];exact b)
           clear b hg
           go_wp2_with (go_at_call 20;refine qQf C.o B fun A a=>?_)
           go_ret
           exact ⟨qQs R.o.symm,a.o⟩
        ·have R:Hi (qQd d (p:Int)=18):=lH (by rw [D.o,if_neg];rw [<- l.o,zBh (by omega)];omega)
         go_wp2
         go_ret
         exact ⟨qQs R.o.symm,B.o⟩
theorem qKg (m:Nat) (v:Value) (d:Dc) (n:Int) (w:World) (hv:qZh m w v d) (hm:m<=w.heap.size) (g:Good d) :
 Calls Tryz.prog 20 #[v,.int .i64 n] w (Rb (.int .i64 (qQd d n)) w):=by
 obtain ⟨a,-,h⟩:=qBc g;exact zYd d g a h (a n+1) m v n w (Nat.lt_succ_self _) hv hm
theorem up_is (g:Good d) (h:0<=upR d n):isM d (upR d n) false=true:=by
 obtain ⟨r,G⟩:=g.tree;rw [qG4 G] at h ⊢;rcases zZt G n with H | H
 ·omega
 ·exact H
theorem zF8 (g:Good d) (h:isM d n false=false):qZc d n=true:=by rw [qF9 g,h];rfl
theorem hid_step (g:Good d) (h:isM d n false=true):qZc d n=(offM d n||(decide (n≠0)&&qZc d (upR d n))):=by rw [qF9 g,h];rfl
theorem not_neg (h:n<0):isM d n false=false:=by
 cases H:isM d n false with
 | false=>rfl
 | true=>have:=(qQi.1 H).1;omega
theorem qVz (m:Nat) (v:Value) (d:Dc) (n:Int) (w:World) (hv:qZh m w v d) (hm:m<=w.heap.size) (g:Good d) :
 Calls Tryz.prog 90 #[v,.int .i64 n] w (Rb (.bool (qZc d n)) w):=by
 have c:=lH (qQ7 m v d n false w hv);obtain ⟨P,-,y⟩:=qBc g;cases i:isM d n false with
 | false=>
   rw [i] at c;have o:=lH (zF8 g i);obtain ⟨F,G,rfl,V,D⟩:=Rf hv;go_enter Tryz.func90,Tryz.ntmps90
   go_wp2_with (go_at_call 19;refine c.o.mono ?_;rintro e J ⟨rfl,rfl⟩)
   go_ret;rw [o.o];exact ⟨rfl,Br _⟩
 | true=>
   rw [i] at c;have O:=lH (fun W x (h:Bel w W)=>zJ3 m v d x W (hv.later h hm) (Za hm h.size) g);have s:=lH (fun W x (h:Bel w W)=>qYg m v d x W (hv.later h hm) (Za hm h.size) g);have S:=lH (fun x a=>hid_step g (n:=x) a);have N:=lH (fun x a=>zF8 g (n:=x) a);have q:=lH (fun x a=>up_is g (n:=x) a);have I:=lH i;obtain ⟨F,G,rfl,V,D⟩:=Rf hv;clear hv i;go_enter Tryz.func90,Tryz.ntmps90
   go_wp2_with (go_at_call 19;refine c.o.mono ?_;rintro e J ⟨rfl,rfl⟩)
   go_loopw [1] (fun z wr=>∃ x:Int,z=.int .i64 x/\isM d x false=true/\qZc d x=qZc d n/\Bel w wr) (fun z _=>P (intOf z))
   case atStart=>exact ⟨n,rfl,I.o,rfl,Br _⟩
   case round=>
    obtain ⟨x,rfl,a,hE,j⟩:=hrel;have X:=lH a;have E:=lH hE;have B:=lH j;have T:=lH (S.o x a);have C:=lH (O.o _ x j);have l:=lH (fun W h=>s.o W x h);have r:=lH (q.o x);have p:=lH (y x);clear a hE j c;generalize offM d x=A at *
    cases A with
    | true=>
      have R:Hi (qZc d n=true):=lH (by rw [<- E.o,T.o];rfl);go_wp2_with (go_at_call 136;refine qQf C.o B fun k H=>?_)
      go_ret;rw [R.o];exact ⟨rfl,H.o⟩
    | false=>
      by_cases b:x=0
      ·subst b;have R:Hi (qZc d n=false):=lH (by rw [<- E.o,T.o];rfl);go_wp2_with (go_at_call 136;refine qQf C.o B fun k H=>?_)
       go_ret;rw [R.o];exact ⟨rfl,H.o⟩
      ·have Y:(x==0)=false:=(by simpa using b);have Q:Hi (qZc d n=qZc d (upR d x)):=lH (by rw [<- E.o,T.o];simp [b]);clear b;generalize upR d x=u at *
       by_cases t:u<0
       ·have R:Hi (qZc d n=true):=lH (by rw [Q.o,N.o _ (not_neg t)]);go_wp2_with (first
 | (go_at_call 136;refine qQf C.o B fun k H=>?_)
 | (go_at_call 47;refine qQf (l.o _ H.o) H fun K f=>?_))
        go_ret
        rw [R.o]
        exact ⟨rfl,f.o⟩
       ·have U:=lH (r.o (by omega))
        have M:=lH (p.o (by omega))
        go_wp2_with (first
 | (go_at_call 136;refine qQf C.o B fun k H=>?_)
 | (go_at_call 47;refine qQf (l.o _ H.o) H fun K f=>?_))
        go_roundw
        case rel=>exact ⟨u,rfl,U.o,Q.o.symm,f.o⟩
        case measure=>simp only [intOf];exact M.o

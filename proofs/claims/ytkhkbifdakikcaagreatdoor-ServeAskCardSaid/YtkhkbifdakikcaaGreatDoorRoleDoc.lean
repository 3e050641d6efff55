/- Elements' roles, and what is hidden, walked. -/
import Derived.Test.YtkhkbifdakikcaaGreatDoorKindsFind
import Derived.Test.YtkhkbifdakikcaaGreatDoorOwnsClaims
set_option maxRecDepth 100000
set_option maxHeartbeats 4000000
namespace Go.Proofs.YtkhkbifdakikcaaGreatDoor
open Go.RowKit
variable {d:Dc} {n:Int}
theorem qJm {m:Nat} {v:Value} {w:World} (hv:qZh m w v d) (hm:m<=w.heap.size) (n:Int) (s:Txt) (W:World) (h:Bel w W) :
 Calls Tryz.prog 39 #[v,.int .i64 n,.string ⟨s.toArray⟩] W (Rb (.tuple #[.string ⟨(said d n s).toArray⟩,.bool (hasA d n s)]) W):=qZv m v d n s W (hv.later h hm) (Za hm h.size)
theorem qKl (s:Txt) (h:s.length<=60) (W:World):Calls Tryz.prog 68 #[.string ⟨s.toArray⟩] W (Rb (.string ⟨(qQn s).toArray⟩) W):=qJf s W (by omega)
theorem zJt (s:Txt) (h:s.length<=60) (W:World):Calls Tryz.prog 65 #[.string ⟨s.toArray⟩] W (Rb (.string ⟨(qKd s).toArray⟩) W):=qBh s W (by omega)
theorem zG0 (g:Good d) (n:Int) (s:Txt):(sq d n s).length<=60:=Za (qY0 _) (qJp g n s)
theorem qYk (m:Nat) (v:Value) (d:Dc) (n:Int) (w:World) (hv:qZh m w v d) (hm:m<=w.heap.size) (g:Good d) :
 Calls Tryz.prog 67 #[v,.int .i64 n] w (Rb (.bool (qZr d n)) w):=by
 have c:=lH (qJm hv hm n labelT);have C:=lH (qJm hv hm n qJu);have a:=lH (qKl (said d n labelT) (qJp g _ _));have e:=lH (qKl (said d n qJu) (qJp g _ _));have h:qZr d n=(!(qQn (said d n labelT)).isEmpty||!(qQn (said d n qJu)).isEmpty):=rfl;rw [h];obtain ⟨s,t,rfl,V,r⟩:=Rf hv;clear h hv;generalize qQn (said d n labelT)=S at *
 generalize qQn (said d n qJu)=j at *
 generalize said d n labelT=A at *
 generalize said d n qJu=B at *
 generalize hasA d n labelT=l at *
 generalize hasA d n qJu=o at *
 have H:=lH (Br w);have F:∀ (b:Bool),(S.isEmpty=b∨S.isEmpty=!b):=fun b=>by cases b <;> cases S <;> simp
 clear F;cases p:S.isEmpty with
 | false=>
   go_enter Tryz.func67,Tryz.ntmps67
   go_wp2_with (first
 | (go_at_call 39;refine qQe (c.o _ H.o) H fun W H=>?_;clear c)
 | (go_at_call 39;refine qQe (C.o _ H.o) H fun f H=>?_;clear C)
 | (go_at_call 68;refine qQe (a.o _) H fun i H=>?_;clear a))
   go_ret
   exact ⟨rfl,H.o⟩
 | true=>
   cases q:j.isEmpty with
   | false=>
     go_enter Tryz.func67,Tryz.ntmps67
     go_wp2_with (first
 | (go_at_call 39;refine qQe (c.o _ H.o) H fun W H=>?_;clear c)
 | (go_at_call 39;refine qQe (C.o _ H.o) H fun f H=>?_;clear C)
 | (go_at_call 68;refine qQe (a.o _) H fun i H=>?_;clear a)
 | (go_at_call 68;refine qQe (e.o _) H fun k H=>?_;clear e))
     go_ret
     exact ⟨rfl,H.o⟩
   | true=>
     go_enter Tryz.func67,Tryz.ntmps67
     go_wp2_with (first
 | (go_at_call 39;refine qQe (c.o _ H.o) H fun W H=>?_;clear c)
 | (go_at_call 39;refine qQe (C.o _ H.o) H fun f H=>?_;clear C)
 | (go_at_call 68;refine qQe (a.o _) H fun i H=>?_;clear a)
 | (go_at_call 68;refine qQe (e.o _) H fun k H=>?_;clear e))
     go_ret
     exact ⟨rfl,H.o⟩
theorem zJf (m:Nat) (v:Value) (d:Dc) (n:Int) (w:World) (hv:qZh m w v d) (hm:m<=w.heap.size) (g:Good d) :
 Calls Tryz.prog 112 #[v,.int .i64 n] w (Rb (.bool (offM d n)) w):=by
 have c:=lH (qJm hv hm n qFs);have C:=lH (qJm hv hm n qXs);have e:=lH (qKl (said d n qXs) (qJp g _ _));have b:=lH (zJt (qQn (said d n qXs)) (zG0 g _ _));have f:offM d n=(hasA d n qFs||decide (qKd (qQn (said d n qXs))=qGx)):=rfl;rw [f];obtain ⟨s,t,rfl,V,r⟩:=Rf hv;clear f hv;generalize qKd (qQn (said d n qXs))=S at *
 generalize qQn (said d n qXs)=p at *
 generalize said d n qXs=A at *
 generalize said d n qFs=B at *
 generalize hasA d n qFs=j at *
 generalize hasA d n qXs=q at *
 have H:=lH (Br w);cases j with
 | true=>
   go_enter Tryz.func112,Tryz.ntmps112
   go_wp2_with (first
 | (go_at_call 39;refine qQe (c.o _ H.o) H fun W H=>?_;clear c)
 | (go_at_call 39;refine qQe (C.o _ H.o) H fun i H=>?_;clear C))
   go_ret
   exact ⟨rfl,H.o⟩
 | false=>
   by_cases h:S=qGx
   ·have k:(S==[116,114,117,101])=true:=(by rw [h];rfl);have a:decide (S=qGx)=true:=(by simp [h]);rw [a];clear h a;go_enter Tryz.func112,Tryz.ntmps112
    go_wp2_with (first
 | (go_at_call 39;refine qQe (c.o _ H.o) H fun W H=>?_;clear c)
 | (go_at_call 39;refine qQe (C.o _ H.o) H fun i H=>?_;clear C)
 | (go_at_call 68;refine qQe (e.o _) H fun l H=>?_;clear e)
 | (go_at_call 65;refine qQe (b.o _) H fun o H=>?_;clear b))
    go_ret
    exact ⟨rfl,H.o⟩
   ·have k:(S==[116,114,117,101])=false:=by
     have:(S==qGx)=false:=(by simpa using h);exact this
    have a:decide (S=qGx)=false:=by simp [h]
    rw [a]
    clear h a
    go_enter Tryz.func112,Tryz.ntmps112
    go_wp2_with (first
 | (go_at_call 39;refine qQe (c.o _ H.o) H fun W H=>?_;clear c)
 | (go_at_call 39;refine qQe (C.o _ H.o) H fun i H=>?_;clear C)
 | (go_at_call 68;refine qQe (e.o _) H fun l H=>?_;clear e)
 | (go_at_call 65;refine qQe (b.o _) H fun o H=>?_;clear b))
    go_ret
    exact ⟨rfl,H.o⟩
theorem ask_drop {lab:Bool} {T:List Txt} {j:Nat} (h:j<T.length):askF lab (T.drop j)=if qVe T[j]=0/\lab=true then -1 else if 0<=qVe T[j] then qVe T[j] else askF lab (T.drop (j+1)):=by
 rw [List.drop_eq_getElem_cons h];rfl
theorem zXe (s:Txt):(qKd s).length=s.length:=qGl s
theorem qDx (m:Nat) (v:Value) (d:Dc) (n:Int) (w:World) (hv:qZh m w v d) (hm:m<=w.heap.size) (g:Good d) :
 Calls Tryz.prog 31 #[v,.int .i64 n] w (Rb (.int .i64 (qWf d n)) w):=by
 have J:=lH (qJm hv hm n qG2);have O:=qJp g n qG2;have K:=lH (zJt (said d n qG2) O);have N:Hi (∀ W,Calls Tryz.prog 40 #[.string ⟨(qKd (said d n qG2)).toArray⟩] W (Rn W fun Q v=>qQb 1 qHg W.heap.size 9 Q v (toks (qKd (said d n qG2))))):=lH (fun W=>qYg _ W (by rw [zXe];omega));have M:Hi (∀ W,Bel w W->Calls Tryz.prog 67 #[v,.int .i64 n] W (Rb (.bool (qZr d n)) W)):=lH (fun W h=>qYk m v d n W (hv.later h hm) (Za hm h.size) g);have x:qWf d n=askF (qZr d n) (toks (qKd (said d n qG2))):=rfl;have P:=qY6 (qKd (said d n qG2));rw [zXe] at P;rw [x];obtain ⟨va,vc,rfl,v1,v2⟩:=Rf hv;clear x hv;generalize toks (qKd (said d n qG2))=T at *
 generalize qKd (said d n qG2)=L at *
 generalize said d n qG2=s at *
 generalize hasA d n qG2=X at *
 generalize qZr d n=l at *
 have H:=lH (Br w);go_enter Tryz.func31,Tryz.ntmps31
 go_wp2_with (first
 | (go_at_call 39;refine qQe (J.o _ H.o) H fun w2 H=>?_)
 | (go_at_call 65;refine qQe (K.o _) H fun w3 H=>?_)
 | (go_at_call 40;refine (N.o _).mono ?_;rintro e S ⟨q,y4,rfl,o⟩;have H:=lH (Bt H.o q);have G:=lH o.read;obtain ⟨ta,tc,rfl,t1,t2⟩:=Rf o.read;clear q o))
 go_loopw [20] (fun z wr=>∃ j:Nat,j<=T.length/\z=.int .i64 j/\askF l (T.drop j)=askF l T/\Bel S wr) (fun z _=>T.length - (intOf z).toNat)
 case atStart=>exact ⟨0,by omega,rfl,rfl,Br _⟩
 case round=>
  obtain ⟨j,Z,rfl,y,k⟩:=hrel;have F:=lH y;have a:=lH k;have f:=qQa.later G.o qXd k (Zb _);clear y k;by_cases t:j<T.length
  ·obtain ⟨_,_,_,_,E,_,_,_,_⟩:=qQa.elem f j t;simp at E;obtain ⟨rfl,rfl⟩:=E;have V:=qQa.str_cell f j t;have I:=lH (ask_drop (lab:=l) t);clear f;generalize T[j]=D at *
   have C:=lH (zBo D);have u:=lH (fun W (h:Bel _ W)=>M.o W (Bt H.o (Bt a.o h)));generalize qVe D=r at *
   by_cases c:r=0
   ·subst c;cases l with
    | true=>
      have R:Hi (askF true T = -1):=lH (by rw [<- F.o,I.o,if_pos ⟨rfl,rfl⟩]);go_wp2_with (first
 | (go_at_call 66;refine (C.o _).mono ?_;rintro e p ⟨rfl,b⟩;have i:=lH b;have B:=lH (Bt a.o b);clear b)
 | (go_at_call 67;refine qQe (u.o _ i.o) B fun U B=>?_))
      go_ret
      exact ⟨qQr R.o.symm,Bt H.o B.o⟩
    | false=>
      have R:Hi (askF false T=0):=lH (by rw [<- F.o,I.o,if_neg (by simp),if_pos (by omega)]);go_wp2_with (first
 | (go_at_call 66;refine (C.o _).mono ?_;rintro e p ⟨rfl,b⟩;have i:=lH b;have B:=lH (Bt a.o b);clear b)
 | (go_at_call 67;refine qQe (u.o _ i.o) B fun U B=>?_))
      go_ret
      exact ⟨qQr R.o.symm,Bt H.o B.o⟩
   ·have Y:(r==0)=false:=by simpa using c
    by_cases A:0<=r
    ·have R:Hi (askF l T=r):=lH (by rw [<- F.o,I.o,if_neg (by simp [c]),if_pos A])
     clear c
     go_wp2_with (first
 | (go_at_call 66;refine qQe (C.o _) a fun p B=>?_))
     go_ret
     exact ⟨qQr R.o.symm,Bt H.o B.o⟩
    ·have R:Hi (askF l (T.drop (j+1))=askF l T):=lH (by rw [<- F.o,I.o,if_neg (by simp [c]),if_neg A])
     clear c
     go_wp2_with (first
 | (go_at_call 66;refine qQe (C.o _) a fun p B=>?_))
     go_roundw
     case rel=>exact ⟨j+1,by omega,by go_num,R.o,B.o⟩
     case measure=>simp [intOf];omega
  ·have R:Hi (askF l T = -1):=lH (by rw [<- F.o,List.drop_eq_nil_of_le (by omega)];rfl)
   clear f
   go_wp2
   go_ret
   exact ⟨qQr R.o.symm,Bt H.o a.o⟩
theorem zBr (r:Int):(kOf r).need≠18/\0<=(kOf r).need:=by
 by_cases h:0<=r/\r<19
 ·obtain ⟨H,a⟩:=h;have:∀ k:Fin 19,(kOf (k.val:Int)).need≠18/\0<=(kOf (k.val:Int)).need:=by decide
  have:=this ⟨r.toNat,by omega⟩;rwa [show ((r.toNat:Nat):Int)=r by omega] at this
 ·have:(kOf r).need=0:=by unfold kOf;repeat (first | rw [if_neg (by omega)] | rfl)
  rw [this];omega
theorem zJ2 (m:Nat) (v:Value) (d:Dc) (n:Int) (w:World) (hv:qZh m w v d) (hm:m<=w.heap.size) (g:Good d) (P:isM d n false=true) :
 Calls Tryz.prog 32 #[v,.int .i64 n] w (Rb (.int .i64 (qZl d n)) w):=by
 obtain ⟨p,U,rfl,-⟩:=qQy.1 P;have u:=lH (fun s=>qJm hv hm (p:Int) s);have l:=lH (fun W (h:Bel w W)=>qYk m v d (p:Int) W (hv.later h hm) (Za hm h.size) g);obtain ⟨b,Z,a0,av,kv,sv,rfl,v1,v2,a1,N⟩:=hv.node p U;have M:=N.tag;have Q:=qQ2 U;have a:Hi (∀ J,Bel w J->J.cell? ⟨b,Z+p*9+1,none⟩=some (.string ⟨d[p].tag.toArray⟩)):=lH (fun J X=>(Bel.cells X _ _ (by omega)).trans M);have O:qZl d (p:Int)=if d[p].tag=aT then (if hasA d p zW4 then 7 else qVg aT) else if d[p].tag=qGm then (if qKd (sq d p zQo)=qV7 then 9 else 12) else if d[p].tag=imgT then (if hasA d p altT&&(sq d p altT).isEmpty&&!qZr d p then 0 else 11) else if d[p].tag=qWq then (if qZr d p||!(sq d p titleT).isEmpty then 16 else qVg qWq) else qVg d[p].tag:=by unfold qZl;rw [Q]
 have k:=lH O;have T:=a.o _ (Br w);have y:=lH (zGq d[p].tag);clear N Q P hv O M;generalize d[p].tag=t at *
 have H:=lH (Br w);by_cases i:t=aT
 ·have G:(t==[97])=true:=by rw [i];rfl
  have f:Hi (qZl d (p:Int)=if hasA d p zW4 then 7 else qVg t):=lH (by rw [k.o,if_pos i,i]);have c:=lH (fun W h=>u.o zW4 W h);clear u k i;generalize said d (p:Int) zW4=s at *
  cases x:hasA d (p:Int) zW4 with
  | true=>
    have R:Hi (qZl d (p:Int)=7):=lH (by rw [f.o,if_pos x]);simp only [x] at c;go_enter Tryz.func32,Tryz.ntmps32
    go_wp2_with (first | (go_at_call 39;refine (c.o _ H.o).mono ?_;rintro e r ⟨rfl,B⟩;have H:=lH (Bt H.o B);have T:=a.o _ H.o;clear B c))
    go_ret;exact ⟨qQr R.o.symm,H.o⟩
  | false=>
    have R:Hi (qZl d (p:Int)=qVg t):=lH (by rw [f.o,if_neg (by simp [x])]);simp only [x] at c;go_enter Tryz.func32,Tryz.ntmps32
    go_wp2_with (first | (go_at_call 39;refine (c.o _ H.o).mono ?_;rintro e r ⟨rfl,B⟩;have H:=lH (Bt H.o B);have T:=a.o _ H.o;clear B c) | (go_at_call 69;refine qQe (y.o _) H fun V H=>?_;clear y))
    go_ret;exact ⟨qQr R.o.symm,H.o⟩
 by_cases j:t=qGm
 ·have G:(t==[97])=false:=by rw [j];rfl
  have hb1:(t==[105,110,112,117,116])=true:=by rw [j];rfl
  have f:Hi (qZl d (p:Int)=if qKd (qQn (said d p zQo))=qV7 then 9 else 12):=lH (by rw [k.o,if_neg i,if_pos j];rfl);have c:=lH (fun W h=>u.o zQo W h);have C:=lH (qKl (said d (p:Int) zQo) (qJp g _ _));have F:=lH (zJt (qQn (said d (p:Int) zQo)) (zG0 g _ _));clear u k i j;generalize hasA d (p:Int) zQo=x at *
  generalize qKd (qQn (said d (p:Int) zQo))=S at *
  generalize qQn (said d (p:Int) zQo)=E at *
  generalize said d (p:Int) zQo=s at *
  by_cases z:S=qV7
  ·have Y:(S==[99,104,101,99,107,98,111,120])=true:=(by rw [z];rfl);have R:Hi (qZl d (p:Int)=9):=lH (by rw [f.o,if_pos z]);clear z;go_enter Tryz.func32,Tryz.ntmps32
   go_wp2_with (first | (go_at_call 39;refine (c.o _ H.o).mono ?_;rintro e r ⟨rfl,B⟩;have H:=lH (Bt H.o B);have T:=a.o _ H.o;clear B c) | (go_at_call 68;refine (C.o _).mono ?_;rintro e A ⟨rfl,B⟩;have H:=lH (Bt H.o B);have T:=a.o _ H.o;clear B C) | (go_at_call 65;refine (F.o _).mono ?_;rintro e w4 ⟨rfl,B⟩;have H:=lH (Bt H.o B);have T:=a.o _ H.o;clear B F))
   go_ret;exact ⟨qQr R.o.symm,H.o⟩
  ·have Y:(S==[99,104,101,99,107,98,111,120])=false:=by
    have:(S==qV7)=false:=(by simpa using z);exact this
   have R:Hi (qZl d (p:Int)=12):=lH (by rw [f.o,if_neg z]);clear z;go_enter Tryz.func32,Tryz.ntmps32
   go_wp2_with (first | (go_at_call 39;refine (c.o _ H.o).mono ?_;rintro e r ⟨rfl,B⟩;have H:=lH (Bt H.o B);have T:=a.o _ H.o;clear B c) | (go_at_call 68;refine (C.o _).mono ?_;rintro e A ⟨rfl,B⟩;have H:=lH (Bt H.o B);have T:=a.o _ H.o;clear B C) | (go_at_call 65;refine (F.o _).mono ?_;rintro e w4 ⟨rfl,B⟩;have H:=lH (Bt H.o B);have T:=a.o _ H.o;clear B F))
   go_ret;exact ⟨qQr R.o.symm,H.o⟩
 by_cases o:t=imgT
 ·have G:(t==[97])=false:=by rw [o];rfl
  have hb1:(t==[105,110,112,117,116])=false:=by rw [o];rfl
  have hb2:(t==[105,109,103])=true:=by rw [o];rfl
  have f:Hi (qZl d (p:Int)=if hasA d p altT&&(qQn (said d p altT)).isEmpty&&!qZr d p then 0 else 11):=lH (by rw [k.o,if_neg i,if_neg j,if_pos o];rfl);have c:=lH (fun W h=>u.o altT W h);have C:=lH (qKl (said d (p:Int) altT) (qJp g _ _));clear u k i j o;generalize hasA d (p:Int) altT=x at *
  generalize qQn (said d (p:Int) altT)=E at *
  generalize said d (p:Int) altT=s at *
  generalize qZr d (p:Int)=K at *
  cases x with
  | false=>
    have R:Hi (qZl d (p:Int)=11):=lH (by rw [f.o];simp);go_enter Tryz.func32,Tryz.ntmps32
    go_wp2_with (first | (go_at_call 39;refine (c.o _ H.o).mono ?_;rintro e r ⟨rfl,B⟩;have H:=lH (Bt H.o B);have T:=a.o _ H.o;clear B c))
    go_ret;exact ⟨qQr R.o.symm,H.o⟩
  | true=>
    cases D:E.isEmpty with
    | false=>
      have R:Hi (qZl d (p:Int)=11):=lH (by rw [f.o,D];simp);go_enter Tryz.func32,Tryz.ntmps32
      go_wp2_with (first | (go_at_call 39;refine (c.o _ H.o).mono ?_;rintro e r ⟨rfl,B⟩;have H:=lH (Bt H.o B);have T:=a.o _ H.o;clear B c) | (go_at_call 68;refine (C.o _).mono ?_;rintro e A ⟨rfl,B⟩;have H:=lH (Bt H.o B);have T:=a.o _ H.o;clear B C))
      go_ret;exact ⟨qQr R.o.symm,H.o⟩
    | true=>
      cases K with
      | true=>
        have R:Hi (qZl d (p:Int)=11):=lH (by rw [f.o];simp);go_enter Tryz.func32,Tryz.ntmps32
        go_wp2_with (first | (go_at_call 39;refine (c.o _ H.o).mono ?_;rintro e r ⟨rfl,B⟩;have H:=lH (Bt H.o B);have T:=a.o _ H.o;clear B c) | (go_at_call 68;refine (C.o _).mono ?_;rintro e A ⟨rfl,B⟩;have H:=lH (Bt H.o B);have T:=a.o _ H.o;clear B C) | (go_at_call 67;refine (l.o _ H.o).mono ?_;rintro e I ⟨rfl,B⟩;have H:=lH (Bt H.o B);have T:=a.o _ H.o;clear B l))
        go_ret;exact ⟨qQr R.o.symm,H.o⟩
      | false=>
        have R:Hi (qZl d (p:Int)=0):=lH (by rw [f.o,D];simp);go_enter Tryz.func32,Tryz.ntmps32
        go_wp2_with (first | (go_at_call 39;refine (c.o _ H.o).mono ?_;rintro e r ⟨rfl,B⟩;have H:=lH (Bt H.o B);have T:=a.o _ H.o;clear B c) | (go_at_call 68;refine (C.o _).mono ?_;rintro e A ⟨rfl,B⟩;have H:=lH (Bt H.o B);have T:=a.o _ H.o;clear B C) | (go_at_call 67;refine (l.o _ H.o).mono ?_;rintro e I ⟨rfl,B⟩;have H:=lH (Bt H.o B);have T:=a.o _ H.o;clear B l))
        go_ret;exact ⟨qQr R.o.symm,H.o⟩
 by_cases q:t=qWq
 ·have G:(t==[97])=false:=by rw [q];rfl
  have hb1:(t==[105,110,112,117,116])=false:=by rw [q];rfl
  have hb2:(t==[105,109,103])=false:=by rw [q];rfl
  have hb3:(t==[115,101,99,116,105,111,110])=true:=by rw [q];rfl
  have f:Hi (qZl d (p:Int)=if qZr d p||!(qQn (said d p titleT)).isEmpty then 16 else qVg t):=lH (by rw [k.o,if_neg i,if_neg j,if_neg o,if_pos q,q];rfl);have c:=lH (fun W h=>u.o titleT W h);have C:=lH (qKl (said d (p:Int) titleT) (qJp g _ _));clear u k i j o q;generalize hasA d (p:Int) titleT=x at *
  generalize qQn (said d (p:Int) titleT)=E at *
  generalize said d (p:Int) titleT=s at *
  generalize qZr d (p:Int)=K at *
  cases K with
  | true=>
    have R:Hi (qZl d (p:Int)=16):=lH (by rw [f.o];simp);go_enter Tryz.func32,Tryz.ntmps32
    go_wp2_with (first | (go_at_call 39;refine (c.o _ H.o).mono ?_;rintro e r ⟨rfl,B⟩;have H:=lH (Bt H.o B);have T:=a.o _ H.o;clear B c) | (go_at_call 67;refine (l.o _ H.o).mono ?_;rintro e I ⟨rfl,B⟩;have H:=lH (Bt H.o B);have T:=a.o _ H.o;clear B l))
    go_ret;exact ⟨qQr R.o.symm,H.o⟩
  | false=>
    cases D:E.isEmpty with
    | false=>
      have R:Hi (qZl d (p:Int)=16):=lH (by rw [f.o,D];simp);go_enter Tryz.func32,Tryz.ntmps32
      go_wp2_with (first | (go_at_call 39;refine (c.o _ H.o).mono ?_;rintro e r ⟨rfl,B⟩;have H:=lH (Bt H.o B);have T:=a.o _ H.o;clear B c) | (go_at_call 67;refine (l.o _ H.o).mono ?_;rintro e I ⟨rfl,B⟩;have H:=lH (Bt H.o B);have T:=a.o _ H.o;clear B l) | (go_at_call 68;refine (C.o _).mono ?_;rintro e A ⟨rfl,B⟩;have H:=lH (Bt H.o B);have T:=a.o _ H.o;clear B C))
      go_ret;exact ⟨qQr R.o.symm,H.o⟩
    | true=>
      have R:Hi (qZl d (p:Int)=qVg t):=lH (by rw [f.o,D];simp);go_enter Tryz.func32,Tryz.ntmps32
      go_wp2_with (first | (go_at_call 39;refine (c.o _ H.o).mono ?_;rintro e r ⟨rfl,B⟩;have H:=lH (Bt H.o B);have T:=a.o _ H.o;clear B c) | (go_at_call 67;refine (l.o _ H.o).mono ?_;rintro e I ⟨rfl,B⟩;have H:=lH (Bt H.o B);have T:=a.o _ H.o;clear B l) | (go_at_call 68;refine (C.o _).mono ?_;rintro e A ⟨rfl,B⟩;have H:=lH (Bt H.o B);have T:=a.o _ H.o;clear B C) | (go_at_call 69;refine qQe (y.o _) H fun V H=>?_;clear y))
      go_ret;exact ⟨qQr R.o.symm,H.o⟩
 have G:(t==[97])=false:=by
  have:(t==aT)=false:=by simpa using i
  exact this
 have hb1:(t==[105,110,112,117,116])=false:=by
  have:(t==qGm)=false:=by simpa using j
  exact this
 have hb2:(t==[105,109,103])=false:=by
  have:(t==imgT)=false:=by simpa using o
  exact this
 have hb3:(t==[115,101,99,116,105,111,110])=false:=by
  have:(t==qWq)=false:=by simpa using q
  exact this
 have R:Hi (qZl d (p:Int)=qVg t):=lH (by rw [k.o,if_neg i,if_neg j,if_neg o,if_neg q]);clear u k i j o q;go_enter Tryz.func32,Tryz.ntmps32
 go_wp2_with (first | (go_at_call 69;refine qQe (y.o _) H fun V H=>?_;clear y))
 go_ret;exact ⟨qQr R.o.symm,H.o⟩
theorem zX6 (A b c e f g a:Value) (w:World):(Instr.field 57 (.agg #[A,b,c,e,f,g,a]) 6).run Tryz.prog w=.ok a w:=by kernel_rfl
theorem zXl (g:Good d) {x:Int} (h:0<=x):qVi d x=if qQd d x=0∨qQd d x=18 then qVi d (upR d x) else qQd d x:=(zYv g x h).2
theorem zXd (d:Dc) (g:Good d) (c:Int->Nat) (hμ:∀ n,0<=upR d n->c (upR d n)<c n):∀ (f:Nat) (m:Nat) (v:Value) (n:Int) (w:World),c n<f->qZh m w v d->m<=w.heap.size ->
 Calls Tryz.prog 14 #[v,.int .i64 n] w (Rb (.int .i64 (qQd d n)) w):=by
 intro f;induction f with
 | zero=>intro m v n w h;omega
 | succ f ih=>
 intro m v n w hf hv q;have I:=lH (qQ5 m v d n false w hv);cases o:isM d n false with
 | false=>
   rw [o] at I;rw [zVz o];obtain ⟨va,vc,rfl,v1,v2⟩:=Rf hv;go_enter Tryz.func14,Tryz.ntmps14
   go_wp2_with (go_at_call 13;refine I.o.mono ?_;rintro e V ⟨rfl,rfl⟩)
   go_ret;exact ⟨rfl,Br _⟩
 | true=>
   rw [o] at I;have hst:=(zYv g n (qQh.1 o).1).1;rw [o] at hst;have Z:=lH (fun W (h:Bel w W)=>qDx m v d n W (hv.later h q) (Za q h.size) g);have a5:=lH (fun W (h:Bel w W)=>zJ2 m v d n W (hv.later h q) (Za q h.size) g o);have a0:=lH (fun W x (h:Bel w W)=>qX7 m v d x W (hv.later h q) (Za q h.size) g);have a6:Hi (∀ W x,Bel w W->c x<f->Calls Tryz.prog 14 #[v,.int .i64 x] W (Rb (.int .i64 (qQd d x)) W)):=lH (fun W x h i=>ih m v x W i (hv.later h q) (Za q h.size));have a4:Hi (0<=upR d n->c (upR d n)<f):=lH (fun h=>by have:=hμ n h;omega);obtain ⟨p,hp,rfl,-⟩:=qQy.1 o;obtain ⟨af,ap,ag,av,kv,sv,rfl,v1,v2,ah,hN⟩:=hv.node p hp;have c1:=hN.tag;rw [qQ2 hp] at hst;have a2:Hi (qQd d (p:Int)=if d[p].tag.isEmpty then 10 else if (kOf (qXh d p)).need=0 then qXh d p else if qVi d (upR d p)=(kOf (qXh d p)).need then qXh d p else 18):=lH (by rw [hst];simp);clear hN o hv hst;generalize d[p].tag=tg at *
   have H:=lH (Br w);cases a7:tg.isEmpty with
   | true=>
     have R:Hi (qQd d (p:Int)=10):=lH (by rw [a2.o,if_pos a7]);go_enter Tryz.func14,Tryz.ntmps14
     go_wp2_with (go_at_call 13;refine I.o.mono ?_;rintro e V ⟨rfl,rfl⟩)
     go_ret;exact ⟨qQr R.o.symm,Br _⟩
   | false=>
     have Y:Hi (qXh d p=if qWf d p<0 then qZl d p else qWf d p):=lH rfl;have J:Hi (qQd d (p:Int)=if (kOf (qXh d p)).need=0 then qXh d p else if qVi d (upR d p)=(kOf (qXh d p)).need then qXh d p else 18):=lH (by rw [a2.o,if_neg (by simp [a7])]);have K:=lH (qKt (qXh d p));clear a2;have ai:=zX6;have ac:=zBr (qXh d p);generalize qWf d (p:Int)=F at *
     generalize qZl d (p:Int)=tr at *
     generalize qXh d (p:Int)=s at *
     have ad:∀ (ae:F<0∨0<=F),True:=fun _=>trivial;clear ad;generalize a9:kOf s=kk at *
     clear a9;obtain ⟨ao,ak,al,am,aj,an,k⟩:=kk;simp only at K J ac;by_cases a1:k=0
     ·have ab:(k==0)=true:=(by simpa using a1);have R:Hi (qQd d (p:Int)=s):=lH (by rw [J.o,if_pos a1]);clear J;by_cases T:F<0
      ·have A:s=tr:=(by have:=Y.o;rwa [if_pos T] at this);subst A;go_enter Tryz.func14,Tryz.ntmps14
       go_wp2_with (first
 | (go_at_call 13;refine I.o.mono ?_;rintro e V ⟨rfl,rfl⟩)
 | (go_at_call 31;refine qQe (Z.o _ H.o) H fun w2 H=>?_)
 | (go_at_call 32;refine qQe (a5.o _ H.o) H fun w3 H=>?_)
 | (go_at_call 15;refine qQe (K.o _) H fun w4 H=>?_))
       go_ret
       exact ⟨qQr R.o.symm,H.o⟩
      ·have A:s=F:=by have:=Y.o;rwa [if_neg T] at this
       subst A
       go_enter Tryz.func14,Tryz.ntmps14
       go_wp2_with (first
 | (go_at_call 13;refine I.o.mono ?_;rintro e V ⟨rfl,rfl⟩)
 | (go_at_call 31;refine qQe (Z.o _ H.o) H fun w2 H=>?_)
 | (go_at_call 15;refine qQe (K.o _) H fun w4 H=>?_))
       go_ret
       exact ⟨qQr R.o.symm,H.o⟩
     ·have ab:(k==0)=false:=by simpa using a1
      have E:Hi (qQd d (p:Int)=if qVi d (upR d p)=k then s else 18):=lH (by rw [J.o,if_neg a1])
      clear J
      have aa:∀ x:Int,True:=fun _=>trivial
      clear aa
      by_cases T:F<0
      ·have A:s=tr:=by have:=Y.o;rwa [if_pos T] at this
       subst A
       go_enter Tryz.func14,Tryz.ntmps14
       go_wp2_with (first
 | (go_at_call 13;refine I.o.mono ?_;rintro e V ⟨rfl,rfl⟩)
 | (go_at_call 31;refine qQe (Z.o _ H.o) H fun w2 H=>?_)
 | (go_at_call 32;refine qQe (a5.o _ H.o) H fun w3 H=>?_)
 | (go_at_call 15;refine qQe (K.o _) H fun w4 H=>?_)
 | (go_at_call 33;refine qQe (a0.o _ (p:Int) H.o) H fun w5 H=>?_))
       go_loopw [7] (fun z wr=>∃ x:Int,z=.int .i64 x/\qVi d x=qVi d (upR d p)/\(0<=x->c x<f)/\Bel w wr) (fun z _=>if intOf z<0 then 0 else c (intOf z)+1)
       case atStart=>exact ⟨_,rfl,rfl,a4.o,H.o⟩
       case round=>
        obtain ⟨x,rfl,P,Q,O⟩:=hrel;have l:=lH P;have X:=lH Q;have B:=lH O;clear P Q O c1;by_cases i:0<=x
        ·have C:=lH (a6.o _ x B.o (X.o i));have U:=zXl g i;have M:Hi (0<=upR d x->c (upR d x)<c x):=lH (hμ x);have N:=lH (fun W (h:Bel w W)=>a0.o W x h);have S:=lH U;clear U;generalize qQd d x=r at *
         generalize hu:upR d x=u at *
         clear hu;by_cases b:r=k
         ·have a3:(r==k)=true:=(by simpa using b);have R:Hi (qQd d (p:Int)=s):=lH (by rw [E.o,if_pos];rw [<- l.o,S.o,if_neg (by omega),b]);clear b;go_wp2_with (go_at_call 14;refine qQe C.o B fun D a=>?_)
          go_ret;exact ⟨qQr R.o.symm,a.o⟩
         ·have a3:(r==k)=false:=(by simpa using b);by_cases hg:r=0∨r=18
          ·have G:Hi (qVi d u=qVi d (upR d p)):=lH (by rw [<- l.o,S.o,if_pos hg]);have a8:(r != 0&&r != 18)=false:=(by rcases hg with h | h <;> simp [h]);rcases hg with h | h
           ·subst h;clear b;go_wp2_with (first
 | (go_at_call 14;refine qQe C.o B fun D a=>?_)
 | (go_at_call 33;refine qQe (N.o _ a.o) a fun w7 t=>?_))
            go_roundw
            case rel=>exact ⟨u,rfl,G.o,fun h=>by have:=M.o h;have:=X.o i;omega,t.o⟩
            case measure=>
             simp only [intOf];have j:¬ x<0:=(by omega);by_cases y:u<0
             ·simp [y,j]
             ·have:=M.o (by omega);simp [y,j];omega
           ·subst h
            clear b
            go_wp2_with (first
 | (go_at_call 14;refine qQe C.o B fun D a=>?_)
 | (go_at_call 33;refine qQe (N.o _ a.o) a fun w7 t=>?_))
            go_roundw
            case rel=>exact ⟨u,rfl,G.o,fun h=>by have:=M.o h;have:=X.o i;omega,t.o⟩
            case measure=>
             simp only [intOf];have j:¬ x<0:=(by omega);by_cases y:u<0
             ·simp [y,j]
             ·have:=M.o (by omega);simp [y,j];omega
          ·have h1:(r != 0)=true:=by simp;omega
           have h2:(r != 18)=true:=by simp;omega
           have R:Hi (qQd d (p:Int)=18):=lH (by rw [E.o,if_neg];rw [<- l.o,S.o,if_neg hg];exact b)
           clear b hg
           go_wp2_with (go_at_call 14;refine qQe C.o B fun D a=>?_)
           go_ret
           exact ⟨qQr R.o.symm,a.o⟩
        ·have R:Hi (qQd d (p:Int)=18):=lH (by rw [E.o,if_neg];rw [<- l.o,zV6 (by omega)];omega)
         go_wp2
         go_ret
         exact ⟨qQr R.o.symm,B.o⟩
      ·have A:s=F:=by have:=Y.o;rwa [if_neg T] at this
       subst A
       go_enter Tryz.func14,Tryz.ntmps14
       go_wp2_with (first
 | (go_at_call 13;refine I.o.mono ?_;rintro e V ⟨rfl,rfl⟩)
 | (go_at_call 31;refine qQe (Z.o _ H.o) H fun w2 H=>?_)
 | (go_at_call 15;refine qQe (K.o _) H fun w4 H=>?_)
 | (go_at_call 33;refine qQe (a0.o _ (p:Int) H.o) H fun w5 H=>?_))
       go_loopw [7] (fun z wr=>∃ x:Int,z=.int .i64 x/\qVi d x=qVi d (upR d p)/\(0<=x->c x<f)/\Bel w wr) (fun z _=>if intOf z<0 then 0 else c (intOf z)+1)
       case atStart=>exact ⟨_,rfl,rfl,a4.o,H.o⟩
       case round=>
        obtain ⟨x,rfl,P,Q,O⟩:=hrel;have l:=lH P;have X:=lH Q;have B:=lH O;clear P Q O c1;by_cases i:0<=x
        ·have C:=lH (a6.o _ x B.o (X.o i));have U:=zXl g i;have M:Hi (0<=upR d x->c (upR d x)<c x):=lH (hμ x);have N:=lH (fun W (h:Bel w W)=>a0.o W x h);have S:=lH U;clear U;generalize qQd d x=r at *
         generalize hu:upR d x=u at *
         clear hu;by_cases b:r=k
         ·have a3:(r==k)=true:=(by simpa using b);have R:Hi (qQd d (p:Int)=s):=lH (by rw [E.o,if_pos];rw [<- l.o,S.o,if_neg (by omega),b]);clear b;go_wp2_with (go_at_call 14;refine qQe C.o B fun D a=>?_)
          go_ret;exact ⟨qQr R.o.symm,a.o⟩
         ·have a3:(r==k)=false:=(by simpa using b);by_cases hg:r=0∨r=18
          ·have G:Hi (qVi d u=qVi d (upR d p)):=lH (by rw [<- l.o,S.o,if_pos hg]);have a8:(r != 0&&r != 18)=false:=(by rcases hg with h | h <;> simp [h]);rcases hg with h | h
           ·subst h;clear b;go_wp2_with (first
 | (go_at_call 14;refine qQe C.o B fun D a=>?_)
 | (go_at_call 33;refine qQe (N.o _ a.o) a fun w7 t=>?_))
            go_roundw
            case rel=>exact ⟨u,rfl,G.o,fun h=>by have:=M.o h;have:=X.o i;omega,t.o⟩
            case measure=>
             simp only [intOf];have j:¬ x<0:=(by omega);by_cases y:u<0
             ·simp [y,j]
             ·have:=M.o (by omega);simp [y,j];omega
           ·subst h
            clear b
            go_wp2_with (first
 | (go_at_call 14;refine qQe C.o B fun D a=>?_)
 | (go_at_call 33;refine qQe (N.o _ a.o) a fun w7 t=>?_))
            go_roundw
            case rel=>exact ⟨u,rfl,G.o,fun h=>by have:=M.o h;have:=X.o i;omega,t.o⟩
            case measure=>
             simp only [intOf];have j:¬ x<0:=(by omega);by_cases y:u<0
             ·simp [y,j]
             ·have:=M.o (by omega);simp [y,j];omega
          ·have h1:(r != 0)=true:=by simp;omega
           have h2:(r != 18)=true:=by simp;omega
           have R:Hi (qQd d (p:Int)=18):=lH (by rw [E.o,if_neg];rw [<- l.o,S.o,if_neg hg];exact b)
           clear b hg
           go_wp2_with (go_at_call 14;refine qQe C.o B fun D a=>?_)
           go_ret
           exact ⟨qQr R.o.symm,a.o⟩
        ·have R:Hi (qQd d (p:Int)=18):=lH (by rw [E.o,if_neg];rw [<- l.o,zV6 (by omega)];omega)
         go_wp2
         go_ret
         exact ⟨qQr R.o.symm,B.o⟩
theorem qKa (m:Nat) (v:Value) (d:Dc) (n:Int) (w:World) (hv:qZh m w v d) (hm:m<=w.heap.size) (g:Good d) :
 Calls Tryz.prog 14 #[v,.int .i64 n] w (Rb (.int .i64 (qQd d n)) w):=by
 obtain ⟨a,-,h⟩:=qWz g;exact zXd d g a h (a n+1) m v n w (Nat.lt_succ_self _) hv hm
theorem up_is (g:Good d) (h:0<=upR d n):isM d (upR d n) false=true:=by
 obtain ⟨r,G⟩:=g.tree;rw [qGk G] at h ⊢;rcases zQ7 G n with H | H
 ·omega
 ·exact H
theorem zH8 (g:Good d) (h:isM d n false=false):qZa d n=true:=by rw [qFn g,h];rfl
theorem hid_step (g:Good d) (h:isM d n false=true):qZa d n=(offM d n||(decide (n≠0)&&qZa d (upR d n))):=by rw [qFn g,h];rfl
theorem not_neg (h:n<0):isM d n false=false:=by
 cases H:isM d n false with
 | false=>rfl
 | true=>have:=(qQh.1 H).1;omega
theorem qVn (m:Nat) (v:Value) (d:Dc) (n:Int) (w:World) (hv:qZh m w v d) (hm:m<=w.heap.size) (g:Good d) :
 Calls Tryz.prog 72 #[v,.int .i64 n] w (Rb (.bool (qZa d n)) w):=by
 have c:=lH (qQ5 m v d n false w hv);obtain ⟨P,-,y⟩:=qWz g;cases i:isM d n false with
 | false=>
   rw [i] at c;have o:=lH (zH8 g i);obtain ⟨F,G,rfl,V,D⟩:=Rf hv;go_enter Tryz.func72,Tryz.ntmps72
   go_wp2_with (go_at_call 13;refine c.o.mono ?_;rintro e J ⟨rfl,rfl⟩)
   go_ret;rw [o.o];exact ⟨rfl,Br _⟩
 | true=>
   rw [i] at c;have O:=lH (fun W x (h:Bel w W)=>zJf m v d x W (hv.later h hm) (Za hm h.size) g);have s:=lH (fun W x (h:Bel w W)=>qX7 m v d x W (hv.later h hm) (Za hm h.size) g);have S:=lH (fun x a=>hid_step g (n:=x) a);have N:=lH (fun x a=>zH8 g (n:=x) a);have q:=lH (fun x a=>up_is g (n:=x) a);have I:=lH i;obtain ⟨F,G,rfl,V,D⟩:=Rf hv;clear hv i;go_enter Tryz.func72,Tryz.ntmps72
   go_wp2_with (go_at_call 13;refine c.o.mono ?_;rintro e J ⟨rfl,rfl⟩)
   go_loopw [1] (fun z wr=>∃ x:Int,z=.int .i64 x/\isM d x false=true/\qZa d x=qZa d n/\Bel w wr) (fun z _=>P (intOf z))
   case atStart=>exact ⟨n,rfl,I.o,rfl,Br _⟩
   case round=>
    obtain ⟨x,rfl,a,hE,j⟩:=hrel;have X:=lH a;have E:=lH hE;have B:=lH j;have T:=lH (S.o x a);have C:=lH (O.o _ x j);have l:=lH (fun W h=>s.o W x h);have r:=lH (q.o x);have p:=lH (y x);clear a hE j c;generalize offM d x=A at *
    cases A with
    | true=>
      have R:Hi (qZa d n=true):=lH (by rw [<- E.o,T.o];rfl);go_wp2_with (go_at_call 112;refine qQe C.o B fun k H=>?_)
      go_ret;rw [R.o];exact ⟨rfl,H.o⟩
    | false=>
      by_cases b:x=0
      ·subst b;have R:Hi (qZa d n=false):=lH (by rw [<- E.o,T.o];rfl);go_wp2_with (go_at_call 112;refine qQe C.o B fun k H=>?_)
       go_ret;rw [R.o];exact ⟨rfl,H.o⟩
      ·have Y:(x==0)=false:=(by simpa using b);have Q:Hi (qZa d n=qZa d (upR d x)):=lH (by rw [<- E.o,T.o];simp [b]);clear b;generalize upR d x=u at *
       by_cases t:u<0
       ·have R:Hi (qZa d n=true):=lH (by rw [Q.o,N.o _ (not_neg t)]);go_wp2_with (first
 | (go_at_call 112;refine qQe C.o B fun k H=>?_)
 | (go_at_call 33;refine qQe (l.o _ H.o) H fun K f=>?_))
        go_ret
        rw [R.o]
        exact ⟨rfl,f.o⟩
       ·have U:=lH (r.o (by omega))
        have M:=lH (p.o (by omega))
        go_wp2_with (first
 | (go_at_call 112;refine qQe C.o B fun k H=>?_)
 | (go_at_call 33;refine qQe (l.o _ H.o) H fun K f=>?_))
        go_roundw
        case rel=>exact ⟨u,rfl,U.o,Q.o.symm,f.o⟩
        case measure=>simp only [intOf];exact M.o

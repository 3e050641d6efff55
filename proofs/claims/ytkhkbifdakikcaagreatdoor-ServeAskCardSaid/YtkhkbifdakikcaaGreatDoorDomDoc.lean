/- The walks of chapter 1's code: Blank, Lower, Tokens, Num, Name. -/
import Derived.Test.YtkhkbifdakikcaaGreatDoorShelf
import Derived.Deep.RegionHeld
import Derived.Deep.Slices
import Derived.SizedLaws
set_option maxRecDepth 100000
set_option maxHeartbeats 2000000
namespace Go.Proofs.YtkhkbifdakikcaaGreatDoor
open Go.RowKit
variable {d:Dc} {e n:Int} {r:Int×Int×Dc} {m:Nat} {u v:Value} {w w':World}
theorem qFb:SlT Tryz.prog 98 9 1 16:=by
 refine ⟨by kernel_rfl,?_⟩;obtain ⟨i,h,H,a,b⟩:=info_parts (by kernel_rfl:(Tryz.prog.info? 9).map (fun i=>(i.zero,i.size,i.bytes))=some (some (.string ⟨#[]⟩),1,16));exact ⟨i,_,h,H,a,b,rfl⟩
theorem u8_ne {c:UInt8} {k:Nat} (H:k<256) (h:c≠UInt8.ofNat k):((c.toNat:Int)==(k:Int))=false:=by
 rw [beq_eq_false_iff_ne];intro e;refine h (UInt8.toNat_inj.1 ?_);have:c.toNat=k:=by omega
 rw [this];simp;omega
theorem qY3 (c:UInt8) (w:World):Calls Tryz.prog 77 #[.int .u8 (c.toNat:Int)] w (Rv (.bool (blank c)) w):=by
 by_cases h:c=32∨c=9∨c=10∨c=13
 ·have H:blank c=true:=by rcases h with rfl | rfl | rfl | rfl <;> rfl
  rw [H];rcases h with rfl | rfl | rfl | rfl;all_goals
   clear H
   go_enter Tryz.func77,Tryz.ntmps77
   go_wp2
   go_ret
   exact ⟨rfl,rfl⟩
 ·have a:((c.toNat:Int)==32)=false:=u8_ne (k:=32) (by omega) (fun e=>h (.inl e));have b:((c.toNat:Int)==9)=false:=u8_ne (k:=9) (by omega) (fun e=>h (.inr (.inl e)));have g:((c.toNat:Int)==10)=false:=u8_ne (k:=10) (by omega) (fun e=>h (.inr (.inr (.inl e))));have i:((c.toNat:Int)==13)=false:=u8_ne (k:=13) (by omega) (fun e=>h (.inr (.inr (.inr e))));have H:blank c=false:=by simp [blank];exact ⟨⟨⟨fun e=>h (.inl e),fun e=>h (.inr (.inl e))⟩,fun e=>h (.inr (.inr (.inl e)))⟩,fun e=>h (.inr (.inr (.inr e)))⟩
  rw [H];clear H h;go_enter Tryz.func77,Tryz.ntmps77
  go_wp2;go_ret;exact ⟨rfl,rfl⟩
def fromI:Option Nat->Int
 | none=>-1
 | some a=>(a:Int)
theorem zFu (s:List UInt8) (a k:Nat):(ByteArray.mk s.toArray).extract a k=⟨((s.drop a).take (k - a)).toArray⟩:=ByteArray.extract_mk s a k
theorem qYg (s:List UInt8) (w:World) (Q:s.length<=8000000000000) :
 Calls Tryz.prog 40 #[.string ⟨s.toArray⟩] w (Rn w fun w' v=>qQb 1 qHg w.heap.size 9 w' v (toks s)):=by
 have N:s.length<=9223372036854775806:=by omega
 have I:=lH (qY6 s);go_enter Tryz.func40,Tryz.ntmps40
 go_wp2;go_loopw [10,3,4] (fun i v f wr=>∃ (k:Nat) (o:List (List UInt8)) (c:Option Nat),k<=s.length+1/\i=.int .i64 k/\f=.int .i64 (fromI c)/\qJ5 s o c k/\qQb 1 qHg w.heap.size 9 wr v o/\Below w.heap.size w wr) (fun i _ _ _=>s.length+1 - (intOf i).toNat)
 case atStart=>exact ⟨0,[],none,by omega,rfl,rfl,zBi s,qQb.nil _ _ _,Below.refl _ _⟩
 case round=>
  obtain ⟨k,o,c,K,rfl,rfl,D,A,z⟩:=hrel;have C:=lH D;have H:=lH A;have B:=lH z;clear D A z;by_cases x:k<=s.length
  ·have M:k<s.length+1:=(by omega);have P:o.length<=s.length:=Za (scan_len C.o) I.o;cases c with
   | none=>
     have G:fromI none = -1:=rfl;by_cases e:k=s.length
     ·have q:((k:Int)==(s.length:Int))=true:=(by simp;omega);have S:=lH (qV2 C.o x (fun p=>by omega));clear e;go_wp2;go_roundw;case rel=>exact ⟨k+1,o,none,by omega,by go_num,rfl,S.o,H.o,B.o⟩
      case measure=>simp [intOf];omega
     ·have q:((k:Int)==(s.length:Int))=false:=(by simp;omega);have t:k<s.length:=(by omega);cases h:blank s[k] with
      | true=>
        have S:=lH (qV2 C.o x (fun p=>h));go_wp2_with (go_at_call 77;refine (qY3 s[k] _).mono ?_;rintro e W ⟨rfl,rfl⟩)
        go_roundw;case rel=>exact ⟨k+1,o,none,by omega,by go_num,rfl,S.o,H.o,B.o⟩
        case measure=>simp [intOf];omega
      | false=>
        have S:=lH (zXp C.o t h);go_wp2_with (go_at_call 77;refine (qY3 s[k] _).mono ?_;rintro e W ⟨rfl,rfl⟩)
        go_roundw;case rel=>exact ⟨k+1,o,some k,by omega,by go_num,rfl,S.o,H.o,B.o⟩
        case measure=>simp [intOf];omega
   | some a=>
     have G:fromI (some a)=(a:Int):=rfl;have J:a<k:=(zJq C.o).1;have y:=B.o.size;have E:=lH (congrArg (fun b=>[Value.string b]) (zFu s a k));by_cases F:k=s.length
     ·have q:((k:Int)==(s.length:Int))=true:=(by simp;omega);have S:=lH (qVt C.o (fun p=>by omega));clear F;go_wp2_with (at_builtin;go_must (refine qK4 rfl _ _ _ rfl qFb (by decide) qXd zJz rfl H.o rfl rfl ((s.drop a).take (k - a)) ⟨rfl,E.o⟩ (by omega) (by omega) y ?_);intro V W O g;have l:=lH O;have j:=lH (Below.own B.o (Zb _) H.o g);clear O g)
      go_roundw;case rel=>exact ⟨k+1,_,none,by omega,by go_num,rfl,S.o,l.o,j.o⟩
      case measure=>simp [intOf];omega
     ·have q:((k:Int)==(s.length:Int))=false:=(by simp;omega);have t:k<s.length:=(by omega);cases h:blank s[k] with
      | true=>
        have S:=lH (qVt C.o (fun p=>h));go_wp2_with (first
 | (at_builtin;go_must (refine qK4 rfl _ _ _ rfl qFb (by decide) qXd zJz rfl H.o rfl rfl ((s.drop a).take (k - a)) ⟨rfl,E.o⟩ (by omega) (by omega) y ?_);intro V W O g;have l:=lH O;have j:=lH (Below.own B.o (Zb _) H.o g);clear O g)
 | (go_at_call 77;refine (qY3 s[k] _).mono ?_;rintro e W ⟨rfl,rfl⟩))
        go_roundw
        case rel=>exact ⟨k+1,_,none,by omega,by go_num,rfl,S.o,l.o,j.o⟩
        case measure=>simp [intOf];omega
      | false=>
        have S:=lH (zKg C.o t h);go_wp2_with (go_at_call 77;refine (qY3 s[k] _).mono ?_;rintro e W ⟨rfl,rfl⟩)
        go_roundw;case rel=>exact ⟨k+1,o,some a,by omega,by go_num,rfl,S.o,H.o,B.o⟩
        case measure=>simp [intOf];omega
  ·obtain rfl:c=none:=by cases c with | none=>rfl | some a=>exact absurd (zJq C.o).2 x
   go_wp2
   go_ret
   exact ⟨B.o,_,rfl,by rw [<- zHm C.o (by omega)];exact H.o⟩
theorem qDv:Tryz.prog.underlying 39=some (.slice 5):=by kernel_rfl
theorem zZ0:Tryz.prog.underlying 5=some (.int .u8):=by kernel_rfl
theorem qHv:Tryz.prog.underlying 9=some .string:=by kernel_rfl
theorem qH1 (B:Nat->Prop) (v:Value) (l:List (List UInt8)) (w:World) (hv:zDa B w v l) (G:wsum l<=140737488355328) :
 Calls Tryz.prog 75 #[v,.string ⟨#[32]⟩] w (Rb (.string ⟨(join l).toArray⟩) w):=by
 have E:l.length<=wsum l:=by
  clear hv G;induction l with
  | nil=>simp
  | cons x r J=>simp [wsum] at *;omega
 rcases hv with ⟨rfl,rfl⟩ | ⟨b,o,c,rfl,i,A,p⟩
 ·exact (Go.Proofs.Tryz.strings_Join_none none 0 ⟨#[32]⟩ w).mono fun e w' ⟨a,g⟩=>⟨a,by rw [g];exact Below.refl _ _⟩
 ·cases l with
  | nil=>exact (Go.Proofs.Tryz.strings_Join_none (some ⟨b,o,none⟩) c ⟨#[32]⟩ w).mono fun e w' ⟨a,g⟩=>⟨a,by rw [g];exact Below.refl _ _⟩
  | cons x r=>
    have hv:zDa B w (.slice (some ⟨b,o,none⟩) (x::r).length c) (x::r):=.inr ⟨b,o,c,rfl,i,A,p⟩;obtain ⟨_,cs,C,z,c3⟩:=p 0 (by simp);have D:b<w.heap.size:=z.lt (by intro e;rw [e] at C;simp at C);have q:Lib.join (((x::r).map (fun s=>(⟨s.toArray⟩:ByteArray))).map (·.data.toList)) (ByteArray.mk #[32]).data.toList=join (x::r):=by
     rw [List.map_map];have:((fun s:ByteArray=>s.data.toList) ∘ fun s:List UInt8=>(⟨s.toArray⟩:ByteArray))=id:=(by funext s;simp);rw [this,List.map_id];exact qGw (x::r)
    have F:=qF8 (x::r);have I:=F.2 (by simp);have k:=Go.Proofs.Tryz.strings_Join b o c ((x::r).map (fun s=>(⟨s.toArray⟩:ByteArray))) ⟨#[32]⟩ w ?_ D (by simp at E ⊢;omega) (by simpa using i) (by rw [q];omega)
    ·rw [q] at k;simp only [List.length_map] at k;exact k.mono fun e w' h=>h
    ·intro j y H;have t:j<(x::r).length:=by
      have:=(List.getElem?_eq_some_iff.1 H).1;simpa using this
     rw [hv.str_cell j t];rw [List.getElem?_map,Zi t] at H;simp at H;simp [H]
theorem qJf (s:List UInt8) (w:World) (H:s.length<=8000000000000) :
 Calls Tryz.prog 68 #[.string ⟨s.toArray⟩] w (Rb (.string ⟨(qQn s).toArray⟩) w):=by
 have g:=zG2 s;go_enter Tryz.func68,Tryz.ntmps68
 go_wp2_with fail
 (with_reducible refine (qYg s _ H).mono ?_)
 rintro e W ⟨b,v,rfl,h⟩;have a:=lH b;clear b;go_wp2_with fail
 (with_reducible refine (qH1 _ _ _ _ h.row (by omega)).mono ?_)
 rintro e i ⟨rfl,B⟩;have c:=lH (Bt a.o B);clear B;go_wp2;go_ret;exact ⟨rfl,c.o⟩
theorem qBh (s:List UInt8) (w:World) (V:s.length<=8000000000000) :
 Calls Tryz.prog 65 #[.string ⟨s.toArray⟩] w (Rb (.string ⟨(qKd s).toArray⟩) w):=by
 go_enter Tryz.func65,Tryz.ntmps65
 go_wp2_with (with_reducible refine zQe rfl _ _ _ rfl qHv qDv zZ0 rfl ?_;intro P W l G M;have g:=lH l;have b:=lH ((Below.refl w.heap.size w).grown G (Zb _) (by simp));clear l G M)
 go_loopw [10] (fun i wr=>∃ k:Nat,k<=s.length/\i=.int .i64 k/\qK6 wr w.heap.size (qBz s k)/\Below w.heap.size w wr) (fun i _=>s.length - (intOf i).toNat)
 case atStart=>exact ⟨0,by omega,rfl,by rw [zBd];exact g.o,b.o⟩
 case round=>
  obtain ⟨k,R,rfl,A,p⟩:=hrel;clear g b;have H:=lH A;have B:=lH p;clear A p;by_cases t:k<s.length
  ·have a:k<(qBz s k).length:=(by rw [zXc];exact t);have F:=H.o.cell a;have T:=H.o.mark a;rw [zV9 t] at F;have E:=lH (zZn t);have S:=lH (zBc t);generalize s[k]=c at *
   have Q:c.toNat<256:=c.toNat_lt;by_cases y:65<=c.toNat/\c.toNat<=90
   ·obtain ⟨C,D⟩:=y;have U:=lH (low_up C D);go_wp2;go_roundw;case rel=>
     refine ⟨k+1,by omega,by go_num,?_,B.o.setCell (Zb _) _⟩;rw [E.o,U.o.1];exact qK6.store H.o a (c+32) _ (by rw [U.o.2];rfl)
    case measure=>simp [intOf];omega
   ·have I:=lH (low_id (c:=c) (by omega));have K:c.toNat<65∨90<c.toNat:=(by omega);clear y;rcases K with h | h;all_goals
     go_wp2
     go_roundw
     case rel=>exact ⟨k+1,by omega,by go_num,by rw [S.o I.o];exact H.o,B.o⟩
     case measure=>simp [intOf];omega
  ·have q:k=s.length:=(by omega);have O:=lH q;have z:∀ j (h:j<(qKd s).length),wr.cell? ⟨w.heap.size,j,none⟩=some (.int .u8 ((qKd s)[j].toNat:Int)):=by
    intro j J;have:=zFj s k (by omega);have o:=H.o;rw [this] at o;exact o.cell J
   have X:=lH z;have x:=qGl s;have N:=lH x.symm;clear z x q;go_wp2_with ((with_reducible refine zK8 rfl _ _ _ rfl qDv zZ0 qHv rfl N.o X.o ?_))
   go_ret;exact ⟨rfl,B.o⟩
theorem zF4 (s:List UInt8) (w:World) (J:s.length<=8000000000000) :
 Calls Tryz.prog 130 #[.string ⟨s.toArray⟩] w (Rb (.int .i64 (num s)) w):=by
 have N:=lH (show num s=if 1<=(qQn s).length/\(qQn s).length<=2 then numF 0 (qQn s) else 0 from rfl);have sq:=lH (qJf s · J);generalize qQn s=q at *
 by_cases H:1<=q.length/\q.length<=2
 ·have a:num s=numF 0 q:=by rw [N.o,if_pos H]
  rw [a];clear N a;obtain ⟨V,X⟩:=H;go_enter Tryz.func130,Tryz.ntmps130
  go_wp2_with fail
  (with_reducible refine (sq.o _).mono ?_)
  rintro e W ⟨rfl,b⟩;have B:=lH b;clear b;go_wp2_with (with_reducible refine zQe rfl _ _ _ rfl qHv qDv zZ0 rfl ?_;intro K Y g G S;have C:=lH g;have p:=lH (B.o.grown G B.o.size (by simp));clear g G S)
  go_loop [19,3] (fun i f=>∃ (k:Nat) (n:Int),k<=q.length/\i=.int .i64 k/\f=.int .i64 n/\numF n (q.drop k)=numF 0 q/\0<=n/\n<=(if k=0 then 0 else if k=1 then 9 else 99)) (fun i _=>q.length - (intOf i).toNat)
  case atStart=>exact ⟨0,0,by omega,rfl,rfl,rfl,by omega,by simp⟩
  case round=>
   obtain ⟨k,n,R,rfl,rfl,z,T,A⟩:=hrel;have o:=lH z;have t:=lH A;clear z A;by_cases y:k<q.length
   ·have M:=C.o.cell y;have U:n<=9:=(by have:=t.o;split at this <;> (try split at this) <;> omega);have D:Hi (numF n (q[k]::q.drop (k+1))=numF 0 q):=lH (by rw [<- List.drop_eq_getElem_cons y];exact o.o);clear o;generalize q[k]=c at *
    have O:c.toNat<256:=c.toNat_lt;by_cases j:48<=c.toNat/\c.toNat<=57
    ·have l:Hi (numF (10*n+((c.toNat:Int) - 48)) (q.drop (k+1))=numF 0 q):=lH (by
      have:=D.o;simp only [numF] at this;rwa [if_pos (by simp only [digit,Bool.and_eq_true,decide_eq_true_eq,UInt8.le_iff_toNat_le];exact ⟨by simpa using j.1,by simpa using j.2⟩)] at this)
     clear D;obtain ⟨P,Q⟩:=j;go_wp2;go_round
     case rel=>refine ⟨k+1,_,by omega,by go_num,rfl,l.o,by omega,?_⟩;have:=t.o;split at this <;> (try split at this) <;> simp <;> omega
     case measure=>simp [intOf];omega
    ·have l:Hi (numF 0 q=0):=lH (by
      have:=D.o;simp only [numF] at this;rw [if_neg (by simp only [digit,Bool.and_eq_true,decide_eq_true_eq,UInt8.le_iff_toNat_le];intro x;have g:=x.1;have E:=x.2;simp at g E;omega)] at this;exact this.symm)
     have F:c.toNat<48∨57<c.toNat:=(by omega);clear j D;rcases F with h | h;all_goals
      go_wp2
      go_ret
      exact ⟨qQr l.o.symm,p.o⟩
   ·go_wp2;go_ret;exact ⟨qQr (by have:=o.o;rw [List.drop_eq_nil_of_le (by omega)] at this;exact this),p.o⟩
 ·have a:num s=0:=by rw [N.o,if_neg H]
  rw [a];clear N a;have I:q.length=0∨2<q.length:=by omega
  clear H;rcases I with H | H
  ·obtain rfl:q=[]:=List.eq_nil_of_length_eq_zero H;clear H;go_enter Tryz.func130,Tryz.ntmps130
   go_wp2_with fail
   (with_reducible refine (sq.o _).mono ?_)
   rintro e W ⟨rfl,b⟩;have B:=lH b;clear b;go_wp2;go_ret;exact ⟨rfl,B.o⟩
  ·go_enter Tryz.func130,Tryz.ntmps130
   go_wp2_with fail
   (with_reducible refine (sq.o _).mono ?_)
   rintro e W ⟨rfl,b⟩;have B:=lH b;clear b;go_wp2;go_ret;exact ⟨rfl,B.o⟩
theorem zZo (s:List UInt8) (w:World) (O:s.length<=9223372036854775807) :
 Calls Tryz.prog 119 #[.string ⟨s.toArray⟩] w (Rv (.bool (name s)) w):=by
 by_cases p:1<=s.length/\s.length<=20
 ·obtain ⟨B,E⟩:=p;have N:Hi (name s=qV1 0 s):=lH (by simp [name,B,E]);go_enter Tryz.func119,Tryz.ntmps119
  go_wp2;go_loop [15] (fun i=>∃ k:Nat,k<=s.length/\i=.int .i64 k/\qV1 0 s=qV1 k (s.drop k)) (fun i=>s.length - (intOf i).toNat)
  case atStart=>exact ⟨0,by omega,rfl,rfl⟩
  case round=>
   obtain ⟨k,M,rfl,q⟩:=hrel;have H:=lH q;clear q;by_cases t:k<s.length
   ·have D:=lH (zQi t);have F:=lH (zJx t H.o);have C:=lH (chk_eq k s[k]);obtain ⟨c,l⟩:∃ c,c=s[k]:=⟨_,rfl⟩;have I:=byte_at l;rw [<- l] at D F C;clear l;have y:=zB7 c;have J:c.toNat<256:=c.toNat_lt;have g:((k:Int)==0)=true/\k=0∨((k:Int)==0)=false/\0<k:=by
     by_cases e:k=0
     ·exact .inl ⟨by simp [e],e⟩
     ·exact .inr ⟨by simp;omega,by omega⟩
    have o:chk k c=true->Hi (qV1 0 s=qV1 (k+1) (s.drop (k+1))):=fun h=>lH (by rw [H.o,D.o,h];rfl);have a:=lH o;clear o;rcases g with ⟨g,j⟩ | ⟨g,j⟩;all_goals
     have K:=lH j
     clear j
     rcases y with h | h | ⟨h,b⟩ | ⟨h,b⟩ | ⟨h,b⟩ | ⟨h,b⟩ | h
     all_goals
      first
      | have z:((c.toNat:Int) != 45)=true:=by rw [bne_iff_ne];omega
      | have z:((c.toNat:Int) != 45)=false:=by rw [bne_eq_false_iff_eq];omega
      first
      | have G:=lH (a.o (by rw [C.o];have:=K.o;simp only [Bool.or_eq_true,Bool.and_eq_true,decide_eq_true_eq];omega))
        clear a F
        go_wp2
        go_round
        case rel=>exact ⟨k+1,by omega,by go_num,G.o.out⟩
        case measure=>simp [intOf];omega
      | have G:=lH (F.o (by rw [C.o];have:=K.o;simp only [Bool.or_eq_false_iff,Bool.and_eq_false_iff,decide_eq_false_iff_not];omega))
        clear a F
        go_wp2
        go_ret
        exact ⟨qJo G.o.symm,rfl⟩
   ·go_wp2;go_ret;exact ⟨qJo (by rw [N.o,H.o,List.drop_eq_nil_of_le (by omega)];rfl),rfl⟩
 ·have N:name s=false:=by
   unfold name;by_cases h:1<=s.length
   ·simp;intro x;omega
   ·simp;intro x;omega
  rw [N];have A:s.length<1∨20<s.length:=by omega
  clear p N;rcases A with h | h;all_goals
   go_enter Tryz.func119,Tryz.ntmps119
   go_wp2
   go_ret
   exact ⟨rfl,rfl⟩
def chgV (x:Chg):Value:=.agg #[.int .i64 x.kind,.int .i64 x.node,.int .i64 x.dest,.int .i64 x.before,.string ⟨x.name.toArray⟩,.string ⟨x.value.toArray⟩]
abbrev qGa (w:World) (r:Int×Int×Dc):Ending->World->Prop:=Rn w fun w' y=>∃ u,y=.tuple #[u,.int .i64 r.2.1,.int .i64 r.1]/\qZh w'.heap.size w' u r.2.2
theorem qGa.no (h:r=(e,0,[])) (H:Bel w w'):qGa w r (.returned (.tuple #[.slice none 0 0,.int .i64 0,.int .i64 e])) w':=by
 subst h;exact ⟨H,_,rfl,_,rfl,qQa.nil⟩
theorem qGa.yes (h:r=(0,n,d)) (H:Bel w w') (hd:qZh w'.heap.size w' u d):qGa w r (.returned (.tuple #[u,.int .i64 n,.int .i64 0])) w':=by
 subst h;exact ⟨H,_,rfl,_,rfl,hd⟩
theorem qGa.any (h:r=(e,n,d)) (H:Bel w w') (hd:qZh w'.heap.size w' u d):qGa w r (.returned (.tuple #[u,.int .i64 n,.int .i64 e])) w':=by
 subst h;exact ⟨H,_,rfl,_,rfl,hd⟩
theorem zQb.up {l:List Att} (h:zQb m w v l) (H:Bel w w') (hm:m<=w.heap.size):zQb w'.heap.size w' v l:=
 (qQa.later h qZg H hm).mono (fun _ h=>Zc h (Za hm H.size)) (fun _ _ _ h=>h)
theorem qKn.up {l:List Int} (h:qKn m w v l) (H:Bel w w') (hm:m<=w.heap.size):qKn w'.heap.size w' v l:=
 (qQa.later h qQc H hm).mono (fun _ h=>Zc h (Za hm H.size)) (fun _ _ _ h=>h)
theorem qZh.up (h:qZh m w v d) (H:Bel w w') (hm:m<=w.heap.size):qZh w'.heap.size w' v d:=
 (h.later H hm).raise (Za hm H.size)
theorem Bel.drewN {a:World} (h:Bel a w) (n:Nat):Bel a (w.drewN n):=Below.trans h (Drew.below ⟨n,rfl⟩ _)
def rdChg:World->List Value->Chg->Prop:=fun _ cs x=>cs=[.int .i64 x.kind,.int .i64 x.node,.int .i64 x.dest,.int .i64 x.before,.string ⟨x.name.toArray⟩,.string ⟨x.value.toArray⟩]
abbrev ChgsAt (n:Nat) (w:World) (v:Value) (l:List Chg):Prop:=qQa 6 rdChg (·<n) w v l
end Go.Proofs.YtkhkbifdakikcaaGreatDoor
namespace Go.Proofs.YtkhkbifdakikcaaGreatDoor
open Go.RowKit Go.WideShapes Go.ChangeShapes
variable {cs:List Value}
instance:Inhabited Chg:=⟨{}⟩
theorem max_eq:maxLen=9223372036854775807:=by decide
theorem qBv {i:Nat} (h:i<cs.length):(cs.drop i).take 1=[cs[i]]:=by
 rw [List.drop_eq_getElem_cons h];rfl
theorem open_chg {H:Type} {enc:TypeId×Value->H} {P:Program} {w:World} {T:Nat->Bool} {K:Bool} {e:TypeId} {F:Array Field} (J:P.underlying e=some (.struct F)) (ce:P.cellsOf e=6) (Z:F.size=6)
 (B:∀ i f,F[i]?=some f->f.offset=i/\P.cellsOf f.type=1/\P.underlying f.type=some (if i<4 then .int .i64 else .string))
 {fuel:Nat} {y:DataW H×List MemPlace} (h:DataW.trod enc P w 0 T K fuel e cs=some y) :
 ∃ x:Chg,rdChg w cs x/\cs.length=6/\x.name.length<=9223372036854775807/\x.value.length<=9223372036854775807:=by
 obtain ⟨xs,n,_,_,z,Y,A⟩:=DataW.trod_struct J h;rw [ce] at z;have a:∀ i (a:i<4),∃ k,cs[i]'(by omega)=.int .i64 k:=by
  intro i a;have t:i<F.size:=by omega
  obtain ⟨o,c,u⟩:=B i F[i] (Array.getElem?_eq_getElem t);have:=A i F[i] (Array.getElem?_eq_getElem t);rw [o,c,qBv (by omega),Zi (by omega)] at this;rw [if_pos a] at u;obtain ⟨k,b,_⟩:=DataW.trod_int u this;exact ⟨k,by simpa using b⟩
 have C:∀ i (b:4<=i) (a:i<6),∃ s:Txt,cs[i]'(by omega)=.string ⟨s.toArray⟩/\s.length<=9223372036854775807:=by
  intro i b a;have t:i<F.size:=by omega
  obtain ⟨o,c,u⟩:=B i F[i] (Array.getElem?_eq_getElem t);have:=A i F[i] (Array.getElem?_eq_getElem t);rw [o,c,qBv (by omega),Zi (by omega)] at this;rw [if_neg (by omega)] at u;obtain ⟨k,b,_,I⟩:=DataW.trod_string u this;refine ⟨k.data.toList,?_,?_⟩
  ·simp at b;rw [b]
  ·exact max_eq▸I
 obtain ⟨M,E⟩:=a 0 (by omega);obtain ⟨N,g⟩:=a 1 (by omega);obtain ⟨O,j⟩:=a 2 (by omega);obtain ⟨Q,l⟩:=a 3 (by omega);obtain ⟨S,p,D⟩:=C 4 (by omega) (by omega);obtain ⟨R,q,G⟩:=C 5 (by omega) (by omega);refine ⟨⟨M,N,O,Q,S,R⟩,?_,z,D,G⟩;revert E g j l p q;match cs,z with
 | [U,V,W,c3,c4,X],_=>
   intro E g j l p q;simp at E g j l p q;subst E g j l p q;rfl
end Go.Proofs.YtkhkbifdakikcaaGreatDoor
set_option maxRecDepth 100000
set_option maxHeartbeats 1000000
namespace Go.Proofs.YtkhkbifdakikcaaGreatDoor
open Go.RowKit
variable {d:Dc} {n:Int} {f:Nat}
theorem qQ5 (m:Nat) (v:Value) (d:Dc) (n:Int) (E:Bool) (w:World) (hv:qZh m w v d) :
 Calls Tryz.prog 13 #[v,.int .i64 n,.bool E] w (Rv (.bool (isM d n E)) w):=by
 obtain ⟨a,p,c,q,s⟩:=Rf hv;by_cases i:0<=n
 ·by_cases t:n<(d.length:Int)
  ·obtain ⟨k,rfl⟩:=Int.eq_ofNat_of_zero_le i;have g:k<d.length:=(by omega);obtain ⟨b,O,o,A,K,S,rfl,-,-,-,H⟩:=hv.node k g;have C:=H.live;have j:=H.tag;have h:isM d k E=(d[k].live&&(!E||!d[k].tag.isEmpty)):=(by simp [isM,qQ2 g,g]);rw [h];clear h H c hv;generalize d[k].live=l at *
   generalize d[k].tag=T at *
   go_enter Tryz.func13,Tryz.ntmps13
   rcases l with - | -
   ·go_wp2;go_ret;exact ⟨rfl,rfl⟩
   ·rcases E with - | -
    ·go_wp2;go_ret;exact ⟨rfl,rfl⟩
    ·go_wp2;go_ret;exact ⟨qJo (by simp),rfl⟩
  ·subst c;have h:isM d n E=false:=(by simp [isM];omega);rw [h];go_enter Tryz.func13,Tryz.ntmps13
   go_wp2;go_ret;exact ⟨rfl,rfl⟩
 ·subst c;have h:isM d n E=false:=by simp [isM];omega
  rw [h];go_enter Tryz.func13,Tryz.ntmps13
  go_wp2;go_ret;exact ⟨rfl,rfl⟩
theorem qZv (m:Nat) (v:Value) (d:Dc) (n:Int) (s:Txt) (w:World) (hv:qZh m w v d) (hm:m<=w.heap.size) :
 Calls Tryz.prog 39 #[v,.int .i64 n,.string ⟨s.toArray⟩] w (Rb (.tuple #[.string ⟨((qKr d n s).getD []).toArray⟩,.bool (qKr d n s).isSome]) w):=by
 by_cases H:isM d n true=true
 ·obtain ⟨k,y,rfl,-⟩:=qQy.1 (qZ0 H);obtain ⟨b,U,K,C,Q,X,rfl,-,-,-,N⟩:=hv.node k y;have G:=N.atts;have A:=N.attsAt;have I:=qQ5 m _ d k true w hv;rw [H] at I;have h:qKr d k s=qJc d[k].attrs s:=by simp [qKr,H,qQ2 y]
  rw [h];clear h N H;generalize d[k].attrs=l at *
  obtain ⟨a,J,rfl,S,T⟩:=Rf A;clear hv;go_enter Tryz.func39,Tryz.ntmps39
  go_wp2_with fail
  (with_reducible refine I.mono ?_)
  rintro e W ⟨rfl,rfl⟩;go_wp2;go_loopw [20] (fun i wr=>∃ j:Nat,j<=l.length/\i=.int .i64 j/\qJc (l.drop j) s=qJc l s/\Below w.heap.size w wr) (fun i _=>l.length - (intOf i).toNat)
  case atStart=>exact ⟨0,by omega,rfl,rfl,Below.refl _ _⟩
  case round=>
   obtain ⟨j,P,rfl,p,o⟩:=hrel;have B:=lH o;have F:=lH p;have g:=qQa.later A qZg o hm;clear o p;by_cases t:j<l.length
   ·obtain ⟨D,V,_,_,E,_,_,_,_⟩:=qQa.elem g j t;simp at E;obtain ⟨rfl,rfl⟩:=E;obtain ⟨M,O⟩:=qD3 g j t;have q:l.drop j=l[j]::l.drop (j+1):=List.drop_eq_getElem_cons t;rw [q] at F;generalize l[j]=x at *
    clear A g q;by_cases c:x.name=s
    ·have h:qJc l s=some x.value:=(by rw [<- F.o];simp [qJc,c]);have z:(x.name==s)=true:=(by simpa using c);rw [h];clear h c;go_wp2;go_ret2;refine ⟨rfl,?_⟩;exact Bel.alloc B.o _
    ·have h:qJc (l.drop (j+1)) s=qJc l s:=(by rw [<- F.o];simp [qJc,c]);have z:(x.name==s)=false:=(by simpa using c);have F:=lH h;clear h c;go_wp2;go_roundw;case rel=>exact ⟨j+1,by omega,by go_num,F.o,Bel.alloc B.o _⟩
     case measure=>simp [intOf];omega
   ·have h:qJc l s=none:=(by rw [<- F.o,List.drop_eq_nil_of_le (by omega)];rfl);have R:=lH h;clear A g h;go_wp2;go_ret2;exact ⟨by simp [R.o],B.o⟩
 ·have I:=qQ5 m _ d n true w hv;have H:isM d n true=false:=by simpa using H
  rw [H] at I;have h:qKr d n s=none:=by simp [qKr,H]
  rw [h];clear h;go_enter Tryz.func39,Tryz.ntmps39
  go_wp2_with fail
  (with_reducible refine I.mono ?_)
  rintro e W ⟨rfl,rfl⟩;go_wp2;go_ret2;exact ⟨by simp,Below.refl _ _⟩
theorem zK7 (h:isM d n false=true):pathF d (f+1) n=n::pathF d f (nd d n).up:=by rw [pathF,if_pos h]
theorem zJr (h:isM d n false=false):pathF d f n=[]:=by
 cases f with
 | zero=>rfl
 | succ f=>rw [pathF,if_neg (by simp [h])]
theorem qWh (m:Nat) (v:Value) (d:Dc) (n i:Int) (w:World) (hv:qZh m w v d) (hd:d.length<=1000000000) :
 Calls Tryz.prog 83 #[v,.int .i64 n,.int .i64 i] w (Rv (.bool (qXl d n i)) w):=by
 have W:qXl d n i=(pathF d (d.length+1) n).contains i:=rfl;rw [W];clear W;obtain ⟨A,I,rfl,D,G⟩:=Rf hv;have V:=lH hv;clear hv;go_enter Tryz.func83,Tryz.ntmps83
 go_wp2;go_loop [10,1] (fun z x=>∃ (j:Nat) (k:Int),j<=d.length+1/\z=.int .i64 j/\x=.int .i64 k/\(pathF d (d.length+1 - j) k).contains i=(pathF d (d.length+1) n).contains i) (fun z _=>d.length+1 - (intOf z).toNat)
 case atStart=>exact ⟨0,n,by omega,rfl,rfl,rfl⟩
 case round=>
  obtain ⟨j,k,M,rfl,rfl,o⟩:=hrel;have F:=lH o;clear o;have c:=lH (qQ5 m _ d k false w V.o);by_cases B:j<d.length+1
  ·have C:(j:Int)<(d.length:Int)+1:=(by omega);cases H:isM d k false with
   | false=>
     rw [H] at c;have R:Hi ((pathF d (d.length+1) n).contains i=false):=lH (by rw [<- F.o,zJr H];rfl);clear H;go_wp2_with (go_at_call 13;refine c.o.mono ?_;rintro e s ⟨rfl,rfl⟩)
     go_ret;exact ⟨qJo R.o.symm,rfl⟩
   | true=>
     rw [H] at c;have E:=zK7 (f:=d.length+1 - (j+1)) H;rw [show d.length+1 - (j+1)+1=d.length+1 - j by omega] at E;have a:=F.o;rw [E] at a;clear F;obtain ⟨p,q,rfl,-⟩:=qQy.1 H;obtain ⟨b,P,J,A,O,S,l,-,-,K,N⟩:=V.o.node p q;simp at l;obtain ⟨rfl,rfl⟩:=l;have c4:=N.up;rw [qQ2 q] at a;clear N H E;generalize d[p].up=u at *
     by_cases g:(p:Int)=i
     ·have y:((p:Int)==i)=true:=(by simpa using g);have R:Hi ((pathF d (d.length+1) n).contains i=true):=lH (by rw [<- a,g];simp);clear a g;go_wp2_with (go_at_call 13;refine c.o.mono ?_;rintro e s ⟨rfl,rfl⟩)
      go_ret;exact ⟨qJo R.o.symm,rfl⟩
     ·have y:((p:Int)==i)=false:=(by simpa using g);have t:Hi ((pathF d (d.length+1 - (j+1)) u).contains i=(pathF d (d.length+1) n).contains i):=lH (by rw [<- a];simp [show i≠(p:Int) from fun h=>g h.symm]);clear a g;go_wp2_with (go_at_call 13;refine c.o.mono ?_;rintro e s ⟨rfl,rfl⟩)
      go_round
      case rel=>exact ⟨j+1,u,by omega,by go_num,rfl,t.o⟩
      case measure=>simp [intOf];omega
  ·obtain rfl:j=d.length+1:=(by omega);have R:Hi ((pathF d (d.length+1) n).contains i=false):=lH (by rw [<- F.o];simp [pathF]);have C:decide (((d.length+1:Nat):Int)<(d.length:Int)+1)=false:=(by simp);clear B c;go_wp2;go_ret;exact ⟨qJo (by have:=R.o;simp at this;simp [this]),rfl⟩
def scopeL (d:Dc) (l:List Int):Int:=((l.find? (fun k=>(nd d k).inS&&decide (0<=(nd d k).up))).map (fun k=>(nd d k).up)).getD 0
theorem qXb (m:Nat) (v:Value) (d:Dc) (n:Int) (w:World) (hv:qZh m w v d) (hd:d.length<=1000000000) :
 Calls Tryz.prog 78 #[v,.int .i64 n] w (Rv (.int .i64 (qQ3 d n)) w):=by
 have o:qQ3 d n=scopeL d (pathF d (d.length+1) n):=rfl;rw [o];clear o;obtain ⟨A,K,rfl,G,J⟩:=Rf hv;have V:=lH hv;clear hv;go_enter Tryz.func78,Tryz.ntmps78
 go_wp2;go_loop [8,1] (fun z x=>∃ (j:Nat) (k:Int),j<=d.length+1/\z=.int .i64 j/\x=.int .i64 k/\scopeL d (pathF d (d.length+1 - j) k)=scopeL d (pathF d (d.length+1) n)) (fun z _=>d.length+1 - (intOf z).toNat)
 case atStart=>exact ⟨0,n,by omega,rfl,rfl,rfl⟩
 case round=>
  obtain ⟨j,k,P,rfl,rfl,l⟩:=hrel;have F:=lH l;clear l;have c:=lH (qQ5 m _ d k false w V.o);by_cases t:j<d.length+1
  ·have s:(j:Int)<(d.length:Int)+1:=(by omega);cases h:isM d k false with
   | false=>
     rw [h] at c;have R:Hi (scopeL d (pathF d (d.length+1) n)=0):=lH (by rw [<- F.o,zJr h];rfl);clear h;go_wp2_with (go_at_call 13;refine c.o.mono ?_;rintro e W ⟨rfl,rfl⟩)
     go_ret;exact ⟨qQr R.o.symm,rfl⟩
   | true=>
     rw [h] at c;have E:=zK7 (f:=d.length+1 - (j+1)) h;rw [show d.length+1 - (j+1)+1=d.length+1 - j by omega] at E;have H:=F.o;rw [E] at H;clear F;obtain ⟨p,g,rfl,-⟩:=qQy.1 h;obtain ⟨b,T,M,A,S,U,i,-,-,O,N⟩:=V.o.node p g;simp at i;obtain ⟨rfl,rfl⟩:=i;have c4:=N.up;have C:=N.inS;rw [qQ2 g] at H;have a:=qQ2 g;clear N h E;generalize d[p]=X at *
     obtain ⟨_,_,_,_,u,_,_,_,I⟩:=X;simp only at c4 C H;by_cases Q:u<0
     ·have R:Hi (scopeL d (pathF d (d.length+1) n)=0):=lH (by
       have B:¬ 0<=u:=(by omega);have D:isM d u false=false:=(by simp [isM,B]);rw [<- H,zJr D];have y:¬ 0<=u:=(by omega);simp [scopeL,a,y])
      clear H a;go_wp2_with (go_at_call 13;refine c.o.mono ?_;rintro e W ⟨rfl,rfl⟩)
      go_ret;exact ⟨qQr R.o.symm,rfl⟩
     ·cases I with
      | true=>
        have R:Hi (scopeL d (pathF d (d.length+1) n)=u):=lH (by
         rw [<- H];simp [scopeL,a,show 0<=u by omega])
        clear H a;go_wp2_with (go_at_call 13;refine c.o.mono ?_;rintro e W ⟨rfl,rfl⟩)
        go_ret;exact ⟨qQr R.o.symm,rfl⟩
      | false=>
        have q:Hi (scopeL d (pathF d (d.length+1 - (j+1)) u)=scopeL d (pathF d (d.length+1) n)):=lH (by
         rw [<- H];simp [scopeL,a])
        clear H a;go_wp2_with (go_at_call 13;refine c.o.mono ?_;rintro e W ⟨rfl,rfl⟩)
        go_round
        case rel=>exact ⟨j+1,u,by omega,by go_num,rfl,q.o⟩
        case measure=>simp [intOf];omega
  ·obtain rfl:j=d.length+1:=(by omega);have R:Hi (scopeL d (pathF d (d.length+1) n)=0):=lH (by rw [<- F.o];simp [pathF,scopeL]);have s:decide (((d.length+1:Nat):Int)<(d.length:Int)+1)=false:=(by simp);clear t c;go_wp2;go_ret;exact ⟨qQr R.o.symm,rfl⟩

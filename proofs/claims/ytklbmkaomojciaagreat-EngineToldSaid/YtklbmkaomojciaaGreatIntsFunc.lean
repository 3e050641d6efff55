/- Documents as the program asks them: walks. -/
import Derived.Test.YtklbmkaomojciaaGreatRefTake
import Derived.Shelf.Abstract
import Derived.Lib.SliceRun
import Derived.Laws.IdiomCopy
set_option maxRecDepth 100000
set_option maxHeartbeats 1000000
namespace Go.Proofs.YtklbmkaomojciaaGreat
open Go.RowKit
theorem qQ6 (m:Nat) (v:Value) (d:Dc) (n:Int) (el:Bool) (w:World) (hv:qZb m w v d) :
 Calls Tryz.prog 56 #[v,.int .i64 n,.bool el] w (Rv (.bool (isM d n el)) w):=by
 obtain ⟨a,cap,e0,h1,h2⟩:=Rf hv
 by_cases hn:0<=n
 ·by_cases hl:n<(d.length:Int)
  ·obtain ⟨k,rfl⟩:=Int.eq_ofNat_of_zero_le hn
   have hk:k<d.length:=by omega
   obtain ⟨b,off,cap',av,kv,sv,rfl,-,-,-,hN⟩:=hv.node k hk
   have c1:=hN.live
   have c2:=hN.tag
   have hi:isM d k el=(d[k].live&&(!el||!d[k].tag.isEmpty)):=by simp [isM,qQ2 hk,hk]
   rw [hi]
   clear hi hN e0 hv
   generalize d[k].live=lv at *
   generalize d[k].tag=tg at *
   go_enter Tryz.func56,Tryz.ntmps56
   rcases lv with - | -
   ·go_wp2
    go_ret
    exact ⟨rfl,rfl⟩
   ·rcases el with - | -
    ·go_wp2
     go_ret
     exact ⟨rfl,rfl⟩
    ·go_wp2
     go_ret
     exact ⟨qJj (by simp),rfl⟩
  ·subst e0
   have hi:isM d n el=false:=by simp [isM];omega
   rw [hi]
   go_enter Tryz.func56,Tryz.ntmps56
   go_wp2
   go_ret
   exact ⟨rfl,rfl⟩
 ·subst e0
  have hi:isM d n el=false:=by simp [isM];omega
  rw [hi]
  go_enter Tryz.func56,Tryz.ntmps56
  go_wp2
  go_ret
  exact ⟨rfl,rfl⟩
theorem qZo (m:Nat) (v:Value) (d:Dc) (n:Int) (s:Txt) (w:World) (hv:qZb m w v d) (hm:m<=w.heap.size) :
 Calls Tryz.prog 76 #[v,.int .i64 n,.string ⟨s.toArray⟩] w (Rb (.tuple #[.string ⟨((qKo d n s).getD []).toArray⟩,.bool (qKo d n s).isSome]) w):=by
 by_cases hi:isM d n true=true
 ·obtain ⟨k,hk,rfl,-⟩:=qQz.1 (qZr hi)
  obtain ⟨b,off,cap',av,kv,sv,rfl,-,-,-,hN⟩:=hv.node k hk
  have c1:=hN.atts
  have hA:=hN.attsAt
  have hI:=qQ6 m _ d k true w hv
  rw [hi] at hI
  have hr:qKo d k s=qZ9 d[k].attrs s:=by simp [qKo,hi,qQ2 hk]
  rw [hr]
  clear hr hN hi
  generalize d[k].attrs=l at *
  obtain ⟨a,cap,rfl,l1,l2⟩:=Rf hA
  clear hv
  go_enter Tryz.func76,Tryz.ntmps76
  go_wp2_with fail
  (with_reducible refine hI.mono ?_)
  rintro e w1 ⟨rfl,rfl⟩
  go_wp2
  go_loopw [20] (fun i wr=>∃ j:Nat,j<=l.length/\i=.int .i64 j/\qZ9 (l.drop j) s=qZ9 l s/\Below w.heap.size w wr) (fun i _=>l.length - (intOf i).toNat)
  case atStart=>exact ⟨0,by omega,rfl,rfl,Below.refl _ _⟩
  case round=>
   obtain ⟨j,hj,rfl,hF,hB⟩:=hrel
   have HB:=lH hB
   have HF:=lH hF
   have hA':=qQa.later hA qZc hB hm
   clear hB hF
   by_cases hlt:j<l.length
   ·obtain ⟨bb,oo,_,_,e1,_,_,_,_⟩:=qQa.elem hA' j hlt
    simp at e1
    obtain ⟨rfl,rfl⟩:=e1
    obtain ⟨d1,d2⟩:=qDp hA' j hlt
    have hd:l.drop j=l[j]::l.drop (j+1):=List.drop_eq_getElem_cons hlt
    rw [hd] at HF
    generalize l[j]=x at *
    clear hA hA' hd
    by_cases hx:x.name=s
    ·have hr:qZ9 l s=some x.value:=by rw [<- HF.o];simp [qZ9,hx]
     have hb:(x.name==s)=true:=by simpa using hx
     rw [hr]
     clear hr hx
     go_wp2
     go_ret2
     refine ⟨rfl,?_⟩
     exact Bel.alloc HB.o _
    ·have hr:qZ9 (l.drop (j+1)) s=qZ9 l s:=by rw [<- HF.o];simp [qZ9,hx]
     have hb:(x.name==s)=false:=by simpa using hx
     have HF:=lH hr
     clear hr hx
     go_wp2
     go_roundw
     case rel=>exact ⟨j+1,by omega,by go_num,HF.o,Bel.alloc HB.o _⟩
     case measure=>simp [intOf];omega
   ·have hr:qZ9 l s=none:=by rw [<- HF.o,List.drop_eq_nil_of_le (by omega)];rfl
    have HR:=lH hr
    clear hA hA' hr
    go_wp2
    go_ret2
    exact ⟨by simp [HR.o],HB.o⟩
 ·have hI:=qQ6 m _ d n true w hv
  have hi:isM d n true=false:=by simpa using hi
  rw [hi] at hI
  have hr:qKo d n s=none:=by simp [qKo,hi]
  rw [hr]
  clear hr
  go_enter Tryz.func76,Tryz.ntmps76
  go_wp2_with fail
  (with_reducible refine hI.mono ?_)
  rintro e w1 ⟨rfl,rfl⟩
  go_wp2
  go_ret2
  exact ⟨by simp,Below.refl _ _⟩
theorem zJk {d:Dc} {f:Nat} {n:Int} (h:isM d n false=true):pathF d (f+1) n=n::pathF d f (nd d n).up:=by rw [pathF,if_pos h]
theorem zZb {d:Dc} {f:Nat} {n:Int} (h:isM d n false=false):pathF d f n=[]:=by
 cases f with
 | zero=>rfl
 | succ f=>rw [pathF,if_neg (by simp [h])]
theorem qV8 (m:Nat) (v:Value) (d:Dc) (n i:Int) (w:World) (hv:qZb m w v d) (hd:d.length<=1000000000) :
 Calls Tryz.prog 178 #[v,.int .i64 n,.int .i64 i] w (Rv (.bool (qXd d n i)) w):=by
 have hW:qXd d n i=(pathF d (d.length+1) n).contains i:=rfl
 rw [hW]
 clear hW
 obtain ⟨av,acap,rfl,a1,a2⟩:=Rf hv
 have HV:=lH hv
 clear hv
 go_enter Tryz.func178,Tryz.ntmps178
 go_wp2
 go_loop [10,1] (fun z x=>∃ (j:Nat) (k:Int),j<=d.length+1/\z=.int .i64 j/\x=.int .i64 k/\(pathF d (d.length+1 - j) k).contains i=(pathF d (d.length+1) n).contains i) (fun z _=>d.length+1 - (intOf z).toNat)
 case atStart=>exact ⟨0,n,by omega,rfl,rfl,rfl⟩
 case round=>
  obtain ⟨j,k,hj,rfl,rfl,hF⟩:=hrel
  have HF:=lH hF
  clear hF
  have cI:=lH (qQ6 m _ d k false w HV.o)
  by_cases hlt:j<d.length+1
  ·have hlt2:(j:Int)<(d.length:Int)+1:=by omega
   cases hi:isM d k false with
   | false=>
     rw [hi] at cI
     have HR:Hi ((pathF d (d.length+1) n).contains i=false):=lH (by rw [<- HF.o,zZb hi];rfl)
     clear hi
     go_wp2_with (go_at_call 56;refine cI.o.mono ?_;rintro e w1 ⟨rfl,rfl⟩)
     go_ret
     exact ⟨qJj HR.o.symm,rfl⟩
   | true=>
     rw [hi] at cI
     have e1:=zJk (f:=d.length+1 - (j+1)) hi
     rw [show d.length+1 - (j+1)+1=d.length+1 - j by omega] at e1
     have HF2:=HF.o
     rw [e1] at HF2
     clear HF
     obtain ⟨p,hp,rfl,-⟩:=qQz.1 hi
     obtain ⟨b,off,cap',av,kv,sv,e2,-,-,hbb,hN⟩:=HV.o.node p hp
     simp at e2
     obtain ⟨rfl,rfl⟩:=e2
     have c4:=hN.up
     rw [qQ2 hp] at HF2
     clear hN hi e1
     generalize d[p].up=u at *
     by_cases hpi:(p:Int)=i
     ·have hb:((p:Int)==i)=true:=by simpa using hpi
      have HR:Hi ((pathF d (d.length+1) n).contains i=true):=lH (by rw [<- HF2,hpi];simp)
      clear HF2 hpi
      go_wp2_with (go_at_call 56;refine cI.o.mono ?_;rintro e w1 ⟨rfl,rfl⟩)
      go_ret
      exact ⟨qJj HR.o.symm,rfl⟩
     ·have hb:((p:Int)==i)=false:=by simpa using hpi
      have HF3:Hi ((pathF d (d.length+1 - (j+1)) u).contains i=(pathF d (d.length+1) n).contains i):=lH (by rw [<- HF2];simp [show i≠(p:Int) from fun h=>hpi h.symm])
      clear HF2 hpi
      go_wp2_with (go_at_call 56;refine cI.o.mono ?_;rintro e w1 ⟨rfl,rfl⟩)
      go_round
      case rel=>exact ⟨j+1,u,by omega,by go_num,rfl,HF3.o⟩
      case measure=>simp [intOf];omega
  ·obtain rfl:j=d.length+1:=by omega
   have HR:Hi ((pathF d (d.length+1) n).contains i=false):=lH (by rw [<- HF.o];simp [pathF])
   have hlt2:decide (((d.length+1:Nat):Int)<(d.length:Int)+1)=false:=by simp
   clear hlt cI
   go_wp2
   go_ret
   exact ⟨qJj (by have:=HR.o;simp at this;simp [this]),rfl⟩
def scopeL (d:Dc) (l:List Int):Int:=((l.find? (fun k=>(nd d k).inS&&decide (0<=(nd d k).up))).map (fun k=>(nd d k).up)).getD 0
theorem qK2 (m:Nat) (v:Value) (d:Dc) (n:Int) (w:World) (hv:qZb m w v d) (hd:d.length<=1000000000) :
 Calls Tryz.prog 151 #[v,.int .i64 n] w (Rv (.int .i64 (qQ1 d n)) w):=by
 have hW:qQ1 d n=scopeL d (pathF d (d.length+1) n):=rfl
 rw [hW]
 clear hW
 obtain ⟨av,acap,rfl,a1,a2⟩:=Rf hv
 have HV:=lH hv
 clear hv
 go_enter Tryz.func151,Tryz.ntmps151
 go_wp2
 go_loop [8,1] (fun z x=>∃ (j:Nat) (k:Int),j<=d.length+1/\z=.int .i64 j/\x=.int .i64 k/\scopeL d (pathF d (d.length+1 - j) k)=scopeL d (pathF d (d.length+1) n)) (fun z _=>d.length+1 - (intOf z).toNat)
 case atStart=>exact ⟨0,n,by omega,rfl,rfl,rfl⟩
 case round=>
  obtain ⟨j,k,hj,rfl,rfl,hF⟩:=hrel
  have HF:=lH hF
  clear hF
  have cI:=lH (qQ6 m _ d k false w HV.o)
  by_cases hlt:j<d.length+1
  ·have hlt2:(j:Int)<(d.length:Int)+1:=by omega
   cases hi:isM d k false with
   | false=>
     rw [hi] at cI
     have HR:Hi (scopeL d (pathF d (d.length+1) n)=0):=lH (by rw [<- HF.o,zZb hi];rfl)
     clear hi
     go_wp2_with (go_at_call 56;refine cI.o.mono ?_;rintro e w1 ⟨rfl,rfl⟩)
     go_ret
     exact ⟨qQr HR.o.symm,rfl⟩
   | true=>
     rw [hi] at cI
     have e1:=zJk (f:=d.length+1 - (j+1)) hi
     rw [show d.length+1 - (j+1)+1=d.length+1 - j by omega] at e1
     have HF2:=HF.o
     rw [e1] at HF2
     clear HF
     obtain ⟨p,hp,rfl,-⟩:=qQz.1 hi
     obtain ⟨b,off,cap',av,kv,sv,e2,-,-,hbb,hN⟩:=HV.o.node p hp
     simp at e2
     obtain ⟨rfl,rfl⟩:=e2
     have c4:=hN.up
     have c8:=hN.inS
     rw [qQ2 hp] at HF2
     have hnd:=qQ2 hp
     clear hN hi e1
     generalize d[p]=X at *
     obtain ⟨_,_,_,_,u,_,_,_,ins⟩:=X
     simp only at c4 c8 HF2
     by_cases hu:u<0
     ·have HR:Hi (scopeL d (pathF d (d.length+1) n)=0):=lH (by
       have hu3:¬ 0<=u:=by omega
       have hu4:isM d u false=false:=by simp [isM,hu3]
       rw [<- HF2,zZb hu4]
       have hu2:¬ 0<=u:=by omega
       simp [scopeL,hnd,hu2])
      clear HF2 hnd
      go_wp2_with (go_at_call 56;refine cI.o.mono ?_;rintro e w1 ⟨rfl,rfl⟩)
      go_ret
      exact ⟨qQr HR.o.symm,rfl⟩
     ·cases ins with
      | true=>
        have HR:Hi (scopeL d (pathF d (d.length+1) n)=u):=lH (by
         rw [<- HF2]
         simp [scopeL,hnd,show 0<=u by omega])
        clear HF2 hnd
        go_wp2_with (go_at_call 56;refine cI.o.mono ?_;rintro e w1 ⟨rfl,rfl⟩)
        go_ret
        exact ⟨qQr HR.o.symm,rfl⟩
      | false=>
        have HF3:Hi (scopeL d (pathF d (d.length+1 - (j+1)) u)=scopeL d (pathF d (d.length+1) n)):=lH (by
         rw [<- HF2]
         simp [scopeL,hnd])
        clear HF2 hnd
        go_wp2_with (go_at_call 56;refine cI.o.mono ?_;rintro e w1 ⟨rfl,rfl⟩)
        go_round
        case rel=>exact ⟨j+1,u,by omega,by go_num,rfl,HF3.o⟩
        case measure=>simp [intOf];omega
  ·obtain rfl:j=d.length+1:=by omega
   have HR:Hi (scopeL d (pathF d (d.length+1) n)=0):=lH (by rw [<- HF.o];simp [pathF,scopeL])
   have hlt2:decide (((d.length+1:Nat):Int)<(d.length:Int)+1)=false:=by simp
   clear hlt cI
   go_wp2
   go_ret
   exact ⟨qQr HR.o.symm,rfl⟩
end Go.Proofs.YtklbmkaomojciaaGreat
set_option maxRecDepth 100000
set_option maxHeartbeats 2000000
namespace Go.Proofs.YtklbmkaomojciaaGreat
open Go.RowKit
theorem qV2:∀ (f:Nat) (m:Nat) (v:Value) (d:Dc) (n:Int) (w:World),qZb m w v d->m<=w.heap.size->Ends d f n->(allF d f n).length<=1000000000 ->
 Calls Tryz.prog 137 #[v,.int .i64 n] w (Rn w fun w' x=>qQb 1 qQf w.heap.size 3 w' x (allF d f n)):=by
 intro f
 induction f with
 | zero=>intro m v d n w hv hm he;exact he.elim
 | succ f ih=>
 intro m v d n w hv hm he hL
 have HI:=lH (qQ6 m _ d n false w hv)
 cases hi:isM d n false with
 | false=>
   rw [hi] at HI
   have hr:allF d (f+1) n=[]:=by rw [allF,if_neg (by simp [hi])]
   rw [hr]
   go_enter Tryz.func137,Tryz.ntmps137
   go_wp2_with (go_at_call 56;refine HI.o.mono ?_;rintro e w1 ⟨rfl,rfl⟩)
   go_ret
   exact ⟨Below.refl _ _,_,rfl,qQb.nil _ _ _⟩
 | true=>
   rw [hi] at HI
   have hE:=he hi
   have hr:allF d (f+1) n=n::((nd d n).shadow++(nd d n).kids).flatMap (allF d f):=by rw [allF,if_pos hi]
   rw [hr] at hL ⊢
   obtain ⟨k,hk,rfl,-⟩:=qQz.1 hi
   rw [qQ2 hk] at hE hL ⊢
   clear hr hi he
   obtain ⟨b,off,cap',av,kv,sv,rfl,-,-,hbb,hN⟩:=hv.node k hk
   have c5:=hN.kids
   have c7:=hN.shadow
   have kAt:=hN.kidsAt
   have sAt:=hN.shadowAt
   clear hN
   generalize d[k].kids=K at *
   generalize d[k].shadow=S at *
   obtain ⟨ka,kc,rfl,k1,k2⟩:=Rf kAt
   obtain ⟨sa,sc,rfl,s1,s2⟩:=Rf sAt
   have HE1:Hi (∀ x∈S,Ends d f x):=lH (fun x hx=>hE x (List.mem_append_left _ hx))
   have HE2:Hi (∀ x∈K,Ends d f x):=lH (fun x hx=>hE x (List.mem_append_right _ hx))
   have HL:Hi (1+(S.flatMap (allF d f)).length+(K.flatMap (allF d f)).length<=1000000000):=lH (by
    simp only [List.flatMap_append,Zj,Zm] at hL
    omega)
   have hsub:∀ (X:List Int) t,t<X.length->((X.take t).flatMap (allF d f)).length<=(X.flatMap (allF d f)).length/\((X.take (t+1)).flatMap (allF d f)).length<=(X.flatMap (allF d f)).length:=by
    intro X t _
    have h1:=congrArg List.length (congrArg (List.flatMap (allF d f)) (List.take_append_drop t X))
    have h2:=congrArg List.length (congrArg (List.flatMap (allF d f)) (List.take_append_drop (t+1) X))
    simp only [List.flatMap_append,Zj] at h1 h2
    omega
   have HSUB:=lH hsub
   have b5:∀ W',Below w.heap.size w W'->W'.cell? ⟨b,off+k*9+5,none⟩=some (.slice ka K.length kc):=fun W' hW=>(Bel.cells hW _ _ (by omega)).trans c5
   have b7:∀ W',Below w.heap.size w W'->W'.cell? ⟨b,off+k*9+7,none⟩=some (.slice sa S.length sc):=fun W' hW=>(Bel.cells hW _ _ (by omega)).trans c7
   have KB5:=lH b5
   have HKA:=lH kAt
   have HSA:=lH sAt
   have HV:=lH hv
   have a0:=zYr w w.heap.size k (Zb _)
   have B0:Below w.heap.size w (w.alloc (.cells #[.int .i64 k] 3)):=(Below.refl _ _).alloc (Zb _) _
   have e7:=b7 _ B0
   have HA0:=lH a0
   have HB0:=lH B0
   clear hE hL hsub b5 b7 kAt sAt hv a0 B0 c5 c7
   go_enter Tryz.func137,Tryz.ntmps137
   go_wp2_with (go_at_call 56;refine HI.o.mono ?_;rintro e w1 ⟨rfl,rfl⟩)
   go_loopw [22,5] (fun i o wr=>∃ (t:Nat) (out:List Int),t<=S.length/\i=.int .i64 t/\qQb 1 qQf w.heap.size 3 wr o out/\out=(k:Int)::(S.take t).flatMap (allF d f)/\Below w.heap.size w wr) (fun i _ _=>S.length - (intOf i).toNat)
   case atStart=>exact ⟨0,[(k:Int)],by omega,rfl,HA0.o,rfl,HB0.o⟩
   case round=>
    obtain ⟨t,out,ht,rfl,hO,hP,hB⟩:=hrel
    have HO:=lH hO
    have HP:=lH hP
    have HB:=lH hB
    obtain ⟨oa,ocap,rfl,o1,o2⟩:=Rf hO.read
    have S0:=hB.size
    clear hO hP hB e7
    by_cases hlt2:t<S.length
    ·obtain ⟨xb,xo,_,_,e1,hxb,_,_,_⟩:=qQa.elem HSA.o t hlt2
     simp at e1
     obtain ⟨rfl,rfl⟩:=e1
     have cx:=(Bel.cells HB.o _ _ (by omega)).trans (HSA.o.int_cell t hlt2)
     have hin:S[t]∈S:=Zl hlt2
     have htk:S.take (t+1)=S.take t++[S[t]]:=Zk hlt2
     obtain ⟨hs1,hs2⟩:=HSUB.o S t hlt2
     have HT:Hi ((k:Int)::(S.take (t+1)).flatMap (allF d f)=out++allF d f S[t]):=lH (by rw [htk,HP.o];simp only [List.flatMap_append,List.flatMap_cons,List.flatMap_nil,List.append_nil,List.cons_append])
     rw [htk] at hs2
     have hout:=congrArg List.length HP.o
     simp only [List.flatMap_append,List.flatMap_cons,List.flatMap_nil,List.append_nil,Zj,Zm] at hs2 hout
     have hLL:=HL.o
     have HC:=lH (ih m _ d S[t] _ (HV.o.later HB.o hm) (Za hm S0) (HE1.o _ hin) (by omega))
     have hol:out.length+(allF d f S[t]).length<=1000000000:=by omega
     clear htk hs1 hs2 hout hLL hin
     generalize S[t]=x at *
     go_wp2_with (first
 | (at_builtin;go_must (refine qZa rfl _ _ _ rfl qJm (by decide) rfl HO2.o rfl HX2.o.read (fun cs y _ h=>qKy _ cs y h) (by omega) (by omega) (by omega) (fun _ _ _ _ _ h=>h) ?_);intro v3 w3 o3 g3 _ f3;have HO3:=lH o3;have HG3:=lH g3;clear o3 g3 f3)
 | (go_at_call 137;(with_reducible refine HC.o.mono ?_);rintro e w2 ⟨b2,x2,rfl,o2'⟩;have HB2:=lH b2;have S2:=b2.size;have HX2:=lH o2';have HO2:=lH (HO.o.below b2 (Zb _) (fun _ _ _ h=>h));clear b2 o2'))
     go_roundw
     case rel=>exact ⟨t+1,_,by omega,by go_num,HO3.o,HT.o.symm,Below.own (Bt HB.o HB2.o) (Zb _) HO2.o HG3.o⟩
     case measure=>simp [intOf];omega
    ·have hPS:out=(k:Int)::S.flatMap (allF d f):=by rw [HP.o,Zn (by omega)]
     have HPS:=lH hPS
     have f5:=KB5.o _ HB.o
     clear hPS HP
     go_wp2
     go_loopw [38,5] (fun i o wr=>∃ (t:Nat) (out2:List Int),t<=K.length/\i=.int .i64 t/\qQb 1 qQf w.heap.size 3 wr o out2/\out2=out++(K.take t).flatMap (allF d f)/\Below w.heap.size w wr) (fun i _ _=>K.length - (intOf i).toNat)
     case atStart=>exact ⟨0,out,by omega,rfl,HO.o,by simp,HB.o⟩
     case round=>
      clear o1 o2 HO HB f5
      obtain ⟨u,out2,hu,rfl,hO,hP,hB⟩:=hrel
      have HO:=lH hO
      have HP:=lH hP
      have HB:=lH hB
      obtain ⟨oa,ocap,rfl,o1,o2⟩:=Rf hO.read
      have S0:=hB.size
      clear hO hP hB
      by_cases hlt3:u<K.length
      ·obtain ⟨xb,xo,_,_,e1,hxb,_,_,_⟩:=qQa.elem HKA.o u hlt3
       simp at e1
       obtain ⟨rfl,rfl⟩:=e1
       have cx:=(Bel.cells HB.o _ _ (by omega)).trans (HKA.o.int_cell u hlt3)
       have hin:K[u]∈K:=Zl hlt3
       have htk:K.take (u+1)=K.take u++[K[u]]:=Zk hlt3
       obtain ⟨hs1,hs2⟩:=HSUB.o K u hlt3
       have HT:Hi (out++(K.take (u+1)).flatMap (allF d f)=out2++allF d f K[u]):=lH (by rw [htk,HP.o];simp only [List.flatMap_append,List.flatMap_cons,List.flatMap_nil,List.append_nil,List.append_assoc])
       rw [htk] at hs2
       have hout:=congrArg List.length HP.o
       have hout2:=congrArg List.length HPS.o
       simp only [List.flatMap_append,List.flatMap_cons,List.flatMap_nil,List.append_nil,Zj,Zm] at hs2 hout hout2
       have hLL:=HL.o
       have HC:=lH (ih m _ d K[u] _ (HV.o.later HB.o hm) (Za hm S0) (HE2.o _ hin) (by omega))
       have hol:out2.length+(allF d f K[u]).length<=1000000000:=by omega
       clear htk hs1 hs2 hout hout2 hLL hin
       generalize K[u]=x at *
       go_wp2_with (first
 | (at_builtin;go_must (refine qZa rfl _ _ _ rfl qJm (by decide) rfl HO2.o rfl HX2.o.read (fun cs y _ h=>qKy _ cs y h) (by omega) (by omega) (by omega) (fun _ _ _ _ _ h=>h) ?_);intro v3 w3 o3 g3 _ f3;have HO3:=lH o3;have HG3:=lH g3;clear o3 g3 f3)
 | (go_at_call 137;(with_reducible refine HC.o.mono ?_);rintro e w2 ⟨b2,x2,rfl,o2'⟩;have HB2:=lH b2;have S2:=b2.size;have HX2:=lH o2';have HO2:=lH (HO.o.below b2 (Zb _) (fun _ _ _ h=>h));clear b2 o2'))
       go_roundw
       case rel=>exact ⟨u+1,_,by omega,by go_num,HO3.o,HT.o.symm,Below.own (Bt HB.o HB2.o) (Zb _) HO2.o HG3.o⟩
       case measure=>simp [intOf];omega
      ·have hF:out2=(k:Int)::(S++K).flatMap (allF d f):=by rw [HP.o,Zn (by omega),HPS.o];simp
       have HF:=lH hF
       clear hF HP
       go_wp2
       go_ret
       exact ⟨HB.o,_,rfl,HF.o▸HO.o⟩
end Go.Proofs.YtklbmkaomojciaaGreat
set_option maxRecDepth 100000
set_option maxHeartbeats 2000000
namespace Go.Proofs.YtklbmkaomojciaaGreat
open Go.RowKit
theorem qZq (m:Nat) (v:Value) (l:List Int) (w:World) (hv:qKf m w v l) (hm:m<=w.heap.size) (hl:l.length<=1000000000) :
 Calls Tryz.prog 127 #[v] w (Rn w fun w' y=>qQb 1 qQf w.heap.size 3 w' y l):=by
 have hcmp:=fun w' a n c=>Lib.run_eql_slice_nil (P:=Tryz.prog) w' 29 3 a n c 0 0 Tryz.underlying29
 rcases qQa.cases hv with ⟨rfl,rfl⟩ | ⟨b,o,c,rfl,h1,h2,h3⟩
 ·go_enter Tryz.func127,Tryz.ntmps127
  go_wp2
  go_ret
  exact ⟨Below.refl _ _,_,rfl,qQb.nil _ _ _⟩
 ·have hB:Bel w (w.alloc (.cells #[] 3)):=(Br w).alloc _
  have HO0:=lH (zHk (sz:=1) (rd:=qQf) w w.heap.size w.heap.size 3 rfl (Zb _))
  have HR0:=lH (qQa.later hv qQc hB hm)
  have HS0:Hi (w.heap.size<=(w.alloc (.cells #[] 3)).heap.size):=lH (by simp)
  go_enter Tryz.func127,Tryz.ntmps127
  go_wp2_with (at_builtin;go_must (refine qZa rfl _ _ _ rfl qJm (by decide) rfl HO0.o rfl HR0.o (fun cs y _ h=>qKy _ cs y h) (by simp only [List.length_nil];omega) (by simp only [List.length_nil];omega) HS0.o (fun _ _ _ _ _ h=>h) ?_);intro v3 w3 o3 g3 _ f3;have HO3:=lH o3;have HB3:=lH (Below.own hB (Zb _) HO0.o g3);clear o3 g3 f3)
  go_ret
  exact ⟨HB3.o,_,rfl,by simpa using HO3.o⟩
def idxM (p:Int->Bool):List Int->Nat->Int
 | [],_=>-1
 | x::l,i=>if p x then (i:Int) else idxM p l (i+1)
theorem idx_drop {p:Int->Bool} {l:List Int} {j:Nat} (hj:j<l.length):idxM p (l.drop j) j=if p l[j] then (j:Int) else idxM p (l.drop (j+1)) (j+1):=by
 rw [List.drop_eq_getElem_cons hj];rfl
theorem zZf (p:Int->Bool):∀ (l:List Int) (i:Nat),(idxM p l i = -1/\∀ x∈l,p x=false)∨∃ k,∃ h:k<l.length,idxM p l i=((i+k:Nat):Int)/\p l[k]=true/\∀ x∈l.take k,p x=false:=by
 intro l
 induction l with
 | nil=>intro i;left;exact ⟨rfl,by simp⟩
 | cons a l ih=>
   intro i
   by_cases ha:p a=true
   ·right;exact ⟨0,by simp,by simp [idxM,ha],by simpa using ha,by simp⟩
   ·rcases ih (i+1) with ⟨h1,h2⟩ | ⟨k,hk,h1,h2,h3⟩
    ·left
     refine ⟨by rw [idxM,if_neg ha,h1],fun x hx=>?_⟩
     rcases List.mem_cons.1 hx with rfl | hx
     ·simpa using ha
     ·exact h2 x hx
    ·right
     refine ⟨k+1,by simp;omega,by rw [idxM,if_neg ha,h1];congr 1;omega,by simpa using h2,fun x hx=>?_⟩
     rw [List.take_succ_cons] at hx
     rcases List.mem_cons.1 hx with rfl | hx
     ·simpa using ha
     ·exact h3 x hx
def zHt (g:Nat) (lb:Array Value) (p:Int->Bool) (base:Nat) (w:World):Prop:=∀ W,Below base w W->∀ x:Int,Calls Tryz.prog g (#[.int .i64 x]++lb) W (Rb (.bool (p x)) W)
theorem qJ8 (g:Nat) (lb:Array Value) (p:Int->Bool) (eg:∀ args w,(callFunc g args).run Tryz.prog w=.ok (.enter g args) w) (m:Nat) (v:Value) (l:List Int) (w:World) (hv:qKf m w v l) (hm:m<=w.heap.size) (hp:zHt g lb p w.heap.size w) :
 Calls Tryz.prog 175 #[v,.func (.func g) #[] lb] w (Rb (.int .i64 (idxM p l 0)) w):=by
 obtain ⟨a,c,rfl,l1,l2⟩:=Rf hv
 have HV:=lH hv
 have HPp:=lH hp
 clear hv hp
 go_enter Tryz.func175,Tryz.ntmps175
 go_wp2
 go_loopw [8] (fun i wr=>∃ j:Nat,j<=l.length/\i=.int .i64 j/\idxM p (l.drop j) j=idxM p l 0/\Bel w wr) (fun i _=>l.length - (intOf i).toNat)
 case atStart=>exact ⟨0,by omega,rfl,rfl,Br _⟩
 case round=>
  obtain ⟨j,hj,rfl,hF,hB⟩:=hrel
  have HF:=lH hF
  have HB:=lH hB
  clear hF hB
  by_cases hlt:j<l.length
  ·obtain ⟨xb,xo,_,_,e1,hxb,_,_,_⟩:=qQa.elem HV.o j hlt
   simp at e1
   obtain ⟨rfl,rfl⟩:=e1
   have cx:=(Bel.cells HB.o _ _ (by omega)).trans (HV.o.int_cell j hlt)
   have HI:=lH (idx_drop (p:=p) hlt)
   have hcall:=HPp.o wr HB.o l[j]
   generalize l[j]=x at *
   cases hq:p x with
   | true=>
     rw [hq] at hcall
     have HR:Hi (idxM p l 0=(j:Int)):=lH (by rw [<- HF.o,HI.o,hq];rfl)
     go_wp2_with (go_at_fn g;refine qQe hcall HB fun w2 HB2=>?_)
     go_ret
     exact ⟨qQr HR.o.symm,HB2.o⟩
   | false=>
     rw [hq] at hcall
     have HR:Hi (idxM p (l.drop (j+1)) (j+1)=idxM p l 0):=lH (by rw [<- HF.o,HI.o,hq];rfl)
     go_wp2_with (go_at_fn g;refine qQe hcall HB fun w2 HB2=>?_)
     go_roundw
     case rel=>exact ⟨j+1,by omega,by go_num,HR.o,HB2.o⟩
     case measure=>simp [intOf];omega
  ·have HR:Hi (idxM p l 0 = -1):=lH (by rw [<- HF.o,List.drop_eq_nil_of_le (by omega)];rfl)
   go_wp2
   go_ret
   exact ⟨qQr HR.o.symm,HB.o⟩
theorem qH7 (g:Nat) (e:TypeId):∀ (vs:List Value) (o:Nat) (w:World) (C:List Value),Blk w g C e->∃ C',Blk (w.setCells g o vs) g C' e/\C'.length=C.length/\C'.take o=C.take o:=by
 intro vs
 induction vs with
 | nil=>intro o w C h;exact ⟨C,h,rfl,rfl⟩
 | cons v vs ih=>
   intro o w C h
   obtain ⟨C',h1,h2,h3⟩:=ih (o+1) _ _ (h.set o v)
   refine ⟨C',h1,by simpa using h2,?_⟩
   have:=congrArg (List.take o) h3
   rw [List.take_take,List.take_take,Nat.min_eq_left (Nat.le_succ o)] at this
   rw [this,List.take_set_of_le (Zb _)]
theorem qZv {B g:Nat} {a:World} (hg:B<=g):∀ (vs:List Value) (o:Nat) (w:World),Below B a w->Below B a (w.setCells g o vs):=by
 intro vs
 induction vs with
 | nil=>intro o w h;exact h
 | cons v vs ih=>intro o w h;exact ih _ _ (Below.setCell h hg v)
theorem qDl:∀ l:List Int,(l.map (fun x=>[Value.int .i64 x])).flatten=l.map (Value.int .i64):=by
 intro l
 induction l with
 | nil=>rfl
 | cons a l ih=>simp [ih]
theorem zQz {w:World} {base g n cap:Nat} {C:List Value} {l:List Int} (h:Blk w g C 3) (hb:base<=g) (hn:n=l.length) (hc:C.length=cap) (hcm:cap<=9223372036854775807) (hle:n<=cap) (ht:C.take n=l.map (Value.int .i64)) :
 qQb 1 qQf base 3 w (.slice (some ⟨g,0,none⟩) n cap) l:=by
 subst hn
 refine ⟨l.map (fun x=>[.int .i64 x]),by simp,fun i hi hi'=>by simp [qQf],?_,.inr ⟨g,cap,C.toArray,rfl,hb,h,hle,hcm,by simpa using hc,?_⟩⟩
 ·rw [qDl];simp
 ·rw [show C.toArray.toList=C from rfl,Nat.mul_one,ht,qDl]
theorem zQ8 {w:World} {base:Nat} {v:Value} {l:List Int} (h:qQb 1 qQf base 3 w v l) (hne:l≠[]) :
 ∃ g cap C,v=.slice (some ⟨g,0,none⟩) l.length cap/\base<=g/\Blk w g C 3/\C.length=cap/\cap<=9223372036854775807/\l.length<=cap/\C.take l.length=l.map (Value.int .i64):=by
 have hr:=h.row
 obtain ⟨xss,q1,q2,q3⟩:=h
 rcases q3.2 with ⟨rfl,h0⟩ | ⟨g,cap,cur,rfl,hb,hg,hnc,hcm,hcs,htake⟩
 ·exact absurd (List.eq_nil_of_length_eq_zero h0) hne
 ·refine ⟨g,cap,cur.toList,rfl,hb,by simpa [Blk] using hg,by simpa using hcs,hcm,hnc,?_⟩
  rw [Nat.mul_one] at htake
  rw [htake]
  have:xss=l.map (fun x=>[Value.int .i64 x]):=by
   refine List.ext_getElem (by simpa using q1) (fun i h1 h2=>?_)
   have:=(q2 i (by omega) h1).2
   rw [this];simp
  rw [this,qDl]
theorem qXh (g:Nat) (lb:Array Value) (p:Int->Bool) (eg:∀ args w,(callFunc g args).run Tryz.prog w=.ok (.enter g args) w) (base:Nat) (v:Value) (l:List Int) (w:World) (hown:qQb 1 qQf base 3 w v l) (hb:base<=w.heap.size) (hl:l.length<=1000000000)
 (hp:zHt g lb p base w) :
 Calls Tryz.prog 181 #[v,.func (.func g) #[] lb] w fun e w'=>Below base w w'/\∃ y,e=.returned y/\qQb 1 qQf base 3 w' y (l.filter (fun x=>!p x)):=by
 have cI:=lH (qJ8 g lb p eg w.heap.size v l w hown.read (Zb _) (fun W hW=>hp W (Below.mono hW hb)))
 have HPp:=lH hp
 rcases zZf p l 0 with ⟨e1,e2⟩ | ⟨k0,hk0,e1,ht,e2⟩
 ·obtain ⟨a,c,rfl,l1,l2⟩:=Rf hown.read
  have hF:l.filter (fun x=>!p x)=l:=List.filter_eq_self.2 (fun x hx=>by rw [e2 x hx];rfl)
  rw [e1] at cI
  have HO:=lH hown
  rw [hF]
  clear hp hown e1 e2 hF
  go_enter Tryz.func181,Tryz.ntmps181
  go_wp2_with (go_at_call 175;refine qKb cI.o fun w2 HB2=>?_)
  go_ret
  exact ⟨Below.mono HB2.o hb,_,rfl,HO.o.below HB2.o (Zb _) (fun _ _ _ h=>h)⟩
 ·rw [show ((0+k0:Nat):Int)=(k0:Int) by simp] at e1
  rw [e1] at cI
  obtain ⟨b,cap,C0,rfl,hbb,hK,hCl,hcm,hle,htk⟩:=zQ8 hown (by rintro rfl;simp at hk0)
  have hne:((k0:Int) == -1)=false:=beq_eq_false_iff_ne.2 (by omega)
  have hst0:(l.take (k0+1)).filter (fun x=>!p x)=l.take k0:=by
   rw [Zk hk0,List.filter_append,List.filter_eq_self.2 (fun x hx=>by rw [e2 x hx];rfl)]
   simp [ht]
  have HST0:=lH hst0
  have hC0:∀ q (h:q<l.length),C0[q]?=some (.int .i64 l[q]):=by
   intro q h
   have:=congrArg (fun t=>t[q]?) htk
   simp only [List.getElem?_take,h,if_true,List.getElem?_map,Zi h,Option.map_some] at this
   exact this
  have HC0:=lH hC0
  have HK:=lH hK
  have HTK:=lH htk
  clear hp hown e1 e2 hst0 hC0 hK htk ht
  have hz:∀ w,(zeroValue 3).run Tryz.prog w=.ok (.int .i64 0) w:=fun w=>by simp
  go_enter Tryz.func181,Tryz.ntmps181
  go_wp2_with (go_at_call 175;refine qKb cI.o fun w2 HB2=>?_)
  go_loopw [5,6] (fun s5 s6 wr=>∃ (i j:Nat) (C:List Value),s5=.int .i64 i/\s6=.int .i64 j/\i<j/\j<=l.length/\i=((l.take j).filter (fun x=>!p x)).length/\Blk wr b C 3/\C.length=cap/\C.take i=((l.take j).filter (fun x=>!p x)).map (Value.int .i64)/\(∀ q (h:q<l.length),j<=q->C[q]?=some (.int .i64 l[q]))/\Below base w wr) (fun _ s6 _=>l.length - (intOf s6).toNat)
  case atStart=>
   refine ⟨k0,k0+1,C0,rfl,by go_num,by omega,by omega,by rw [HST0.o];simp;omega,HK.o.bel HB2.o,hCl,?_,fun q h _=>HC0.o q h,Below.mono HB2.o hb⟩
   rw [HST0.o]
   have:=congrArg (List.take k0) HTK.o
   rw [List.take_take,Nat.min_eq_left (by omega)] at this
   rw [this,List.map_take]
  case round=>
   obtain ⟨i,j,C,rfl,rfl,hij,hj,hil,hK,hC,hT,hQ,hB⟩:=hrel
   have HK2:=lH hK
   have HT:=lH hT
   have HQ:=lH hQ
   have HB:=lH hB
   have HIL:=lH hil
   have cj0:=hK.cell j
   clear hK hT hQ hB hil
   by_cases hlt:j<l.length
   ·have hltz:(j:Int)<(l.length:Int):=by omega
    have cj:=cj0.trans (HQ.o j hlt (Zb _))
    have hcall:=HPp.o wr HB.o l[j]
    have hstep:Hi ((l.take (j+1)).filter (fun x=>!p x)=(l.take j).filter (fun x=>!p x)++if p l[j] then [] else [l[j]]):=lH (by
     rw [Zk hlt,List.filter_append]
     cases h:p l[j] <;> simp [h])
    clear cj0
    generalize l[j]=x at *
    cases hq:p x with
    | true=>
      rw [hq] at hcall
      have HS:Hi ((l.take (j+1)).filter (fun x=>!p x)=(l.take j).filter (fun x=>!p x)):=lH (by rw [hstep.o,hq];simp)
      clear hstep
      go_wp2_with (go_at_fn g;refine qKb hcall fun w3 HB3=>?_)
      go_roundw
      case rel=>exact ⟨i,j+1,C,rfl,by go_num,by omega,by omega,by rw [HS.o];exact HIL.o,HK2.o.bel HB3.o,hC,by rw [HS.o];exact HT.o,fun q h hq=>HQ.o q h (by omega),Below.trans HB.o (Below.mono HB3.o (Za hb HB.o.size))⟩
      case measure=>simp [intOf];omega
    | false=>
      rw [hq] at hcall
      have HS:Hi ((l.take (j+1)).filter (fun x=>!p x)=(l.take j).filter (fun x=>!p x)++[x]):=lH (by rw [hstep.o,hq];simp)
      clear hstep
      obtain ⟨old,hold⟩:∃ old,C[i]?=some old:=⟨_,Zi (show i<C.length by omega)⟩
      go_wp2_with (go_at_fn g;refine hcall.mono ?_;rintro e w3 ⟨rfl,b3⟩;have HB3:=lH b3;have HK3:=lH (HK2.o.bel b3);have c3:=(HK2.o.bel b3).cell i;have f3:=(HK2.o.bel b3).frozen i;rw [hold] at c3;clear b3)
      go_roundw
      case rel=>
       refine ⟨i+1,j+1,C.set i (.int .i64 x),by go_num,by go_num,by omega,by omega,by rw [HS.o];simp;exact HIL.o,HK3.o.set i _,by simpa using hC,?_,fun q h hq=>?_,?_⟩
       ·rw [HS.o,List.map_append,<- HT.o,Zk (by simp;omega)]
        rw [List.take_set_of_le (Zb _)]
        simp
       ·rw [List.getElem?_set_ne (by omega)]
        exact HQ.o q h (by omega)
       ·exact Below.setCell (Below.trans HB.o (Below.mono HB3.o (Za hb HB.o.size))) hbb _
      case measure=>simp [intOf];omega
   ·obtain rfl:j=l.length:=by omega
    have hltz:¬ (l.length:Int)<(l.length:Int):=by omega
    have hcl:∀ ty,(Builtin.clear_ #[29] ty #[.slice (some ⟨b,i,none⟩) (l.length - i) (cap - i)]).run Tryz.prog wr=.ok (.tuple #[]) (wr.setCells b i (List.replicate (l.length - i) (.int .i64 0))):=fun ty=>
     Lib.run_clear_slice wr _ 3 ty _ Tryz.underlying29 hz rfl rfl b i _ _ (by omega)
      (fun t ht=>by rw [HK2.o.cell (i+t),Zi (show i+t<C.length by omega)];rfl) (fun t ht=>HK2.o.frozen (i+t))
    have hfin:l.take l.length=l:=Zn (Zb _)
    rw [hfin] at HIL HT
    clear cj0
    go_wp2
    go_ret
    obtain ⟨C',q1,q2,q3⟩:=qH7 b 3 (List.replicate (l.length - i) (.int .i64 0)) i wr C HK2.o
    exact ⟨qZv hbb _ _ _ HB.o,_,rfl,zQz q1 hbb HIL.o (by omega) hcm (by omega) (by rw [q3];exact HT.o)⟩
end Go.Proofs.YtklbmkaomojciaaGreat

/- The walks of chapter 1's code: Blank, Lower, Tokens, Num, Name. -/
import Derived.Test.YtklbmkaomojciaaGreatBytes
import Derived.Test.YtklbmkaomojciaaGreatShelf
import Derived.Deep.RegionHeld
import Derived.Deep.Slices
import Derived.SizedLaws
set_option maxRecDepth 100000
set_option maxHeartbeats 2000000
namespace Go.Proofs.YtklbmkaomojciaaGreat
open Go.RowKit
theorem qG2:SlT Tryz.prog 35 9 1 16:=by
 refine ⟨by kernel_rfl,?_⟩
 obtain ⟨i,h1,h2,h3,h4⟩:=info_parts (by kernel_rfl:(Tryz.prog.info? 9).map (fun i=>(i.zero,i.size,i.bytes))=some (some (.string ⟨#[]⟩),1,16))
 exact ⟨i,_,h1,h2,h3,h4,rfl⟩
theorem u8_ne {c:UInt8} {k:Nat} (hk:k<256) (h:c≠UInt8.ofNat k):((c.toNat:Int)==(k:Int))=false:=by
 rw [beq_eq_false_iff_ne]
 intro e
 refine h (UInt8.toNat_inj.1 ?_)
 have:c.toNat=k:=by omega
 rw [this];simp;omega
theorem qVb (c:UInt8) (w:World):Calls Tryz.prog 153 #[.int .u8 (c.toNat:Int)] w (Rv (.bool (blank c)) w):=by
 by_cases h:c=32∨c=9∨c=10∨c=13
 ·have hb:blank c=true:=by rcases h with rfl | rfl | rfl | rfl <;> rfl
  rw [hb]
  rcases h with rfl | rfl | rfl | rfl
  all_goals
   clear hb
   go_enter Tryz.func153,Tryz.ntmps153
   go_wp2
   go_ret
   exact ⟨rfl,rfl⟩
 ·have h1:((c.toNat:Int)==32)=false:=u8_ne (k:=32) (by omega) (fun e=>h (.inl e))
  have h2:((c.toNat:Int)==9)=false:=u8_ne (k:=9) (by omega) (fun e=>h (.inr (.inl e)))
  have h3:((c.toNat:Int)==10)=false:=u8_ne (k:=10) (by omega) (fun e=>h (.inr (.inr (.inl e))))
  have h4:((c.toNat:Int)==13)=false:=u8_ne (k:=13) (by omega) (fun e=>h (.inr (.inr (.inr e))))
  have hb:blank c=false:=by simp [blank];exact ⟨⟨⟨fun e=>h (.inl e),fun e=>h (.inr (.inl e))⟩,fun e=>h (.inr (.inr (.inl e)))⟩,fun e=>h (.inr (.inr (.inr e)))⟩
  rw [hb]
  clear hb h
  go_enter Tryz.func153,Tryz.ntmps153
  go_wp2
  go_ret
  exact ⟨rfl,rfl⟩
def fromI:Option Nat->Int
 | none=>-1
 | some a=>(a:Int)
theorem zFf (s:List UInt8) (a k:Nat):(ByteArray.mk s.toArray).extract a k=⟨((s.drop a).take (k - a)).toArray⟩:=ByteArray.extract_mk s a k
theorem qYj (s:List UInt8) (w:World) (hs:s.length<=8000000000000) :
 Calls Tryz.prog 103 #[.string ⟨s.toArray⟩] w (Rn w fun w' v=>qQb 1 qB3 w.heap.size 9 w' v (toks s)):=by
 have hm:s.length<=9223372036854775806:=by omega
 have htl:=lH (qY9 s)
 go_enter Tryz.func103,Tryz.ntmps103
 go_wp2
 go_loopw [10,3,4] (fun i v f wr=>∃ (k:Nat) (out:List (List UInt8)) (cur:Option Nat),k<=s.length+1/\i=.int .i64 k/\f=.int .i64 (fromI cur)/\qJ1 s out cur k/\qQb 1 qB3 w.heap.size 9 wr v out/\Below w.heap.size w wr) (fun i _ _ _=>s.length+1 - (intOf i).toNat)
 case atStart=>exact ⟨0,[],none,by omega,rfl,rfl,zWl s,qQb.nil _ _ _,Below.refl _ _⟩
 case round=>
  obtain ⟨k,out,cur,hk,rfl,rfl,hsc,hO,hB⟩:=hrel
  have SC:=lH hsc
  have HO:=lH hO
  have HB:=lH hB
  clear hsc hO hB
  by_cases hlt:k<=s.length
  ·have hkk:k<s.length+1:=by omega
   have hol:out.length<=s.length:=Za (scan_len SC.o) htl.o
   cases cur with
   | none=>
     have hf:fromI none = -1:=rfl
     by_cases e:k=s.length
     ·have he:((k:Int)==(s.length:Int))=true:=by simp;omega
      have SC':=lH (qVu SC.o hlt (fun h'=>by omega))
      clear e
      go_wp2
      go_roundw
      case rel=>exact ⟨k+1,out,none,by omega,by go_num,rfl,SC'.o,HO.o,HB.o⟩
      case measure=>simp [intOf];omega
     ·have he:((k:Int)==(s.length:Int))=false:=by simp;omega
      have hks:k<s.length:=by omega
      cases hb:blank s[k] with
      | true=>
        have SC':=lH (qVu SC.o hlt (fun h'=>hb))
        go_wp2_with (go_at_call 153;refine (qVb s[k] _).mono ?_;rintro e w1 ⟨rfl,rfl⟩)
        go_roundw
        case rel=>exact ⟨k+1,out,none,by omega,by go_num,rfl,SC'.o,HO.o,HB.o⟩
        case measure=>simp [intOf];omega
      | false=>
        have SC':=lH (zJ6 SC.o hks hb)
        go_wp2_with (go_at_call 153;refine (qVb s[k] _).mono ?_;rintro e w1 ⟨rfl,rfl⟩)
        go_roundw
        case rel=>exact ⟨k+1,out,some k,by omega,by go_num,rfl,SC'.o,HO.o,HB.o⟩
        case measure=>simp [intOf];omega
   | some a=>
     have hf:fromI (some a)=(a:Int):=rfl
     have hak:a<k:=(zJb SC.o).1
     have S0:=HB.o.size
     have HE:=lH (congrArg (fun b=>[Value.string b]) (zFf s a k))
     by_cases e':k=s.length
     ·have he:((k:Int)==(s.length:Int))=true:=by simp;omega
      have SC':=lH (qV3 SC.o (fun h'=>by omega))
      clear e'
      go_wp2_with (at_builtin;go_must (refine qKx rfl _ _ _ rfl qG2 (by decide) qXa zZy rfl HO.o rfl rfl ((s.drop a).take (k - a)) ⟨rfl,HE.o⟩ (by omega) (by omega) S0 ?_);intro v1 w1 o1 g1;have HO1:=lH o1;have HB1:=lH (Below.own HB.o (Zb _) HO.o g1);clear o1 g1)
      go_roundw
      case rel=>exact ⟨k+1,_,none,by omega,by go_num,rfl,SC'.o,HO1.o,HB1.o⟩
      case measure=>simp [intOf];omega
     ·have he:((k:Int)==(s.length:Int))=false:=by simp;omega
      have hks:k<s.length:=by omega
      cases hb:blank s[k] with
      | true=>
        have SC':=lH (qV3 SC.o (fun h'=>hb))
        go_wp2_with (first
 | (at_builtin;go_must (refine qKx rfl _ _ _ rfl qG2 (by decide) qXa zZy rfl HO.o rfl rfl ((s.drop a).take (k - a)) ⟨rfl,HE.o⟩ (by omega) (by omega) S0 ?_);intro v1 w1 o1 g1;have HO1:=lH o1;have HB1:=lH (Below.own HB.o (Zb _) HO.o g1);clear o1 g1)
 | (go_at_call 153;refine (qVb s[k] _).mono ?_;rintro e w1 ⟨rfl,rfl⟩))
        go_roundw
        case rel=>exact ⟨k+1,_,none,by omega,by go_num,rfl,SC'.o,HO1.o,HB1.o⟩
        case measure=>simp [intOf];omega
      | false=>
        have SC':=lH (zK1 SC.o hks hb)
        go_wp2_with (go_at_call 153;refine (qVb s[k] _).mono ?_;rintro e w1 ⟨rfl,rfl⟩)
        go_roundw
        case rel=>exact ⟨k+1,out,some a,by omega,by go_num,rfl,SC'.o,HO.o,HB.o⟩
        case measure=>simp [intOf];omega
  ·obtain rfl:cur=none:=by cases cur with | none=>rfl | some a=>exact absurd (zJb SC.o).2 hlt
   go_wp2
   go_ret
   exact ⟨HB.o,_,rfl,by rw [<- zH4 SC.o (by omega)];exact HO.o⟩
theorem qDq:Tryz.prog.underlying 145=some (.slice 5):=by kernel_rfl
theorem zZx:Tryz.prog.underlying 5=some (.int .u8):=by kernel_rfl
theorem qHi:Tryz.prog.underlying 9=some .string:=by kernel_rfl
theorem qHm (B:Nat->Prop) (v:Value) (l:List (List UInt8)) (w:World) (hv:zGp B w v l) (hs:wsum l<=140737488355328) :
 Calls Tryz.prog 105 #[v,.string ⟨#[32]⟩] w (Rb (.string ⟨(join l).toArray⟩) w):=by
 have hl:l.length<=wsum l:=by
  clear hv hs
  induction l with
  | nil=>simp
  | cons x r ih=>simp [wsum] at *;omega
 rcases hv with ⟨rfl,rfl⟩ | ⟨b,off,cap,rfl,h1,h2,h3⟩
 ·exact (Go.Proofs.Tryz.strings_Join_none none 0 ⟨#[32]⟩ w).mono fun e w' ⟨he,hw⟩=>⟨he,by rw [hw];exact Below.refl _ _⟩
 ·cases l with
  | nil=>exact (Go.Proofs.Tryz.strings_Join_none (some ⟨b,off,none⟩) cap ⟨#[32]⟩ w).mono fun e w' ⟨he,hw⟩=>⟨he,by rw [hw];exact Below.refl _ _⟩
  | cons x r=>
    have hv:zGp B w (.slice (some ⟨b,off,none⟩) (x::r).length cap) (x::r):=.inr ⟨b,off,cap,rfl,h1,h2,h3⟩
    obtain ⟨_,cs,c1,c2,c3⟩:=h3 0 (by simp)
    have hb:b<w.heap.size:=c2.lt (by intro e;rw [e] at c1;simp at c1)
    have hj:Lib.join (((x::r).map (fun s=>(⟨s.toArray⟩:ByteArray))).map (·.data.toList)) (ByteArray.mk #[32]).data.toList=join (x::r):=by
     rw [List.map_map]
     have:((fun s:ByteArray=>s.data.toList) ∘ fun s:List UInt8=>(⟨s.toArray⟩:ByteArray))=id:=by funext s;simp
     rw [this,List.map_id]
     exact qGm (x::r)
    have hlen:=qF5 (x::r)
    have hlen2:=hlen.2 (by simp)
    have key:=Go.Proofs.Tryz.strings_Join b off cap ((x::r).map (fun s=>(⟨s.toArray⟩:ByteArray))) ⟨#[32]⟩ w ?_ hb (by simp at hl ⊢;omega) (by simpa using h1) (by rw [hj];omega)
    ·rw [hj] at key
     simp only [List.length_map] at key
     exact key.mono fun e w' h=>h
    ·intro j y hy
     have hjl:j<(x::r).length:=by
      have:=(List.getElem?_eq_some_iff.1 hy).1
      simpa using this
     rw [hv.str_cell j hjl]
     rw [List.getElem?_map,Zi hjl] at hy
     simp at hy
     simp [hy]
theorem qJa (s:List UInt8) (w:World) (hs:s.length<=8000000000000) :
 Calls Tryz.prog 81 #[.string ⟨s.toArray⟩] w (Rb (.string ⟨(qQm s).toArray⟩) w):=by
 have hw:=zGl s
 go_enter Tryz.func81,Tryz.ntmps81
 go_wp2_with fail
 (with_reducible refine (qYj s _ hs).mono ?_)
 rintro e w1 ⟨b1,v,rfl,h1⟩
 have B1:=lH b1;clear b1
 go_wp2_with fail
 (with_reducible refine (qHm _ _ _ _ h1.row (by omega)).mono ?_)
 rintro e w2 ⟨rfl,b2⟩
 have B2:=lH (Bt B1.o b2);clear b2
 go_wp2
 go_ret
 exact ⟨rfl,B2.o⟩
theorem qBj (s:List UInt8) (w:World) (hs:s.length<=8000000000000) :
 Calls Tryz.prog 80 #[.string ⟨s.toArray⟩] w (Rb (.string ⟨(qJ5 s).toArray⟩) w):=by
 go_enter Tryz.func80,Tryz.ntmps80
 go_wp2_with (with_reducible refine qFe rfl _ _ _ rfl qHi qDq zZx rfl ?_;intro cap w1 h1 g1 s1;have H1:=lH h1;have B1:=lH ((Below.refl w.heap.size w).grown g1 (Zb _) (by simp));clear h1 g1 s1)
 go_loopw [10] (fun i wr=>∃ k:Nat,k<=s.length/\i=.int .i64 k/\qKs wr w.heap.size (qBt s k)/\Below w.heap.size w wr) (fun i _=>s.length - (intOf i).toNat)
 case atStart=>exact ⟨0,by omega,rfl,by rw [zWr];exact H1.o,B1.o⟩
 case round=>
  obtain ⟨k,hk,rfl,hy,hB⟩:=hrel
  clear H1 B1
  have HY:=lH hy
  have HB:=lH hB
  clear hy hB
  by_cases hlt:k<s.length
  ·have hk':k<(qBt s k).length:=by rw [zJ7];exact hlt
   have hc:=HY.o.cell hk'
   have hm:=HY.o.mark hk'
   rw [zY2 hlt] at hc
   have hL:=lH (zQ3 hlt)
   have hS:=lH (zV8 hlt)
   generalize s[k]=c at *
   have hc8:c.toNat<256:=c.toNat_lt
   by_cases hup:65<=c.toNat/\c.toNat<=90
   ·obtain ⟨h65,h90⟩:=hup
    have LU:=lH (low_up h65 h90)
    go_wp2
    go_roundw
    case rel=>
     refine ⟨k+1,by omega,by go_num,?_,HB.o.setCell (Zb _) _⟩
     rw [hL.o,LU.o.1]
     exact qKs.store HY.o hk' (c+32) _ (by rw [LU.o.2];rfl)
    case measure=>simp [intOf];omega
   ·have LI:=lH (low_id (c:=c) (by omega))
    have hup':c.toNat<65∨90<c.toNat:=by omega
    clear hup
    rcases hup' with h | h
    all_goals
     go_wp2
     go_roundw
     case rel=>exact ⟨k+1,by omega,by go_num,by rw [hS.o LI.o];exact HY.o,HB.o⟩
     case measure=>simp [intOf];omega
  ·have hk0:k=s.length:=by omega
   have HK:=lH hk0
   have hx:∀ j (h:j<(qJ5 s).length),wr.cell? ⟨w.heap.size,j,none⟩=some (.int .u8 ((qJ5 s)[j].toNat:Int)):=by
    intro j hj
    have:=zG7 s k (by omega)
    have h2:=HY.o
    rw [this] at h2
    exact h2.cell hj
   have HX:=lH hx
   have hn:=qGd s
   have HN:=lH hn.symm
   clear hx hn hk0
   go_wp2_with ((with_reducible refine zK0 rfl _ _ _ rfl qDq zZx qHi rfl HN.o HX.o ?_))
   go_ret
   exact ⟨rfl,HB.o⟩
theorem zHo (s:List UInt8) (w:World) (hs:s.length<=8000000000000) :
 Calls Tryz.prog 77 #[.string ⟨s.toArray⟩] w (Rb (.int .i64 (num s)) w):=by
 have N:=lH (show num s=if 1<=(qQm s).length/\(qQm s).length<=2 then numF 0 (qQm s) else 0 from rfl)
 have sq:=lH (qJa s · hs)
 generalize qQm s=q at *
 by_cases hq:1<=q.length/\q.length<=2
 ·have N':num s=numF 0 q:=by rw [N.o,if_pos hq]
  rw [N']
  clear N N'
  obtain ⟨hq1,hq2⟩:=hq
  go_enter Tryz.func77,Tryz.ntmps77
  go_wp2_with fail
  (with_reducible refine (sq.o _).mono ?_)
  rintro e w0 ⟨rfl,b0⟩
  have B0:=lH b0;clear b0
  go_wp2_with (with_reducible refine qFe rfl _ _ _ rfl qHi qDq zZx rfl ?_;intro cap w1 h1 g1 s1;have H1:=lH h1;have B1:=lH (B0.o.grown g1 B0.o.size (by simp));clear h1 g1 s1)
  go_loop [19,3] (fun i f=>∃ (k:Nat) (n:Int),k<=q.length/\i=.int .i64 k/\f=.int .i64 n/\numF n (q.drop k)=numF 0 q/\0<=n/\n<=(if k=0 then 0 else if k=1 then 9 else 99)) (fun i _=>q.length - (intOf i).toNat)
  case atStart=>exact ⟨0,0,by omega,rfl,rfl,rfl,by omega,by simp⟩
  case round=>
   obtain ⟨k,n,hk,rfl,rfl,hn,hn0,hn1⟩:=hrel
   have HN:=lH hn
   have HN1:=lH hn1
   clear hn hn1
   by_cases hlt:k<q.length
   ·have hc:=H1.o.cell hlt
    have hn9:n<=9:=by have:=HN1.o;split at this <;> (try split at this) <;> omega
    have HD:Hi (numF n (q[k]::q.drop (k+1))=numF 0 q):=lH (by rw [<- List.drop_eq_getElem_cons hlt];exact HN.o)
    clear HN
    generalize q[k]=c at *
    have hc8:c.toNat<256:=c.toNat_lt
    by_cases hd:48<=c.toNat/\c.toNat<=57
    ·have HD':Hi (numF (10*n+((c.toNat:Int) - 48)) (q.drop (k+1))=numF 0 q):=lH (by
      have:=HD.o
      simp only [numF] at this
      rwa [if_pos (by simp only [digit,Bool.and_eq_true,decide_eq_true_eq,UInt8.le_iff_toNat_le];exact ⟨by simpa using hd.1,by simpa using hd.2⟩)] at this)
     clear HD
     obtain ⟨hd1,hd2⟩:=hd
     go_wp2
     go_round
     case rel=>refine ⟨k+1,_,by omega,by go_num,rfl,HD'.o,by omega,?_⟩;have:=HN1.o;split at this <;> (try split at this) <;> simp <;> omega
     case measure=>simp [intOf];omega
    ·have HD':Hi (numF 0 q=0):=lH (by
      have:=HD.o
      simp only [numF] at this
      rw [if_neg (by simp only [digit,Bool.and_eq_true,decide_eq_true_eq,UInt8.le_iff_toNat_le];intro hh;have h1:=hh.1;have h2:=hh.2;simp at h1 h2;omega)] at this
      exact this.symm)
     have hd':c.toNat<48∨57<c.toNat:=by omega
     clear hd HD
     rcases hd' with h | h
     all_goals
      go_wp2
      go_ret
      exact ⟨qQr HD'.o.symm,B1.o⟩
   ·go_wp2
    go_ret
    exact ⟨qQr (by have:=HN.o;rw [List.drop_eq_nil_of_le (by omega)] at this;exact this),B1.o⟩
 ·have N':num s=0:=by rw [N.o,if_neg hq]
  rw [N']
  clear N N'
  have hq':q.length=0∨2<q.length:=by omega
  clear hq
  rcases hq' with hq | hq
  ·obtain rfl:q=[]:=List.eq_nil_of_length_eq_zero hq
   clear hq
   go_enter Tryz.func77,Tryz.ntmps77
   go_wp2_with fail
   (with_reducible refine (sq.o _).mono ?_)
   rintro e w0 ⟨rfl,b0⟩
   have B0:=lH b0;clear b0
   go_wp2
   go_ret
   exact ⟨rfl,B0.o⟩
  ·go_enter Tryz.func77,Tryz.ntmps77
   go_wp2_with fail
   (with_reducible refine (sq.o _).mono ?_)
   rintro e w0 ⟨rfl,b0⟩
   have B0:=lH b0;clear b0
   go_wp2
   go_ret
   exact ⟨rfl,B0.o⟩
theorem zQv (s:List UInt8) (w:World) (hs:s.length<=9223372036854775807) :
 Calls Tryz.prog 201 #[.string ⟨s.toArray⟩] w (Rv (.bool (name s)) w):=by
 by_cases hl:1<=s.length/\s.length<=20
 ·obtain ⟨hl1,hl2⟩:=hl
  have NE:Hi (name s=qVq 0 s):=lH (by simp [name,hl1,hl2])
  go_enter Tryz.func201,Tryz.ntmps201
  go_wp2
  go_loop [15] (fun i=>∃ k:Nat,k<=s.length/\i=.int .i64 k/\qVq 0 s=qVq k (s.drop k)) (fun i=>s.length - (intOf i).toNat)
  case atStart=>exact ⟨0,by omega,rfl,rfl⟩
  case round=>
   obtain ⟨k,hk,rfl,hn⟩:=hrel
   have HN:=lH hn
   clear hn
   by_cases hlt:k<s.length
   ·have D:=lH (qFf hlt)
    have F:=lH (zZ3 hlt HN.o)
    have CE:=lH (chk_eq k s[k])
    obtain ⟨c,hc⟩:∃ c,c=s[k]:=⟨_,rfl⟩
    have hbk:=byte_at hc
    rw [<- hc] at D F CE
    clear hc
    have hcs:=zVw c
    have hc8:c.toNat<256:=c.toNat_lt
    have h0:((k:Int)==0)=true/\k=0∨((k:Int)==0)=false/\0<k:=by
     by_cases e:k=0
     ·exact .inl ⟨by simp [e],e⟩
     ·exact .inr ⟨by simp;omega,by omega⟩
    have good:chk k c=true->Hi (qVq 0 s=qVq (k+1) (s.drop (k+1))):=fun h=>lH (by rw [HN.o,D.o,h];rfl)
    have GOOD:=lH good
    clear good
    rcases h0 with ⟨h0,h0'⟩ | ⟨h0,h0'⟩
    all_goals
     have HK:=lH h0'
     clear h0'
     rcases hcs with h | h | ⟨h,h'⟩ | ⟨h,h'⟩ | ⟨h,h'⟩ | ⟨h,h'⟩ | h
     all_goals
      first
      | have hd:((c.toNat:Int) != 45)=true:=by rw [bne_iff_ne];omega
      | have hd:((c.toNat:Int) != 45)=false:=by rw [bne_eq_false_iff_eq];omega
      first
      | have G:=lH (GOOD.o (by rw [CE.o];have:=HK.o;simp only [Bool.or_eq_true,Bool.and_eq_true,decide_eq_true_eq];omega))
        clear GOOD F
        go_wp2
        go_round
        case rel=>exact ⟨k+1,by omega,by go_num,G.o.out⟩
        case measure=>simp [intOf];omega
      | have G:=lH (F.o (by rw [CE.o];have:=HK.o;simp only [Bool.or_eq_false_iff,Bool.and_eq_false_iff,decide_eq_false_iff_not];omega))
        clear GOOD F
        go_wp2
        go_ret
        exact ⟨qJj G.o.symm,rfl⟩
   ·go_wp2
    go_ret
    exact ⟨qJj (by rw [NE.o,HN.o,List.drop_eq_nil_of_le (by omega)];rfl),rfl⟩
 ·have NE:name s=false:=by
   unfold name
   by_cases h:1<=s.length
   ·simp;intro h2;omega
   ·simp;intro h2;omega
  rw [NE]
  have hl':s.length<1∨20<s.length:=by omega
  clear hl NE
  rcases hl' with h | h
  all_goals
   go_enter Tryz.func201,Tryz.ntmps201
   go_wp2
   go_ret
   exact ⟨rfl,rfl⟩
def chgV (x:Chg):Value:=.agg #[.int .i64 x.kind,.int .i64 x.node,.int .i64 x.dest,.int .i64 x.before,.string ⟨x.name.toArray⟩,.string ⟨x.value.toArray⟩]
abbrev qHw (w:World) (r:Int×Int×Dc):Ending->World->Prop:=Rn w fun w' y=>∃ u,y=.tuple #[u,.int .i64 r.2.1,.int .i64 r.1]/\qZb w'.heap.size w' u r.2.2
theorem qHw.no {w w':World} {r:Int×Int×Dc} {e:Int} (h:r=(e,0,[])) (hb:Bel w w'):qHw w r (.returned (.tuple #[.slice none 0 0,.int .i64 0,.int .i64 e])) w':=by
 subst h;exact ⟨hb,_,rfl,_,rfl,qQa.nil⟩
theorem qHw.yes {w w':World} {r:Int×Int×Dc} {u:Value} {n:Int} {d:Dc} (h:r=(0,n,d)) (hb:Bel w w') (hd:qZb w'.heap.size w' u d):qHw w r (.returned (.tuple #[u,.int .i64 n,.int .i64 0])) w':=by
 subst h;exact ⟨hb,_,rfl,_,rfl,hd⟩
theorem qHw.any {w w':World} {r:Int×Int×Dc} {u:Value} {e n:Int} {d:Dc} (h:r=(e,n,d)) (hb:Bel w w') (hd:qZb w'.heap.size w' u d):qHw w r (.returned (.tuple #[u,.int .i64 n,.int .i64 e])) w':=by
 subst h;exact ⟨hb,_,rfl,_,rfl,hd⟩
theorem qDt.up {m:Nat} {w w':World} {v:Value} {l:List Att} (h:qDt m w v l) (hb:Bel w w') (hm:m<=w.heap.size):qDt w'.heap.size w' v l:=
 (qQa.later h qZc hb hm).mono (fun _ h=>Zc h (Za hm hb.size)) (fun _ _ _ h=>h)
theorem qKf.up {m:Nat} {w w':World} {v:Value} {l:List Int} (h:qKf m w v l) (hb:Bel w w') (hm:m<=w.heap.size):qKf w'.heap.size w' v l:=
 (qQa.later h qQc hb hm).mono (fun _ h=>Zc h (Za hm hb.size)) (fun _ _ _ h=>h)
theorem qZb.up {m:Nat} {w w':World} {v:Value} {d:Dc} (h:qZb m w v d) (hb:Bel w w') (hm:m<=w.heap.size):qZb w'.heap.size w' v d:=
 (h.later hb hm).raise (Za hm hb.size)
theorem Bel.drewN {a w:World} (h:Bel a w) (n:Nat):Bel a (w.drewN n):=Below.trans h (Drew.below ⟨n,rfl⟩ _)
def rdChg:World->List Value->Chg->Prop:=fun _ cs x=>cs=[.int .i64 x.kind,.int .i64 x.node,.int .i64 x.dest,.int .i64 x.before,.string ⟨x.name.toArray⟩,.string ⟨x.value.toArray⟩]
theorem zH5:qBk rdChg:=fun _ _ _ _ h=>h
abbrev zY5 (n:Nat) (w:World) (v:Value) (l:List Chg):Prop:=qQa 6 rdChg (·<n) w v l
theorem zBa {m:Nat} {w:World} {b o len cap:Nat} {l:List Chg} (h:zY5 m w (.slice (some ⟨b,o,none⟩) len cap) l) (i:Nat) (hi:i<l.length) :
 w.cell? ⟨b,o+i*6,none⟩=some (.int .i64 l[i].kind)/\w.cell? ⟨b,o+i*6+1,none⟩=some (.int .i64 l[i].node)/\w.cell? ⟨b,o+i*6+2,none⟩=some (.int .i64 l[i].dest)/\w.cell? ⟨b,o+i*6+3,none⟩=some (.int .i64 l[i].before) /\
 w.cell? ⟨b,o+i*6+4,none⟩=some (.string ⟨l[i].name.toArray⟩)/\w.cell? ⟨b,o+i*6+5,none⟩=some (.string ⟨l[i].value.toArray⟩):=by
 obtain ⟨b',off',cap',cs,h1,_,h2,h3,h4⟩:=qQa.elem h i hi
 simp at h1
 obtain ⟨⟨rfl,rfl⟩,_,_⟩:=h1
 cases h4
 exact ⟨by simpa using h3.at 0 (by simp),by simpa using h3.at 1 (by simp),by simpa using h3.at 2 (by simp),by simpa using h3.at 3 (by simp),by simpa using h3.at 4 (by simp),by simpa using h3.at 5 (by simp)⟩
end Go.Proofs.YtklbmkaomojciaaGreat
set_option maxRecDepth 100000
namespace Go.Proofs.YtklbmkaomojciaaGreat
open Go.RowKit Go.WideShapes Go.ChangeShapes
instance:Inhabited Chg:=⟨{}⟩
theorem zBj:maxLen=9223372036854775807:=by decide
theorem qB6 {cs:List Value} {i:Nat} (hi:i<cs.length):(cs.drop i).take 1=[cs[i]]:=by
 rw [List.drop_eq_getElem_cons hi];rfl
theorem open_chg {H:Type} {enc:TypeId×Value->H} {P:Program} {w:World} {sp:Nat->Bool} {held:Bool} {e:TypeId} {fs:Array Field} (he:P.underlying e=some (.struct fs)) (ce:P.cellsOf e=6) (hsz:fs.size=6)
 (hfs:∀ i f,fs[i]?=some f->f.offset=i/\P.cellsOf f.type=1/\P.underlying f.type=some (if i<4 then .int .i64 else .string))
 {fuel:Nat} {cs:List Value} {y:DataW H×List MemPlace} (h:DataW.trod enc P w 0 sp held fuel e cs=some y) :
 ∃ x:Chg,rdChg w cs x/\cs.length=6/\x.name.length<=9223372036854775807/\x.value.length<=9223372036854775807:=by
 obtain ⟨xs,n,_,_,hl,hlen,hf⟩:=DataW.trod_struct he h
 rw [ce] at hl
 have hi:∀ i (hi:i<4),∃ k,cs[i]'(by omega)=.int .i64 k:=by
  intro i hi
  have hlt:i<fs.size:=by omega
  obtain ⟨o,c,u⟩:=hfs i fs[i] (Array.getElem?_eq_getElem hlt)
  have:=hf i fs[i] (Array.getElem?_eq_getElem hlt)
  rw [o,c,qB6 (by omega),Zi (by omega)] at this
  rw [if_pos hi] at u
  obtain ⟨k,h1,_⟩:=DataW.trod_int u this
  exact ⟨k,by simpa using h1⟩
 have hs:∀ i (h1:4<=i) (hi:i<6),∃ s:Txt,cs[i]'(by omega)=.string ⟨s.toArray⟩/\s.length<=9223372036854775807:=by
  intro i h1 hi
  have hlt:i<fs.size:=by omega
  obtain ⟨o,c,u⟩:=hfs i fs[i] (Array.getElem?_eq_getElem hlt)
  have:=hf i fs[i] (Array.getElem?_eq_getElem hlt)
  rw [o,c,qB6 (by omega),Zi (by omega)] at this
  rw [if_neg (by omega)] at u
  obtain ⟨k,h1,_,h3⟩:=DataW.trod_string u this
  refine ⟨k.data.toList,?_,?_⟩
  ·simp at h1;rw [h1]
  ·exact zBj▸h3
 obtain ⟨k0,e0⟩:=hi 0 (by omega)
 obtain ⟨k1,e1⟩:=hi 1 (by omega)
 obtain ⟨k2,e2⟩:=hi 2 (by omega)
 obtain ⟨k3,e3⟩:=hi 3 (by omega)
 obtain ⟨s4,e4,b4⟩:=hs 4 (by omega) (by omega)
 obtain ⟨s5,e5,b5⟩:=hs 5 (by omega) (by omega)
 refine ⟨⟨k0,k1,k2,k3,s4,s5⟩,?_,hl,b4,b5⟩
 revert e0 e1 e2 e3 e4 e5
 match cs,hl with
 | [c0,c1,c2,c3,c4,c5],_=>
   intro e0 e1 e2 e3 e4 e5
   simp at e0 e1 e2 e3 e4 e5
   subst e0 e1 e2 e3 e4 e5
   rfl
theorem zB2 {H:Type} {enc:TypeId×Value->H} {P:Program} {w:World} {sp:Nat->Bool} {held:Bool} {t e:TypeId} {fs:Array Field} (ht:P.underlying t=some (.slice e)) (he:P.underlying e=some (.struct fs)) (ce:P.cellsOf e=6) (hsz:fs.size=6)
 (hfs:∀ i f,fs[i]?=some f->f.offset=i/\P.cellsOf f.type=1/\P.underlying f.type=some (if i<4 then .int .i64 else .string))
 {r:Go.Reach} {b0:Nat} {v:Value} {d:DataW H} {ps:List MemPlace} (hval:Value.okWide P w r b0 t v) (hd:DataW.Trod enc P w 0 sp held t v d ps) :
 ∃ l:List Chg,zY5 w.heap.size w v l/\(∀ x∈l,x.name.length<=9223372036854775807/\x.value.length<=9223372036854775807)/\((d=.nil/\l=[])∨∃ es sp,d=.slice es sp/\es.length=l.length):=by
 obtain ⟨a0,len0,cap0,rfl⟩:=okWide_slice ht hval
 obtain ⟨fuel,hf⟩:=hd
 rcases Deep.open_slice ht hf with ⟨h1,hd0⟩ | ⟨a,len,cap,m,n,D,Pl,h1,_,hl,hm,hmm,hd0,hx⟩
 ·simp [Value.cells] at h1
  obtain ⟨rfl,rfl,rfl⟩:=h1
  exact ⟨[],qQa.nil,by simp,.inl ⟨by simpa using (congrArg Prod.fst hd0),rfl⟩⟩
 ·simp [Value.cells] at h1
  obtain ⟨rfl,rfl,rfl⟩:=h1
  have hs:a.spot=none:=by
   simp only [Value.okWide,ht,Cell.okWide,Cell.ok] at hval
   exact hval.2.2.2.1
  obtain ⟨b,off,s⟩:=a
  simp only at hs
  subst hs
  have hlm:len0<=m:=by rw [hmm];split <;> omega
  have each:∀ i,i<len0->∃ x:Chg,(∃ cs,cs.length=6/\Cells w b (off+i*6) cs/\rdChg w cs x)/\x.name.length<=9223372036854775807/\x.value.length<=9223372036854775807:=by
   intro i hi
   obtain ⟨cs,h1,h2⟩:=hx i (by omega)
   rw [ce] at h1
   obtain ⟨_,hlen,hcell⟩:=World.cells?_some h1
   obtain ⟨x,q1,q2,q3,q4⟩:=open_chg he ce hsz hfs h2
   refine ⟨x,⟨cs,q2,fun j u hu=>?_,q1⟩,q3,q4⟩
   have hj:j<6:=by
    rcases Nat.lt_or_ge j cs.length with h | h
    ·omega
    ·rw [List.getElem?_eq_none h] at hu;simp at hu
   have:=hcell j hj
   rw [Deep.add_add,Go.WideShapes.add_plain] at this
   rw [show off+i*6+j=off+(i*6+j) by omega,this,hu]
  obtain ⟨X,hX⟩:=Deep.choose_lt each
  refine ⟨(List.range len0).map X,.inr ⟨b,off,cap0,by simp,by simpa using hl,zBj▸hm,fun i hi=>?_⟩,?_,.inr ⟨_,_,congrArg Prod.fst hd0,by simp⟩⟩
  ·have hi':i<len0:=by simpa using hi
   obtain ⟨⟨cs,q1,q2,q3⟩,_⟩:=hX i hi'
   refine ⟨?_,cs,q1,q2,by simpa using q3⟩
   exact Cells.lt q2 (by intro h;rw [h] at q1;simp at q1)
  ·intro x hx
   obtain ⟨i,hi,rfl⟩:=List.mem_map.1 hx
   exact (hX i (by simpa using hi)).2
theorem law_chgs {H:Type} {enc:TypeId×Value->H} {w:World} {sp:Nat->Bool} {held:Bool} {r:Go.Reach} {b0:Nat} {v:Value} {d:DataW H} {ps:List MemPlace} (hval:Value.okWide Tryz.prog w r b0 22 v) (hd:DataW.Trod enc Tryz.prog w 0 sp held 22 v d ps) :
 ∃ l:List Chg,zY5 w.heap.size w v l/\(∀ x∈l,x.name.length<=9223372036854775807/\x.value.length<=9223372036854775807)/\((d=.nil/\l=[])∨∃ es sp,d=.slice es sp/\es.length=l.length):=by
 refine zB2 Tryz.underlying22 Tryz.underlying40 (by kernel_rfl) rfl ?_ hval hd
 intro i f h
 match i with
 | 0=>simp at h;subst h;exact ⟨rfl,by kernel_rfl,Tryz.underlying3⟩
 | 1=>simp at h;subst h;exact ⟨rfl,by kernel_rfl,Tryz.underlying3⟩
 | 2=>simp at h;subst h;exact ⟨rfl,by kernel_rfl,Tryz.underlying3⟩
 | 3=>simp at h;subst h;exact ⟨rfl,by kernel_rfl,Tryz.underlying3⟩
 | 4=>simp at h;subst h;exact ⟨rfl,by kernel_rfl,Tryz.underlying9⟩
 | 5=>simp at h;subst h;exact ⟨rfl,by kernel_rfl,Tryz.underlying9⟩
 | i+6=>simp at h
end Go.Proofs.YtklbmkaomojciaaGreat
set_option maxRecDepth 100000
namespace Go.Proofs.YtklbmkaomojciaaGreat
open Go.RowKit Go.WideShapes Go.ChangeShapes
def zVa:World->List Value->Bool->Prop:=fun _ cs b=>cs=[.bool b]
theorem zV7:qBk zVa:=fun _ _ _ _ h=>h
abbrev zG4 (n:Nat) (w:World) (v:Value) (l:List Bool):Prop:=qQa 1 zVa (·<n) w v l
theorem zB7 {H:Type} {enc:TypeId×Value->H} {w:World} {sp:Nat->Bool} {held:Bool} {r:Go.Reach} {b0:Nat} {v:Value} {d:DataW H} {ps:List MemPlace} (hval:Value.okWide Tryz.prog w r b0 67 v) (hd:DataW.Trod enc Tryz.prog w 0 sp held 67 v d ps) :
 ∃ l:List Bool,zG4 w.heap.size w v l:=by
 have ht:=Tryz.underlying67
 obtain ⟨a0,len0,cap0,rfl⟩:=okWide_slice ht hval
 obtain ⟨fuel,hf⟩:=hd
 have ce:Tryz.prog.cellsOf 4=1:=by kernel_rfl
 rcases Deep.open_slice ht hf with ⟨h1,hd0⟩ | ⟨a,len,cap,m,n,D,Pl,h1,_,hl,hm,hmm,hd0,hx⟩
 ·simp [Value.cells] at h1
  obtain ⟨rfl,rfl,rfl⟩:=h1
  exact ⟨[],qQa.nil⟩
 ·simp [Value.cells] at h1
  obtain ⟨rfl,rfl,rfl⟩:=h1
  have hs:a.spot=none:=by
   simp only [Value.okWide,ht,Cell.okWide,Cell.ok] at hval
   exact hval.2.2.2.1
  obtain ⟨b,off,s⟩:=a
  simp only at hs
  subst hs
  have hlm:len0<=m:=by rw [hmm];split <;> omega
  have each:∀ i,i<len0->∃ x:Bool,∃ cs,cs.length=1/\Cells w b (off+i*1) cs/\zVa w cs x:=by
   intro i hi
   obtain ⟨cs,h1,h2⟩:=hx i (by omega)
   rw [ce] at h1
   obtain ⟨_,hlen,hcell⟩:=World.cells?_some h1
   obtain ⟨x,q1,_⟩:=DataW.trod_bool Tryz.underlying4 h2
   refine ⟨x,cs,by rw [q1];rfl,fun j u hu=>?_,q1⟩
   have hj:j<1:=by
    rcases Nat.lt_or_ge j cs.length with h | h
    ·rw [q1] at h;simpa using h
    ·rw [List.getElem?_eq_none h] at hu;simp at hu
   have:=hcell j hj
   rw [Deep.add_add,Go.WideShapes.add_plain] at this
   rw [show off+i*1+j=off+(i*1+j) by omega,this,hu]
  obtain ⟨X,hX⟩:=Deep.choose_lt each
  refine ⟨(List.range len0).map X,.inr ⟨b,off,cap0,by simp,by simpa using hl,zBj▸hm,fun i hi=>?_⟩⟩
  have hi':i<len0:=by simpa using hi
  obtain ⟨cs,q1,q2,q3⟩:=hX i hi'
  refine ⟨?_,cs,q1,q2,by simpa using q3⟩
  exact Cells.lt q2 (by intro h;rw [h] at q1;simp at q1)
end Go.Proofs.YtklbmkaomojciaaGreat

/- The walks of the document's chapter 1: Blank, Lower, Tokens, Join, Squeeze, Num, Name. -/
import Derived.Test.YtklbmkaomojciaaGreatWords
set_option maxRecDepth 100000
set_option maxHeartbeats 2000000
namespace Go.Proofs.YtklbmkaomojciaaGreat
open Go.RowKit
theorem qQx (s:List UInt8) (w:World) (hs:s.length<=9223372036854775807) :
 Calls Tryz.prog 115 #[.string ⟨s.toArray⟩] w (Rv (.bool (name s)) w):=by
 go_enter Tryz.func115,Tryz.ntmps115
 go_wp2
 go_loop [8] (fun i=>∃ k:Nat,k<=s.length/\i=.int .i64 k/\qKc 0 s=qKc k (s.drop k)) (fun i=>s.length - (intOf i).toNat)
 case atStart=>exact ⟨0,by omega,rfl,rfl⟩
 case round=>
  obtain ⟨k,hk,rfl,hn⟩:=hrel
  have HN:=lH hn
  clear hn
  by_cases hlt:k<s.length
  ·have D:=lH (qVk hlt)
   have F:=lH (qBb hlt HN.o)
   have CE:=lH (chk_eq k s[k])
   obtain ⟨c,hc⟩:∃ c,c=s[k]:=⟨_,rfl⟩
   have hbk:=byte_at hc
   rw [<- hc] at D F CE
   clear hc
   have hcs:=qDx c
   have hc8:c.toNat<256:=c.toNat_lt
   have h0:((k:Int)==0)=true/\k=0∨((k:Int)==0)=false/\0<k:=by
    by_cases e:k=0
    ·exact .inl ⟨by simp [e],e⟩
    ·exact .inr ⟨by simp;omega,by omega⟩
   have good:chk k c=true->Hi (qKc 0 s=qKc (k+1) (s.drop (k+1))):=fun h=>lH (by rw [HN.o,D.o,h];rfl)
   have GOOD:=lH good
   clear good
   rcases h0 with ⟨h0,h0'⟩ | ⟨h0,h0'⟩
   all_goals
    have HK:=lH h0'
    clear h0'
    rcases hcs with h | h | ⟨h,h'⟩ | ⟨h,h'⟩ | ⟨h,h'⟩ | ⟨h,h'⟩ | h
    all_goals
     first
     | have hd:((c.toNat:Int) != 45)=true:=by rw [bne_iff_ne];omega
     | have hd:((c.toNat:Int) != 45)=false:=by rw [bne_eq_false_iff_eq];omega
     try have hq:decide ((c.toNat:Int)<=122)=false:=by rw [decide_eq_false_iff_not];omega
     first
     | have G:=lH (GOOD.o (by rw [CE.o];have:=HK.o;simp only [Bool.or_eq_true,Bool.and_eq_true,decide_eq_true_eq];omega))
       clear GOOD F
       go_wp2
       all_goals go_round
       all_goals first | exact ⟨k+1,by omega,by go_num,G.o.out⟩ | (simp [intOf];omega)
     | have G:=lH (F.o (by rw [CE.o];have:=HK.o;simp only [Bool.or_eq_false_iff,Bool.and_eq_false_iff,decide_eq_false_iff_not];omega))
       clear GOOD F
       go_wp2
       all_goals
        go_ret
        exact ⟨qJx G.o.symm,rfl⟩
  ·have NE:Hi (name s=(decide (1<=s.length)&&decide (s.length<=20))):=lH (by unfold name;rw [HN.o,List.drop_eq_nil_of_le (by omega)];simp [qKc])
   have hl:s.length<1∨(1<=s.length/\s.length<=20)∨20<s.length:=by omega
   rcases hl with h | ⟨h,h'⟩ | h
   ·go_wp2
    go_ret
    exact ⟨qJx (by rw [NE.o,decide_eq_false (by omega)];rfl),rfl⟩
   ·go_wp2
    go_ret
    exact ⟨qJx (by show decide ((s.length:Int)<=20)=_;rw [NE.o,decide_eq_true h,decide_eq_true h',decide_eq_true (by omega:(s.length:Int)<=20)];rfl),rfl⟩
   ·go_wp2
    go_ret
    exact ⟨qJx (by show decide ((s.length:Int)<=20)=_;rw [NE.o,decide_eq_false (by omega:¬ s.length<=20),decide_eq_false (by omega:¬ (s.length:Int)<=20)];simp),rfl⟩
end Go.Proofs.YtklbmkaomojciaaGreat

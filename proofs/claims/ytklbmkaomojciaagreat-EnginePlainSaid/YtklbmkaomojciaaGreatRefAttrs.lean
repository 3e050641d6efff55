/- Attributes with one that is another one: the document's answer, walked. -/
import Derived.Test.YtklbmkaomojciaaGreatRefWith
import Derived.Test.YtklbmkaomojciaaGreatBlk
set_option maxRecDepth 100000
set_option maxHeartbeats 2000000
namespace Go.Proofs.YtklbmkaomojciaaGreat
open Go.RowKit
theorem qJs:SlT Tryz.prog 63 106 2 32:=by
 refine ⟨by kernel_rfl,?_⟩
 obtain ⟨i,h1,h2,h3,h4⟩:=info_parts (by kernel_rfl:(Tryz.prog.info? 106).map (fun i=>(i.zero,i.size,i.bytes))=some (some (.agg #[.string ⟨#[]⟩,.string ⟨#[]⟩]),2,32))
 exact ⟨i,_,h1,h2,h3,h4,rfl⟩
theorem qKy:∀ (w:World) (cs:List Value) (y:Att),qX4 w cs y->∀ u∈cs,u.oneCell'=true:=by
 intro w cs y h u hu;cases h;simp at hu;rcases hu with rfl | rfl <;> rfl
theorem qH4 (n v:Txt):∀ (l p:List Att) (b:Bool),(l.foldl (attStep n v) (p,b)).1.length<=p.length+2*l.length:=by
 intro l
 induction l with
 | nil=>intro p b;simp
 | cons a l ih=>
   intro p b
   simp only [List.foldl_cons,attStep]
   split
   ·exact Za (ih _ _) (by simp;omega)
   ·split
    ·exact Za (ih _ _) (by simp;omega)
    ·exact Za (ih _ _) (by simp;omega)
theorem qZ5 {w w':World} {g:Nat} {C:List Value} {e:TypeId} {row:Option Nat} (h:Blk w g C e) (hg:w.grownBy w' row) (hr:row≠some g):Blk w' g C e:=
 h.of (hg.block g h.lt (fun e=>hr e.symm))
theorem tup_le {u:Value} {a:Nat} {b:Int} (h:(a:Int)=b):Value.tuple #[u,.bool (decide (b<=8))]=.tuple #[u,.bool (decide (a<=8))]:=by
 have:decide (b<=8)=decide (a<=8):=by congr 1;exact propext ⟨fun g=>by omega,fun g=>by omega⟩
 rw [this]
theorem qKs (m:Nat) (v:Value) (l:List Att) (n x:Txt) (w:World) (hv:qZy m w v l) (hm:m<=w.heap.size) (hl:l.length<=1000) :
 Calls Tryz.prog 116 #[v,.string ⟨n.toArray⟩,.string ⟨x.toArray⟩] w (Rn w fun w' y=>∃ u,y=.tuple #[u,.bool (decide ((qJj l n x).length<=8))]/\qQg 2 qX4 w.heap.size 106 w' u (qJj l n x)):=by
 obtain ⟨a1,cap1,rfl,h1,h2⟩:=Rf hv
 have HV:=lH hv
 clear hv
 go_enter Tryz.func116,Tryz.ntmps116
 go_wp2
 go_loopw [14,8,9] (fun i o b wr=>∃ (j:Nat) (out:List Att) (done:Bool),j<=l.length/\i=.int .i64 j/\b=.bool done/\(l.take j).foldl (attStep n x) ([],false)=(out,done)/\qQg 2 qX4 w.heap.size 106 wr o out/\Bel w wr) (fun i _ _ _=>l.length - (intOf i).toNat)
 case atStart=>exact ⟨0,[],false,by omega,rfl,rfl,rfl,qQg.nil _ _ _,Below.refl _ _⟩
 case round=>
  obtain ⟨j,out,done,hj,rfl,rfl,hP,hO,hB⟩:=hrel
  have HP:=lH hP
  have HO:=lH hO
  have HB:=lH hB
  have hR:=qQb.later HV.o qQh hB hm
  obtain ⟨oa,ocap,rfl,o1,o2⟩:=Rf hO.read
  have hol:out.length<=2*l.length:=by
   have:=qH4 n x (l.take j) [] false
   rw [hP,List.length_take] at this
   simp at this;omega
  have S0:=hB.size
  have hob:=hO.lt
  clear hP hO hB
  by_cases hlt:j<l.length
  ·obtain ⟨_,_,_,_,e1,_,_,_,_⟩:=qQb.elem hR j hlt
   simp at e1
   obtain ⟨rfl,rfl⟩:=e1
   obtain ⟨c0,c1⟩:=qVe hR j hlt
   have hst:Hi ((l.take (j+1)).foldl (attStep n x) ([],false)=attStep n x (out,done) l[j]):=lH (by
    rw [Zk hlt,List.foldl_append,HP.o];rfl)
   clear hR
   generalize l[j]=e at *
   obtain ⟨en,ev⟩:=e
   simp only at c0 c1
   by_cases hx:en=n
   ·have hb:(en==n)=true:=by simpa using hx
    have hb2:(!Op.bytesLess en n&&!(en==n))=false:=by simp [hb]
    have hs2:Hi ((l.take (j+1)).foldl (attStep n x) ([],false)=(out++[⟨en,x⟩],true)):=lH (by rw [hst.o];simp only [attStep];rw [if_pos hx])
    clear hst hx
    go_wp2_with (at_builtin;go_must (refine qZa rfl _ _ _ rfl qJs (by decide) qQh qKy rfl (HO.o.alloc qQh _) rfl ?hg (⟨en,x⟩:Att) ⟨rfl,rfl⟩ ?hb1 ?hb2 ?hb3 ?_);(case hg=>simp);(case hb1=>omega);(case hb2=>omega);(case hb3=>simp;omega);intro v1 w1 o1 g1;have HO1:=lH o1;have HB1:=lH (Below.own (HB.o.alloc _) (Zb _) (HO.o.alloc qQh _) g1);clear o1 g1)
    go_roundw
    case rel=>exact ⟨j+1,out++[⟨en,x⟩],true,by omega,by go_num,rfl,hs2.o,HO1.o,HB1.o⟩
    case measure=>simp [intOf];omega
   ·have hb:(en==n)=false:=by simpa using hx
    cases hle:Op.bytesLess en n with
    | true=>
      have hs2:Hi ((l.take (j+1)).foldl (attStep n x) ([],false)=(out++[⟨en,ev⟩],done)):=lH (by rw [hst.o];simp only [attStep];rw [if_neg hx,if_neg (by simp [hle])])
      clear hst hx
      go_wp2_with (at_builtin;go_must (refine qZa rfl _ _ _ rfl qJs (by decide) qQh qKy rfl (HO.o.alloc qQh _) rfl ?hg (⟨en,ev⟩:Att) ⟨rfl,rfl⟩ ?hb1 ?hb2 ?hb3 ?_);(case hg=>simp);(case hb1=>omega);(case hb2=>omega);(case hb3=>simp;omega);intro v1 w1 o1 g1;have HO1:=lH o1;have HB1:=lH (Below.own (HB.o.alloc _) (Zb _) (HO.o.alloc qQh _) g1);clear o1 g1)
      go_roundw
      case rel=>exact ⟨j+1,out++[⟨en,ev⟩],done,by omega,by go_num,rfl,hs2.o,HO1.o,HB1.o⟩
      case measure=>simp [intOf];omega
    | false=>
      cases done with
      | true=>
        have hs2:Hi ((l.take (j+1)).foldl (attStep n x) ([],false)=(out++[⟨en,ev⟩],true)):=lH (by rw [hst.o];simp only [attStep];rw [if_neg hx,if_neg (by simp)])
        clear hst hx
        go_wp2_with (at_builtin;go_must (refine qZa rfl _ _ _ rfl qJs (by decide) qQh qKy rfl (HO.o.alloc qQh _) rfl ?hg (⟨en,ev⟩:Att) ⟨rfl,rfl⟩ ?hb1 ?hb2 ?hb3 ?_);(case hg=>simp);(case hb1=>omega);(case hb2=>omega);(case hb3=>simp;omega);intro v1 w1 o1 g1;have HO1:=lH o1;have HB1:=lH (Below.own (HB.o.alloc _) (Zb _) (HO.o.alloc qQh _) g1);clear o1 g1)
        go_roundw
        case rel=>exact ⟨j+1,out++[⟨en,ev⟩],true,by omega,by go_num,rfl,hs2.o,HO1.o,HB1.o⟩
        case measure=>simp [intOf];omega
      | false=>
        have hs2:Hi ((l.take (j+1)).foldl (attStep n x) ([],false)=(out++[⟨n,x⟩,⟨en,ev⟩],true)):=lH (by rw [hst.o];simp only [attStep];rw [if_neg hx,if_pos (by simp [hle])])
        clear hst hx
        have hbk:=Blk.new' wr wr.heap.size rfl #[.string ⟨en.toArray⟩,.string ⟨ev.toArray⟩] 106
        have HBK:=lH hbk
        clear hbk
        go_wp2_with (first
 | (at_builtin;(refine qZa rfl _ _ _ rfl qJs (by decide) qQh qKy rfl (HO.o.alloc qQh _) rfl ?hg (⟨n,x⟩:Att) ⟨rfl,rfl⟩ ?hb1 ?hb2 ?hb3 ?_);(case hg=>simp);(case hb1=>omega);(case hb2=>omega);(case hb3=>simp;omega);intro v1 w1 o1 g1;have k1:=qZ5 HBK.o g1 (fun e=>by have:=hob _ e;omega);have n0:=k1.cell 0;have n1:=k1.cell 1;simp at n0 n1;have S1:=g1.size;simp at S1;obtain ⟨oa1,oc1,rfl,_,_⟩:=Rf o1.read;simp only [Zj,Zm,List.length_nil] at o1;have HO1:=lH o1;have HB1:=lH (Below.own (HB.o.alloc _) (Zb _) (HO.o.alloc qQh _) g1);clear o1 g1 k1)
 | (at_builtin;go_must (refine qZa rfl _ _ _ rfl qJs (by decide) qQh qKy rfl HO1.o rfl ?hg (⟨en,ev⟩:Att) ⟨rfl,rfl⟩ ?hb1 ?hb2 ?hb3 ?_);(case hg=>simp);(case hb1=>simp;omega);(case hb2=>simp;omega);(case hb3=>omega);intro v2 w2 o2 g2;have HO2:=lH o2;have HB2:=lH (Below.own HB1.o (Zb _) HO1.o g2);clear o2 g2))
        go_roundw
        case rel=>exact ⟨j+1,out++[⟨n,x⟩,⟨en,ev⟩],true,by omega,by go_num,rfl,hs2.o,by simpa using HO2.o,HB2.o⟩
        case measure=>simp [intOf];omega
  ·have HR:Hi (qDt l n x=(out,done)):=lH (by unfold qDt;rw [<- HP.o,Zn (by omega)])
   clear hR
   cases done with
   | true=>
     have hr:Hi (qJj l n x=out):=lH (by unfold qJj;rw [HR.o];rfl)
     go_wp2
     go_ret2
     exact ⟨HB.o,_,rfl,_,tup_le (by rw [hr.o]),by rw [hr.o];exact HO.o⟩
   | false=>
     have hr:Hi (qJj l n x=out++[⟨n,x⟩]):=lH (by unfold qJj;rw [HR.o];rfl)
     go_wp2_with (at_builtin;go_must (refine qZa rfl _ _ _ rfl qJs (by decide) qQh qKy rfl HO.o rfl ?hg (⟨n,x⟩:Att) ⟨rfl,rfl⟩ ?hb1 ?hb2 ?hb3 ?_);(case hg=>simp);(case hb1=>omega);(case hb2=>omega);(case hb3=>omega);intro v1 w1 o1 g1;obtain ⟨oa1,oc1,rfl,_,_⟩:=Rf o1.read;simp only [Zj,Zm,List.length_nil] at o1;have HO1:=lH o1;have HB1:=lH (Below.own HB.o (Zb _) HO.o g1);clear o1 g1)
     go_ret2
     exact ⟨HB1.o,_,rfl,_,tup_le (by rw [hr.o];simp),by rw [hr.o];exact HO1.o⟩
end Go.Proofs.YtklbmkaomojciaaGreat

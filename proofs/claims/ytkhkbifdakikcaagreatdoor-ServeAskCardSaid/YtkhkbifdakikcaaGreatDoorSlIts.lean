/- slices.Insert and slices.Delete of one item, in rows of the call's own. (Printed by wip/tools/itrow.py.) -/
import Derived.Test.YtkhkbifdakikcaaGreatDoorOwnRow
import Derived.Test.YtkhkbifdakikcaaGreatDoorItems
set_option maxRecDepth 100000
set_option maxHeartbeats 4000000
namespace Go.Proofs.YtkhkbifdakikcaaGreatDoor
open Go.RowKit Go.Lib
variable {V W:World}
structure Ic where
 h:Hd
 a:Option Addr
 n:Nat
 c:Nat
def rdIc:World->List Value->Ic->Prop:=fun _ cs y=>cs=qQi y.h (.slice y.a y.n y.c)
theorem one_ic:∀ (w:World) (cs:List Value) (y:Ic),rdIc w cs y->∀ u∈cs,u.oneCell'=true:=by
 intro w cs y h u H;cases h;simp [qQi] at H;rcases H with rfl | rfl | rfl | rfl | rfl | rfl | rfl | rfl <;> rfl
theorem drew_h {h:Array Obj} (e:W.heap=h):W.drew.heap=h:=e
theorem drew_o (e:W.os=V.os):W.drew.os=V.os:=e
theorem drew_t (e:W.tape=V.tape):W.drew.tape=V.tape:=e
theorem drew_p (e:W.output=V.output):W.drew.output=V.output:=e
theorem zB1 (a b c d e f g h:Value):(Builtin.zeroCells #[a,b,c,d,e,f,g,h] 1).toList=[a,b,c,d,e,f,g,h]:=by
 simp [Builtin.zeroCells];rfl
def encIts (y:Ic):List Value:=qQi y.h (.slice y.a y.n y.c)
theorem qQo (y:Ic):(encIts y).length=8:=rfl
theorem qYt (l:List Ic):∀ v∈l.flatMap encIts,v.oneCell'=true:=by
 intro v hv;obtain ⟨y,_,hv⟩:=List.mem_flatMap.1 hv;simp [encIts,qQi] at hv;rcases hv with rfl | rfl | rfl | rfl | rfl | rfl | rfl | rfl <;> rfl
theorem qGs (base:Nat) (v:Value) (l:List Ic) (i q:Nat) (y:Ic) (w:World) (I:qQb 8 rdIc base 82 w v l) (hb:base<=w.heap.size) (hi:i<=l.length) (hl:l.length<=1000000000) (n:Blk w q (encIts y) 82) (bm:v.ownBlock≠some q) :
 Calls Tryz.prog 144 #[v,.int .i64 i,.slice (some ⟨q,0,none⟩) 1 1] w fun e w'=>∃ v',e=.returned v'/\qQb 8 rdIc base 82 w' v' (l.take i++[y]++l.drop i)/\w.grownBy w' v.ownBlock/\qZc w v v':=by
 by_cases bi:i=l.length
 ·subst bi;have b3:qQa 8 rdIc (fun _=>True) w (.slice (some ⟨q,0,none⟩) 1 1) [y]:=rowE qQo n;have HR:=lH b3;have HO:=lH I;obtain ⟨am,an,rfl,a1,a2⟩:=Rf I.read;rw [List.take_length,List.drop_length,List.append_nil];clear b3 I n;by_cases hc:an=l.length
  ·subst hc;go_enter Tryz.func144,Tryz.ntmps144
   go_wp2_with (at_builtin;go_must (refine qZe rfl _ _ _ rfl qB4 (by decide) (v:=.slice am l.length l.length) rfl HO.o rfl HR.o (fun M y _ h=>one_ic _ M y h) ?hby ?hmx hb (fun _ _ _ _ _ h=>h) ?_);(case hby=>simp only [Zm,List.length_nil];omega);(case hmx=>simp only [Zm,List.length_nil];omega);intro v3 w3 o O _ N;have ab:=lH o;have aa:=lH O;have a8:=lH N;clear o O N)
   go_ret;exact ⟨_,rfl,ab.o,aa.o,a8.o⟩
  ·go_enter Tryz.func144,Tryz.ntmps144
   go_wp2_with (at_builtin;go_must (refine qZe rfl _ _ _ rfl qB4 (by decide) (v:=.slice am l.length an) rfl HO.o rfl HR.o (fun M y _ h=>one_ic _ M y h) ?hby ?hmx hb (fun _ _ _ _ _ h=>h) ?_);(case hby=>simp only [Zm,List.length_nil];omega);(case hmx=>simp only [Zm,List.length_nil];omega);intro v3 w3 o O _ N;have ab:=lH o;have aa:=lH O;have a8:=lH N;clear o O N)
   go_ret;exact ⟨_,rfl,ab.o,aa.o,a8.o⟩
 ·have ay:i<l.length:=by omega
  rcases blkE qQo (show qQb 8 (fun _ M bs=>M=encIts bs) base 82 w v l from I) with ⟨_,rfl⟩ | ⟨g,z,C,rfl,bc,K,ap,bz,be,ht⟩
  ·simp at ay
  ·have aw:q≠g:=fun e=>bm (by rw [e];rfl);have bh:=K.lt;have b1:=n.lt;obtain ⟨i0,a4,al,a7,a6⟩:=info_parts (by kernel_rfl:(Tryz.prog.info? 82).map (fun i=>(i.zero,i.size,i.bytes))=some (some (Value.agg #[.int .i64 0,.int .i64 0,.string ⟨#[]⟩,.string ⟨#[]⟩,.int .i64 0,.int .i64 0,.bool false,.slice none 0 0]),8,96));have J:(Tryz.prog.info? 82).map (·.size)=some 8:=(by rw [a4];simp [a7]);have c2:((i:Int)==(l.length:Int))=false:=(by simp;omega);have a0:∀ j (h:j<(l.flatMap encIts).length),C[j]?=some (l.flatMap encIts)[j]:=fun j h=>by
    have A:=congrArg (fun br=>br[j]?) ht;have h3:j<l.length*8:=(by rw [qQu qQo] at h;exact h);simp only [List.getElem?_take,h3,if_true] at A;rw [A,Zi h]
   have aj:(l.flatMap encIts).length=l.length*8:=qQu qQo l;have a5:l.flatMap encIts=(l.take i).flatMap encIts++(l.drop i).flatMap encIts:=(by rw [<- List.flatMap_append,List.take_append_drop]);have x:((l.take i).flatMap encIts).length=i*8:=(by rw [qQu qQo,List.length_take,Nat.min_eq_left hi]);have D:((l.drop i).flatMap encIts).length=(l.length - i)*8:=(by rw [qQu qQo,List.length_drop]);have a3:∀ j u,((l.drop i).flatMap encIts)[j]?=some u->C[i*8+j]?=some u:=fun j u b=>by
    have c:j<((l.drop i).flatMap encIts).length:=(List.getElem?_eq_some_iff.1 b).1;rw [a0 (i*8+j) (by rw [aj];omega)];rw [<- b,<- Zi (by rw [aj];omega),a5,List.getElem?_append_right (by omega),x];congr 1;omega
   by_cases b2:l.length+1<=z
   ·
    obtain ⟨f,C2,e1,e2,e3,e4,e5⟩:=qBl qQo y ay ht (by rw [ap];exact Nat.mul_le_mul_right _ b2);have bl:∀ lb cb,(callFunc 153 #[.slice (some ⟨q,0,none⟩) 1 1,.slice (some ⟨g,(i+1)*8,none⟩) lb cb]).run Tryz.prog w=.ok (.value (.bool false)) w:=fun lb cb=>by
     rw [run_callFunc_extern Tryz.func153 (by kernel_rfl) (by kernel_rfl) (by kernel_rfl) (e:=Extern.SlicesOverlaps.overlaps #[26,26] #[4]) (by kernel_rfl),
      Lib.run_overlaps_apart w 26 4 82 Tryz.underlying26 8 (fun w=>by simp) ⟨q,0,none⟩ ⟨g,(i+1)*8,none⟩ 1 1 lb cb aw 82 82 8 C.length (by unfold Blk at n;simp [World.shape?,n,encIts,qQi]) (by unfold Blk at K;simp [World.shape?,K]) (by omega) (n.frozen 0) (n.frozen _)]
     rfl
    have ar:∀ t d s,(Builtin.copy_ #[26,26] t #[.slice (some ⟨g,(i+1)*8,none⟩) (l.length - i) d,.slice (some ⟨g,i*8,none⟩) (l.length+1 - i) s]).run Tryz.prog w.drew=.ok (goInt (Nat.min (l.length+1 - i) (l.length - i))) (w.drew.setCells g ((i+1)*8) ((l.drop i).flatMap encIts)):=fun t d s=>by
     have F:=qZd w.drew 26 26 t 82 8 g ((i+1)*8) (l.length - i) d ⟨g,i*8,none⟩ (l.length+1 - i) s _ Tryz.underlying26 J (by rw [D];simp only [Nat.min_def];split <;> omega)
      (fun j u b=>by rw [Addr.add_lit,K.drew.cell];exact a3 j u b)
      (fun j c=>by rw [K.drew.cell,Zi (by omega)];rfl) (fun j c=>K.drew.frozen _) (qYt _)
     exact F
    obtain ⟨a,r⟩:∃ a,a=w.drew.setCells g ((i+1)*8) ((l.drop i).flatMap encIts):=⟨_,rfl⟩;have af:Blk a g f 82:=(by rw [r,e1];exact qZb g _ _ _ _ _ K.drew (by omega));have B:w.grownBy a (some g):=(by rw [r];exact qQl (qYs (World.grownBy.refl _ _)) (qQ1 _ _ _ _));have b0:Blk a q (encIts y) 82:=n.of (B.block q b1 (fun e=>aw (Option.some.inj e)));have bf:∀ (W:World),W.heap=a.heap->∀ t d,(Builtin.copy_ #[26,26] t #[.slice (some ⟨g,i*8,none⟩) (l.length+1 - i) d,.slice (some ⟨q,0,none⟩) 1 1]).run Tryz.prog W=.ok (goInt (Nat.min 1 (l.length+1 - i))) (W.setCells g (i*8) (encIts y)):=fun W H t d=>by
     have m:Blk W g f 82:=(by unfold Blk;rw [H];exact af);have ak:Blk W q (encIts y) 82:=(by unfold Blk;rw [H];exact b0);have F:=qZd W 26 26 t 82 8 g (i*8) (l.length+1 - i) d ⟨q,0,none⟩ 1 1 (encIts y) Tryz.underlying26 J (by rw [qQo];simp only [Nat.min_def];split <;> omega)
      (fun j u b=>by rw [Addr.add_lit,Nat.zero_add,ak.cell];exact b)
      (fun j c=>by rw [qQo] at c;rw [m.cell,Zi (by omega)];rfl) (fun j c=>m.frozen _) (fun u b=>qYt [y] u (by simpa using b))
     exact F
    have Q:∀ W:World,W.heap=a.heap->W.os=a.os->W.tape=a.tape->W.output=a.output->qQb 8 rdIc base 82 (W.setCells g (i*8) (encIts y)) (.slice (some ⟨g,0,none⟩) (l.length+1) z) (l.take i++[y]++l.drop i)/\w.grownBy (W.setCells g (i*8) (encIts y)) (some g):=fun W H o1 o2 o=>by
     have m:Blk W g f 82:=(by unfold Blk;rw [H];exact af);have b9:w.grownBy W (some g):=⟨o1.trans B.os,o2.trans B.tape,o.trans B.output,by rw [H];exact B.size,fun k E hr=>by rw [H];exact B.block k E hr⟩;have A:=qZb g 82 (encIts y) (i*8) W f m (by rw [qQo,e3];omega);rw [<- e2] at A;have S:(l.take i++[y]++l.drop i).length=l.length+1:=(by simp;omega);exact ⟨ownE qQo A bc S.symm (by rw [e4];exact ap) (by rw [S];exact b2) be e5,qQl b9 (qQ1 _ _ _ _)⟩
    have a9:=lH Q;have bn:¬ ((z:Int)<(l.length:Int)+1):=(by omega);have bj:IntKind.i64.wrap ((l.length:Int)+1)=(l.length:Int)+1:=(by rw [IntKind.wrap_i64];omega);have bk:IntKind.i64.wrap ((i:Int)+1)=(i:Int)+1:=(by rw [IntKind.wrap_i64];omega);have bx:decide ((l.length:Int)+1 > (z:Int))=false:=(by simpa using bn);have bb:¬ (z=i):=(by omega);have hb1:(0:Int)<=(i:Int)+1:=(by omega);have bp:((i:Int)+1).toNat=i+1:=(by omega);have hb3:(i:Int)<=(l.length:Int)+1:=(by omega);have bv:¬ (z=i+1):=(by omega);clear Q ht e1 e2 e3 e4 e5 a0 a5 x D a3 I n K af B b0 a4 al a7 a6 J;rw [<- r] at ar;clear r;generalize encIts y=Y8 at *
    go_enter Tryz.func144,Tryz.ntmps144
    go_wp2_with (simp only [bl])
    go_region_law (refine step_copy_runI rfl _ _ 26 26 rfl _ _ (by simp [Act.eval,Act.put]) (by simp [Act.eval,Act.put]) (ar _ _ _) ?_)
    go_wp2_with (at_builtin;refine wpList_copy_runI _ rfl _ _ 26 26 rfl _ _ rfl rfl (bf _ rfl _ _) ?_)
    go_ret;obtain ⟨f1,f2⟩:=a9.o _ rfl rfl rfl rfl;skip
    exact ⟨_,rfl,f1,f2,.inl rfl⟩
   ·
    obtain rfl:z=l.length:=(by omega);have c1:i*8<=l.length*8:=Nat.mul_le_mul_right 8 hi;have az:(Builtin.firstCells i0.size i (.slice (some ⟨g,0,none⟩) i l.length)).run Tryz.prog w.drew=.ok ((l.take i).flatMap encIts).toArray w.drew:=by
     rw [a7];exact run_firstCells_some w.drew 8 i ⟨g,0,none⟩ i l.length _ (by rw [x]) (fun j u b=>by
      have c:=(List.getElem?_eq_some_iff.1 b).1;have ax:j<(l.flatMap encIts).length:=(by rw [aj];rw [x] at c;omega);rw [Addr.add_lit,Nat.zero_add,K.drew.cell,a0 j ax,<- b,<- Zi ax,a5,List.getElem?_append_left c])
    obtain ⟨G,X⟩:∃ G,G=grownCap w (l.length+1) l.length 82:=⟨_,rfl⟩;have ba:l.length+1<=G:=(by rw [X];exact grownCap_ge w _ _ _);have b8:G<=9223372036854775807:=by
     have:=grownCap_le_maxLen w (l.length+1) l.length 82 (by unfold maxLen;omega);rw [<- X] at this;unfold maxLen at this;omega
    obtain ⟨R,Y⟩:∃ R:Array Value,R=((l.take i).flatMap encIts).toArray++Builtin.zeroCells ((Value.agg #[.int .i64 0,.int .i64 0,.string ⟨#[]⟩,.string ⟨#[]⟩,.int .i64 0,.int .i64 0,.bool false,.slice none 0 0])).cells (l.length+1 - i)++Builtin.zeroCells ((Value.agg #[.int .i64 0,.int .i64 0,.string ⟨#[]⟩,.string ⟨#[]⟩,.int .i64 0,.int .i64 0,.bool false,.slice none 0 0])).cells (G - (l.length+1)):=⟨_,rfl⟩;have bq:((Value.agg #[.int .i64 0,.int .i64 0,.string ⟨#[]⟩,.string ⟨#[]⟩,.int .i64 0,.int .i64 0,.bool false,.slice none 0 0])).cells.size=8:=rfl;have ai:R.toList.length=G*8:=by
     rw [Y,Array.length_toList,Array.size_append,Array.size_append,size_zeroCells,size_zeroCells,List.size_toArray,x,bq];omega
    have aq:R.toList.take (i*8)=(l.take i).flatMap encIts:=by
     rw [Y,Array.toList_append,Array.toList_append,List.append_assoc,List.take_left' x]
    have bo:∀ t,(Builtin.append_ #[26,3] t #[.slice (some ⟨g,0,none⟩) i l.length,.int .i64 ((l.length:Int)+1 - (i:Int))]).run Tryz.prog w=.ok (.slice (some ⟨w.heap.size,0,none⟩) (l.length+1) G) (w.drew.alloc (.cells R 82)):=fun t=>by
     have h:=Lib.run_append_grow_zeros w 26 3 t 82 i0 _ .i64 .i64 Tryz.underlying26 Tryz.underlying3 a4 al (some ⟨g,0,none⟩) i l.length _ az (l.length+1 - i) (by omega) (by omega) (by omega) (by omega) (by rw [a6];omega) (by rw [a6,show i+(l.length+1 - i)=l.length+1 by omega];exact growslice_fits (by omega) (by omega));rw [show i+(l.length+1 - i)=l.length+1 by omega,<- X,<- Y] at h;rw [show (l.length:Int)+1 - (i:Int)=((l.length+1 - i:Nat):Int) by omega];exact h
    obtain ⟨a,r⟩:∃ a,a=w.drew.alloc (.cells R 82):=⟨_,rfl⟩;have ag:Blk a w.heap.size R.toList 82:=(by rw [r];exact Blk.new' w.drew w.heap.size rfl R _);have ac:Bel w a:=(by rw [r];exact ((Br w).drew).alloc _);have b4:∀ k,k<w.heap.size->a.heap[k]?=w.heap[k]?:=fun k E=>ac.block k E;have au:∀ (W:World),W.heap=a.heap->∀ t d,(Builtin.copy_ #[26,26] t #[.slice (some ⟨w.heap.size,i*8,none⟩) (l.length+1 - i) d,.slice (some ⟨q,0,none⟩) 1 1]).run Tryz.prog W=.ok (goInt (Nat.min 1 (l.length+1 - i))) (W.setCells w.heap.size (i*8) (encIts y)):=fun W H t d=>by
     have m:Blk W w.heap.size R.toList 82:=(by unfold Blk;rw [H];exact ag);have ak:Blk W q (encIts y) 82:=n.of (by rw [H];exact b4 q b1);have F:=qZd W 26 26 t 82 8 w.heap.size (i*8) (l.length+1 - i) d ⟨q,0,none⟩ 1 1 (encIts y) Tryz.underlying26 J (by rw [qQo];simp only [Nat.min_def];split <;> omega)
      (fun j u b=>by rw [Addr.add_lit,Nat.zero_add,ak.cell];exact b)
      (fun j c=>by rw [qQo] at c;rw [m.cell,Zi (by omega)];rfl) (fun j c=>m.frozen _) (fun u b=>qYt [y] u (by simpa using b))
     exact F
    obtain ⟨f,U⟩:∃ f,f=R.toList.take (i*8)++encIts y++R.toList.drop (i*8+(encIts y).length):=⟨_,rfl⟩;obtain ⟨p,Z⟩:∃ p,p=a.setCells w.heap.size (i*8) (encIts y):=⟨_,rfl⟩;have ah:Blk p w.heap.size f 82:=(by rw [Z,U];exact qZb w.heap.size 82 _ _ _ _ ag (by rw [qQo,ai];omega));have T:Bel w p:=(by rw [Z];exact qZ1 (Zb _) _ _ _ ac);have ad:f.length=G*8:=(by rw [U,Zj,Zj,List.length_take,List.length_drop,qQo,ai];omega);have ao:f.take ((i+1)*8)=(l.take i).flatMap encIts++encIts y:=by
     rw [U,aq,List.take_left'];rw [Zj,x,qQo];omega
    have av:∀ (W:World),W.heap=p.heap->∀ t d s,(Builtin.copy_ #[26,26] t #[.slice (some ⟨w.heap.size,(i+1)*8,none⟩) (l.length - i) d,.slice (some ⟨g,i*8,none⟩) (l.length - i) s]).run Tryz.prog W=.ok (goInt (Nat.min (l.length - i) (l.length - i))) (W.setCells w.heap.size ((i+1)*8) ((l.drop i).flatMap encIts)):=fun W H t d s=>by
     have m:Blk W w.heap.size f 82:=(by unfold Blk;rw [H];exact ah);have bg:Blk W g C 82:=K.of (by rw [H];exact T.block g bh);have F:=qZd W 26 26 t 82 8 w.heap.size ((i+1)*8) (l.length - i) d ⟨g,i*8,none⟩ (l.length - i) s ((l.drop i).flatMap encIts) Tryz.underlying26 J (by rw [D];simp only [Nat.min_def];split <;> omega)
      (fun j u b=>by rw [Addr.add_lit,bg.cell];exact a3 j u b)
      (fun j c=>by rw [D] at c;rw [m.cell,Zi (by omega)];rfl) (fun j c=>m.frozen _) (qYt _)
     exact F
    have Q:∀ W:World,W.heap=p.heap->W.os=w.os->W.tape=w.tape->W.output=w.output->qQb 8 rdIc base 82 (W.setCells w.heap.size ((i+1)*8) ((l.drop i).flatMap encIts)) (.slice (some ⟨w.heap.size,0,none⟩) (l.length+1) G) (l.take i++[y]++l.drop i)/\w.grownBy (W.setCells w.heap.size ((i+1)*8) ((l.drop i).flatMap encIts)) (some g):=fun W H o1 o2 o=>by
     have m:Blk W w.heap.size f 82:=(by unfold Blk;rw [H];exact ah);have A:=qZb w.heap.size 82 ((l.drop i).flatMap encIts) ((i+1)*8) W f m (by rw [D,ad];omega);have S:(l.take i++[y]++l.drop i).length=l.length+1:=(by simp;omega);have b7:Bel w W:=⟨o1,o2,o,by rw [H];exact T.size,fun k E=>by rw [H];exact T.block k E⟩;refine ⟨ownE qQo A (by omega) S.symm (by rw [Zj,Zj,List.length_take,List.length_drop,D,ad];omega) (by rw [S];exact ba) b8 ?_,?_⟩
     ·rw [ao];exact qG9 qQo rfl rfl
     ·have P:Bel w (W.setCells w.heap.size ((i+1)*8) ((l.drop i).flatMap encIts)):=qZ1 (Zb _) _ _ _ b7;exact ⟨P.os,P.tape,P.output,P.size,fun k E _=>P.block k E⟩
    have a9:=lH Q;have b6:Hi (qZc w (.slice (some ⟨g,0,none⟩) l.length l.length) (.slice (some ⟨w.heap.size,0,none⟩) (l.length+1) G)):=lH (.inr ⟨w.heap.size,rfl,Zb _⟩);have HA:Hi (∀ (W:World),W.heap=a.heap->∀ t d,(Builtin.copy_ #[26,26] t #[.slice (some ⟨w.heap.size,i*8,none⟩) (l.length+1 - i) d,.slice (some ⟨q,0,none⟩) 1 1]).run Tryz.prog W=.ok (goInt (Nat.min 1 (l.length+1 - i))) (W.setCells w.heap.size (i*8) (encIts y))):=lH au;have HB:Hi (∀ (W:World),W.heap=p.heap->∀ t d s,(Builtin.copy_ #[26,26] t #[.slice (some ⟨w.heap.size,(i+1)*8,none⟩) (l.length - i) d,.slice (some ⟨g,i*8,none⟩) (l.length - i) s]).run Tryz.prog W=.ok (goInt (Nat.min (l.length - i) (l.length - i))) (W.setCells w.heap.size ((i+1)*8) ((l.drop i).flatMap encIts))):=lH av;have HE:Hi (∀ W:World,W.heap=a.heap->(W.setCells w.heap.size (i*8) (encIts y)).heap=p.heap):=lH (fun W H=>by rw [Z];exact qVf H _ _);have bj:IntKind.i64.wrap ((l.length:Int)+1)=(l.length:Int)+1:=(by rw [IntKind.wrap_i64];omega);have bk:IntKind.i64.wrap ((i:Int)+1)=(i:Int)+1:=(by rw [IntKind.wrap_i64];omega);have c0:IntKind.i64.wrap ((l.length:Int)+1 - (i:Int))=(l.length:Int)+1 - (i:Int):=(by rw [IntKind.wrap_i64];omega);have hb1:(0:Int)<=(i:Int)+1:=(by omega);have bp:((i:Int)+1).toNat=i+1:=(by omega);have hb3:(i:Int)<=(l.length:Int):=(by omega);have bb:¬ (l.length=i):=(by omega);have bt:¬ (G=i):=(by omega);have bu:¬ (G=i+1):=(by omega);clear Q ht a0 a5 x D a3 I n K ag ah ac T b4 a4 al a7 a6 J au av U ad ao ai aq Y az Z X;subst r;generalize encIts y=Y8 at *
    go_enter Tryz.func144,Tryz.ntmps144
    have bw:=HA.o ((w.alloc (.cells R 82)).drew) rfl;have ae:=HE.o ((w.alloc (.cells R 82)).drew) rfl;skip
    have bd:=HB.o (((w.alloc (.cells R 82)).drew.setCells w.heap.size (i*8) Y8).drew) (drew_h ae);have b5:=lH ae;clear ae;go_wp2_with (at_builtin;refine Lib.wpList_append_run _ rfl _ _ _ _ rfl _ _ rfl rfl _ _ (bo _) ?_)
    go_region_law (refine step_copy_runI rfl _ _ 26 26 rfl _ _ (by simp [Act.eval,Act.put]) (by simp [Act.eval,Act.put]) (bd _ _ _) ?_)
    go_wp2;go_ret;obtain ⟨f1,f2⟩:=a9.o (((w.alloc (.cells R 82)).drew.setCells w.heap.size (i*8) Y8).drew) (drew_h b5.o) (drew_o (qJd _ _ _ _).1) (drew_t (qJd _ _ _ _).2.1) (drew_p (qJd _ _ _ _).2.2);skip
    exact ⟨_,rfl,f1,f2,b6.o⟩
theorem qGt (base:Nat) (v:Value) (l:List Ic) (k:Nat) (w:World) (M:qQb 8 rdIc base 82 w v l) (p:k<l.length) (hl:l.length<=1000000000) :
 Calls Tryz.prog 133 #[v,.int .i64 k,.int .i64 ((k:Int)+1)] w fun e w'=>∃ y,e=.returned y/\qQb 8 rdIc base 82 w' y (l.eraseIdx k)/\w.grownBy w' v.ownBlock/\y.ownBlock=v.ownBlock:=by
 rcases blkE qQo (show qQb 8 (fun _ O ab=>O=encIts ab) base 82 w v l from M) with ⟨_,rfl⟩ | ⟨g,c,C,rfl,X,K,D,aj,Y,q⟩
 ·simp at p
 ·obtain ⟨i0,a1,a6,a8,a7⟩:=info_parts (by kernel_rfl:(Tryz.prog.info? 82).map (fun i=>(i.zero,i.size,i.bytes))=some (some (Value.agg #[.int .i64 0,.int .i64 0,.string ⟨#[]⟩,.string ⟨#[]⟩,.int .i64 0,.int .i64 0,.bool false,.slice none 0 0]),8,96));obtain ⟨r,C2,E,x,P,z,B⟩:=zKx qQo p q (by rw [D];omega) (Z:=[.int .i64 0,.int .i64 0,.string ⟨#[]⟩,.string ⟨#[]⟩,.int .i64 0,.int .i64 0,.bool false,.slice none 0 0]) rfl;obtain ⟨n,s⟩:∃ n,n=(l.drop (k+1)).flatMap encIts:=⟨_,rfl⟩;have m:n.length=(l.length - (k+1))*8:=by rw [s,qQu qQo,List.length_drop]
  have a0:(l.flatMap encIts).length=l.length*8:=qQu qQo l;have J:∀ j u,n[j]?=some u->C[(k+1)*8+j]?=some u:=fun j u H=>by
   have o:j<n.length:=(List.getElem?_eq_some_iff.1 H).1;have b:=congrArg (fun t=>t[(k+1)*8+j]?) q;have S:(k+1)*8+j<l.length*8:=(by omega);simp only [List.getElem?_take,S,if_true] at b;have a2:l.flatMap encIts=(l.take (k+1)).flatMap encIts++(l.drop (k+1)).flatMap encIts:=(by rw [<- List.flatMap_append,List.take_append_drop]);have a5:((l.take (k+1)).flatMap encIts).length=(k+1)*8:=(by rw [qQu qQo,List.length_take,Nat.min_eq_left (by omega)]);rw [b,a2,List.getElem?_append_right (by omega),a5,show (k+1)*8+j - (k+1)*8=j by omega,<- s];exact H
  obtain ⟨A,hA,a3⟩:∃ A:Addr,(if c=k+1 then some (⟨g,0,none⟩:Addr) else some ⟨g,(k+1)*8,none⟩)=some A/\Hi (∀ t u,n[t]?=some u->w.drew.cell? (A.add t)=some u):=by
   by_cases h:c=k+1
   ·refine ⟨⟨g,0,none⟩,by simp [h],fun t u H=>?_⟩;have R:n.length=0:=(by rw [m];omega);rw [List.length_eq_zero_iff.1 R] at H;simp at H
   ·refine ⟨⟨g,(k+1)*8,none⟩,by simp [h],fun t u H=>?_⟩;rw [Addr.add_lit,K.drew.cell];exact J t u H
  have s1:Hi (n.length=(l.length - (k+1))*8):=lH m;have s2:Hi (∀ u∈n,u.oneCell'=true):=lH (by rw [s];exact qYt _);have s3:Hi (∀ t,t<n.length->(w.drew.cell? ⟨g,0+k*8+t,none⟩).isSome=true/\w.drew.frozen? ⟨g,0+k*8+t,none⟩=false):=lH (fun t h=>by
   rw [m] at h;refine ⟨?_,K.drew.frozen _⟩;rw [K.drew.cell,Zi (by omega)];rfl)
  obtain ⟨a,f⟩:∃ a,a=w.drew.setCells g (0+k*8) n:=⟨_,rfl⟩;have d:Blk a g r 82:=by rw [f,E,<- s,Nat.zero_add];exact qZb g _ _ _ _ _ K.drew (by omega)
  have G:w.grownBy a (some g):=by rw [f];exact qQl (qYs (World.grownBy.refl _ _)) (qQ1 _ _ _ _)
  have ac:∀ T cc,(Builtin.clear_ #[26] T #[.slice (some ⟨g,(l.length - 1)*8,none⟩) 1 cc]).run Tryz.prog a=.ok (.tuple #[]) (a.setCells g ((l.length - 1)*8) [.int .i64 0,.int .i64 0,.string ⟨#[]⟩,.string ⟨#[]⟩,.int .i64 0,.int .i64 0,.bool false,.slice none 0 0]):=fun T cc=>by
   have hst:=run_storeCells_cells (P:=Tryz.prog) g ((l.length - 1)*8) [.int .i64 0,.int .i64 0,.string ⟨#[]⟩,.string ⟨#[]⟩,.int .i64 0,.int .i64 0,.bool false,.slice none 0 0] 0 a (fun j o=>by
    simp only [Zm,List.length_nil] at o;rw [d.cell,Zi (by omega)];rfl) (fun j o=>d.frozen _) (by simp [Value.oneCell'])
   have a9:∀ w,(zeroValue 82).run Tryz.prog w=.ok (Value.agg #[.int .i64 0,.int .i64 0,.string ⟨#[]⟩,.string ⟨#[]⟩,.int .i64 0,.int .i64 0,.bool false,.slice none 0 0]) w:=fun w=>by simp
   have aa:(Builtin.zeroCells (Value.agg #[.int .i64 0,.int .i64 0,.string ⟨#[]⟩,.string ⟨#[]⟩,.int .i64 0,.int .i64 0,.bool false,.slice none 0 0]).cells 1).toList=[.int .i64 0,.int .i64 0,.string ⟨#[]⟩,.string ⟨#[]⟩,.int .i64 0,.int .i64 0,.bool false,.slice none 0 0]:=zB1 _ _ _ _ _ _ _ _;simp only [Nat.add_zero] at hst;simp [Builtin.clear_,run_underlying Tryz.underlying26,a9,aa,hst]
  have I:qQb 8 rdIc base 82 (a.setCells g ((l.length - 1)*8) [.int .i64 0,.int .i64 0,.string ⟨#[]⟩,.string ⟨#[]⟩,.int .i64 0,.int .i64 0,.bool false,.slice none 0 0]) (.slice (some ⟨g,0,none⟩) (k+(l.length - (k+1))) c) (l.eraseIdx k)/\w.grownBy (a.setCells g ((l.length - 1)*8) [.int .i64 0,.int .i64 0,.string ⟨#[]⟩,.string ⟨#[]⟩,.int .i64 0,.int .i64 0,.bool false,.slice none 0 0]) (some g):=by
   have b:=qZb g 82 [.int .i64 0,.int .i64 0,.string ⟨#[]⟩,.string ⟨#[]⟩,.int .i64 0,.int .i64 0,.bool false,.slice none 0 0] ((l.length - 1)*8) a r d (by simp;omega);rw [<- x] at b;have Z:(l.eraseIdx k).length=l.length - 1:=(by rw [List.length_eraseIdx,if_pos p]);exact ⟨ownE qQo b X (by rw [Z];omega) (by rw [z];exact D) (by omega) Y B,qQl G (qQ1 _ _ _ _)⟩
  have N:=lH I;have U:Hi (a=w.drew.setCells g (0+k*8) n):=lH f;have ag:k<=c:=by omega
  have ah:k+1<=c:=by omega
  have ak:((k:Int)==(k:Int)+1)=false:=by simp;omega
  have ae:(0:Int)<=(k:Int)+1:=by omega
  have af:(k:Int)+1<=(l.length:Int):=by omega
  have a4:k+(l.length - (k+1))=l.length - 1:=by omega
  have al:l.length - (l.length - 1)=1:=by omega
  have ad:¬ c=l.length - 1:=by omega
  have ai:l.length - 1<=l.length:=by omega
  clear I f K d G q E x P z B J s m a0 M a6 a7;go_enter Tryz.func133,Tryz.ntmps133
  go_wp2_with fail
  go_region_law (refine step_append_room rfl (.tmp 22) (.tmp 25) 26 rfl 82 i0 8 Tryz.underlying26 a1 a8 g 0 k c (by simp [Act.eval,Act.put]) A (l.length - (k+1)) (c - (k+1)) n (by simp [Act.eval,Act.put]) s1.o a3.out s2.o (by omega) s3.o ?_;rw [<- U.o])
  go_wp2;go_ret;obtain ⟨F,Q⟩:=N.o;rw [a4] at F;exact ⟨_,rfl,F,Q,rfl⟩

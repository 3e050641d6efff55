/- Items: copies, nodes, the same: walked. -/
import Derived.Test.YtklbmkaomojciaaGreatItems
import Derived.BigRegion
set_option maxRecDepth 100000
set_option maxHeartbeats 4000000
namespace Go.Proofs.YtklbmkaomojciaaGreat
open Go.RowKit
theorem it_one {h:Hd} {v:Value} (hv:v.oneCell'=true):∀ u∈qQi h v,u.oneCell'=true:=by
 intro u hu
 simp [qQi] at hu
 rcases hu with rfl | rfl | rfl | rfl | rfl | rfl | rfl | rfl <;> first | rfl | exact hv
theorem zH9 {α:Type} {sz base:Nat} {e:TypeId} {rd:World->List Value->α->Prop} {w:World} {v:Value} {l:List α} (h:qQb sz rd base e w v l):v.oneCell'=true:=by
 obtain ⟨a,c,rfl,_,_⟩:=Rf h.read
 rfl
theorem qJy:∀ (k n:Nat) (v:Value) (l:List It) (w:World),ItsK (·<n) k w v l->n<=w.heap.size->(nodesL l).length<=1000000000 ->
 Calls Tryz.prog 32 #[v] w (Rn w fun w' y=>∃ S,OwnT w.heap.size k w' y l S):=by
 intro k
 induction k using Nat.strongRecOn with
 | ind k ih=>
 intro n v l w hv hn hL
 obtain ⟨va,vc,rfl,v1,v2⟩:=Rf hv
 have HV:=lH hv
 have HIH:=lH ih
 have hll:l.length<=1000000000:=Za (qBz l) hL
 clear hv ih
 go_enter Tryz.func32,Tryz.ntmps32
 go_wp2
 go_loopw [8,3] (fun z o wr=>∃ (j:Nat) (Ss:List (List Nat)),j<=l.length/\z=.int .i64 j/\Ss.length=j/\qQb 8 (rdO w.heap.size k) w.heap.size 111 wr o ((l.take j).zip Ss)/\Ss.flatten.Nodup/\(∀ b∈Ss.flatten,b<wr.heap.size/\o.ownBlock≠some b)/\Bel w wr) (fun z _ _=>l.length - (intOf z).toNat)
 case atStart=>exact ⟨0,[],by omega,rfl,rfl,qQb.nil _ _ _,by simp,by simp,Br _⟩
 case round=>
  obtain ⟨j,Ss,hj,rfl,hSl,hO,hSn,hSb,hB⟩:=hrel
  have hzl:((l.take j).zip Ss).length=j:=by simp;omega
  obtain ⟨oa,oc,rfl,o1,o2⟩:=Rf hO.read
  rw [hzl] at o1 hO hSb ⊢
  have HO:=lH hO
  have HB:=lH hB
  have HSN:=lH hSn
  have HSB:=lH hSb
  clear hO hB hSn hSb
  by_cases hlt:j<l.length
  ·have hltz:(j:Int)<(l.length:Int):=by omega
   obtain ⟨b,off,cap,kv,k',rfl,e1,-,-,hb,hI⟩:=HV.o.item j hlt
   simp at e1
   obtain ⟨rfl,rfl⟩:=e1
   have hbw:b<w.heap.size:=by omega
   have c0:=(Bel.cells HB.o b _ hbw).trans hI.node
   have c1:=(Bel.cells HB.o b _ hbw).trans hI.role
   have c2:=(Bel.cells HB.o b _ hbw).trans hI.name
   have c3:=(Bel.cells HB.o b _ hbw).trans hI.about
   have c4:=(Bel.cells HB.o b _ hbw).trans hI.level
   have c5:=(Bel.cells HB.o b _ hbw).trans hI.checked
   have c6:=(Bel.cells HB.o b _ hbw).trans hI.off
   have c7:=(Bel.cells HB.o b _ hbw).trans hI.kids
   have hLe:=zKk hlt
   have S0:=HB.o.size
   obtain ⟨xa,xc,rfl,x1,x2⟩:=Rf hI.kidsAt
   have HC:Hi (∀ W,Bel w W->Calls Tryz.prog 32 #[.slice xa l[j].kids.length xc] W (Rn W fun w' y=>∃ S,OwnT W.heap.size k' w' y l[j].kids S)):=lH (fun W h=>HIH.o k' (by omega) n _ _ W (hI.kidsAt.later h hn) (Za hn h.size) (by omega))
   have HT:Hi (∀ S,(l.take (j+1)).zip (Ss++[S])=(l.take j).zip Ss++[(l[j],S)]):=lH (fun S=>by rw [Zk hlt,List.zip_append (by simp;omega)];rfl)
   clear hI
   generalize l[j]=X at *
   obtain ⟨⟨xn,xr,xm,xb,xl,xk,xo⟩,ks⟩:=X
   simp only [It.h,It.kids] at c0 c1 c2 c3 c4 c5 c6 c7 HC
   have hN:=Blk.new' wr wr.heap.size rfl #[.int .i64 xn,.int .i64 xr,.string ⟨xm.toArray⟩,.string ⟨xb.toArray⟩,.int .i64 xl,.int .i64 xk,.bool xo,.slice xa ks.length xc] 111
   have hNb:Bel wr (wr.alloc (.cells #[.int .i64 xn,.int .i64 xr,.string ⟨xm.toArray⟩,.string ⟨xb.toArray⟩,.int .i64 xl,.int .i64 xk,.bool xo,.slice xa ks.length xc] 111)):=(Br wr).alloc _
   have HN:=lH hN
   have HNB:=lH hNb
   clear hN hNb
   go_upto_region 6 with (go_at_call 32;(with_reducible refine (HC.o _ (Bt HB.o HNB.o)).mono ?_);rintro e w2 ⟨b2,y2,rfl,S,o2⟩;obtain ⟨ya,yc,rfl,y1,y2'⟩:=Rf o2.its;have HB2:=lH b2;have HX2:=lH o2;have hn2:=HN.o.bel b2;have HN2:=lH hn2;have n7:w2.cell? ⟨wr.heap.size,7,none⟩=some (.slice xa ks.length xc):=hn2.cell 7;have f7:w2.frozen? ⟨wr.heap.size,7,none⟩=false:=hn2.frozen 7;clear b2 o2 hn2)
   have hs2:wr.heap.size+1<=w2.heap.size:=by have:=HB2.o.size;simpa using this
   have hB3:Bel w (w2.setCell ⟨wr.heap.size,7,none⟩ (.slice ya ks.length yc)):=Bel.setCell (Bt HB.o (Bt HNB.o HB2.o)) _ _ _ S0
   have hN3:=HN2.o.set 7 (.slice ya ks.length yc)
   have hbase:w.heap.size<=(wr.alloc (.cells #[.int .i64 xn,.int .i64 xr,.string ⟨xm.toArray⟩,.string ⟨xb.toArray⟩,.int .i64 xl,.int .i64 xk,.bool xo,.slice xa ks.length xc] 111)).heap.size:=by simp;omega
   have hSlt:=HX2.o.lt
   have hX3:OwnT w.heap.size k' (w2.setCell ⟨wr.heap.size,7,none⟩ (.slice ya ks.length yc)) (.slice ya ks.length yc) ks S:=by
    obtain ⟨Ss',g1,g2,g3,g4⟩:=HX2.o
    have hx:OwnT w.heap.size k' w2 (.slice ya ks.length yc) ks S:=⟨Ss',g1,(g2.redo (fun _ _=>rfl) (fun cs x _ hr=>hr.base_le hbase)).base_le hbase,g3,g4⟩
    refine hx.agree (fun b hb=>Below.heap_setCell w2 _ _ b ?_)
    have:=(hSlt b hb).1
    simp at this
    show b≠wr.heap.size
    omega
   have hO3:qQb 8 (fun W cs p=>rdO w.heap.size (k'+1) W cs p/\∀ b∈p.2,b<w2.heap.size/\(Value.slice oa j oc).ownBlock≠some b) w.heap.size 111 (w2.setCell ⟨wr.heap.size,7,none⟩ (.slice ya ks.length yc)) (.slice oa j oc) ((l.take j).zip Ss):=by
    have hstay:∀ b,b<wr.heap.size->(w2.setCell ⟨wr.heap.size,7,none⟩ (.slice ya ks.length yc)).heap[b]?=wr.heap[b]?:=fun b hb=>by
     rw [Below.heap_setCell w2 _ _ b (by show b≠wr.heap.size;omega),HB2.o.block b (by simp;omega)]
     exact HNB.o.block b hb
    refine HO.o.redo (fun b hb=>hstay b (HO.o.lt b hb).2) (fun cs p hp hr=>⟨hr.agree (fun b hb=>hstay b (hr.lt b hb).2),fun b hb=>?_⟩)
    have hm:b∈Ss.flatten:=List.mem_flatten.2 ⟨_,zH2 hp,hb⟩
    have:=HSB.o b hm
    exact ⟨by have:=(hr.lt b hb).2;omega,this.2⟩
   have HO3:=lH hO3
   have HB3:=lH hB3
   have HX3:=lH hX3
   have hl3:(w2.setCell ⟨wr.heap.size,7,none⟩ (.slice ya ks.length yc)).heap.size=w2.heap.size:=World.size_setCell ..
   have HSF:Hi (∀ b∈S,wr.heap.size<b/\b<w2.heap.size):=lH (fun b hb=>by have:=hSlt b hb;simp at this;omega)
   have hobl:∀ b,(Value.slice oa j oc).ownBlock=some b->b<wr.heap.size:=fun b hb=>(HO.o.lt b hb).2
   have HOBL:=lH hobl
   have n0:=hN3.cell 0
   have n1:=hN3.cell 1
   have n2:=hN3.cell 2
   have n3:=hN3.cell 3
   have n4:=hN3.cell 4
   have n5:=hN3.cell 5
   have n6:=hN3.cell 6
   have n7':=hN3.cell 7
   simp at n0 n1 n2 n3 n4 n5 n6 n7'
   clear hB3 hN3 hX3 hO3 hSlt hobl n7 f7 hbase
   generalize (w2.setCell ⟨wr.heap.size,7,none⟩ (.slice ya ks.length yc))=w3 at *
   have S3:=HB3.o.size
   have HL3:=lH hl3
   clear hl3
   go_wp2_with (at_builtin;go_loud (refine qYh rfl _ _ _ rfl qB2 (by decide) (rd:=fun W cs p=>rdO w.heap.size (k'+1) W cs p/\∀ b∈p.2,b<w2.heap.size/\(Value.slice oa j oc).ownBlock≠some b) (v:=.slice oa j oc) ?hst ?hone (base:=w.heap.size) rfl HO3.o rfl ?hgs (It.mk ⟨xn,xr,xm,xb,xl,xk,xo⟩ ks,S) ?hC ?hby ?hmx S3 ?_;(case hst=>exact fun w' cs y hg hr=>⟨hr.1.agree (fun b hb=>hg.block b (by have:=(hr.2 b hb).1;have:=HL3.o;omega) (fun e=>(hr.2 b hb).2 e.symm)),hr.2⟩);(case hone=>intro W cs y hr u hu;obtain ⟨v,Ss',rfl,_,hO,_,_⟩:=hr.1;exact it_one (zH9 hO) u hu);(case hgs=>rfl);(case hC=>refine ⟨rfl,?_,fun b hb=>?_⟩;(obtain ⟨Ss',g1,g2,g3,g4⟩:=HX3.o;exact ⟨_,Ss',rfl,g1,g2,g3,g4⟩);(have:=HSF.o b hb;exact ⟨this.2,fun e=>by have:=HOBL.o b e;omega⟩));(case hby=>rw [hzl];omega);(case hmx=>rw [hzl];omega);intro v4 w4 o4 g4 f4;have HO4:=lH o4;have HG4:=lH g4;have HF4:=lH f4;clear o4 g4 f4))
   go_roundw
   case rel=>
    refine ⟨j+1,Ss++[S],by omega,by go_num,by simp;omega,?_,?_,?_,Below.grown HB3.o HG4.o S3 (fun k hk=>(HO3.o.lt k hk).1)⟩
    ·rw [HT.o]
     exact HO4.o.redo (fun _ _=>rfl) (fun cs x _ hr=>hr.1)
    ·rw [List.flatten_append,List.flatten_cons,List.flatten_nil,List.append_nil]
     refine List.nodup_append.2 ⟨HSN.o,?_,?_⟩
     ·obtain ⟨_,_,_,_,g4⟩:=HX3.o
      exact g4
     ·intro a ha b hb e
      have h1:=(HSB.o a ha).1
      have h2:=(HSF.o b hb).1
      omega
    ·intro b hb
     have hs4:=HG4.o.size
     have hl3:=HL3.o
     rw [List.flatten_append,List.flatten_cons,List.flatten_nil,List.append_nil] at hb
     have hb2:b<w2.heap.size/\(Value.slice oa j oc).ownBlock≠some b:=by
      rcases List.mem_append.1 hb with hb | hb
      ·have:=HSB.o b hb
       exact ⟨by omega,this.2⟩
      ·have:=HSF.o b hb
       exact ⟨this.2,fun e=>by have:=HOBL.o b e;omega⟩
     refine ⟨by omega,?_⟩
     rcases HF4.o with e | ⟨q,e,hq⟩
     ·rw [e];exact hb2.2
     ·rw [e];intro e2;cases e2;omega
   case measure=>simp [intOf];omega
  ·have hT:l.take j=l:=Zn (by omega)
   rw [hT] at HO
   have hlj:Ss.length=l.length:=by omega
   have HR:Hi (∃ S,OwnT w.heap.size k wr (.slice oa j oc) l S):=lH ⟨_,Ss,hlj,HO.o,rfl,by
    refine List.nodup_append.2 ⟨?_,HSN.o,?_⟩
    ·cases (Value.slice oa j oc).ownBlock <;> simp
    ·intro a ha b hb e
     have:=(HSB.o b hb).2
     simp at ha
     rw [ha,e] at this
     exact this rfl⟩
   clear hT
   go_wp2
   go_ret
   exact ⟨HB.o,_,rfl,HR.o⟩
theorem lit_row (w:World) (g:Nat) (hg:g=w.heap.size) (n:Int):qQa 1 qQf (·=g) (w.alloc (.cells #[.int .i64 n] 3)) (.slice (some ⟨g,0,none⟩) 1 1) [n]:=by
 subst hg
 exact qJs (rd:=qQf) (sz:=1) w [.int .i64 n] 3 n rfl rfl
theorem qKl:∀ (k n:Nat) (v:Value) (l:List It) (w:World),ItsK (·<n) k w v l->n<=w.heap.size->(nodesL l).length<=1000000000 ->
 Calls Tryz.prog 34 #[v] w (Rn w fun w' y=>qQb 1 qQf w.heap.size 3 w' y (nodesL l)):=by
 intro k
 induction k using Nat.strongRecOn with
 | ind k ih=>
 intro n v l w hv hn hL
 obtain ⟨va,vc,rfl,v1,v2⟩:=Rf hv
 have HV:=lH hv
 have HIH:=lH ih
 have hEK:∀ args w,(callFunc 34 args).run Tryz.prog w=.ok (.enter 34 args) w:=fun args w=>by rfl
 have HEK:=lH hEK
 clear hv ih hEK
 go_enter Tryz.func34,Tryz.ntmps34
 go_wp2
 go_loopw [8,3] (fun z o wr=>∃ (j:Nat) (O:List Int),j<=l.length/\z=.int .i64 j/\O=nodesL (l.take j)/\qQb 1 qQf w.heap.size 3 wr o O/\Bel w wr) (fun z _ _=>l.length - (intOf z).toNat)
 case atStart=>exact ⟨0,[],by omega,rfl,rfl,qQb.nil _ _ _,Br _⟩
 case round=>
  obtain ⟨j,O,hj,rfl,hP,hO,hB⟩:=hrel
  have HO:=lH hO
  have HP:=lH hP
  have HB:=lH hB
  obtain ⟨oa,oc,rfl,o1,o2⟩:=Rf hO.read
  clear hO hP hB
  by_cases hlt:j<l.length
  ·have hltz:(j:Int)<(l.length:Int):=by omega
   obtain ⟨b,off,cap,kv,k',rfl,e1,-,-,hb,hI⟩:=HV.o.item j hlt
   simp at e1
   obtain ⟨rfl,rfl⟩:=e1
   have hbw:b<w.heap.size:=by omega
   have c0:=(Bel.cells HB.o b _ hbw).trans hI.node
   have c1:=(Bel.cells HB.o b _ hbw).trans hI.role
   have c2:=(Bel.cells HB.o b _ hbw).trans hI.name
   have c3:=(Bel.cells HB.o b _ hbw).trans hI.about
   have c4:=(Bel.cells HB.o b _ hbw).trans hI.level
   have c5:=(Bel.cells HB.o b _ hbw).trans hI.checked
   have c6:=(Bel.cells HB.o b _ hbw).trans hI.off
   have c7:=(Bel.cells HB.o b _ hbw).trans hI.kids
   have hTk:=qDs hlt
   have hLe:=zKk hlt
   have S0:=HB.o.size
   obtain ⟨xa,xc,rfl,x1,x2⟩:=Rf hI.kidsAt
   have HC:Hi (∀ W,Bel w W->Calls Tryz.prog 34 #[.slice xa l[j].kids.length xc] W (Rn W fun w' y=>qQb 1 qQf W.heap.size 3 w' y (nodesL l[j].kids))):=lH (fun W h=>HIH.o k' (by omega) n _ _ W (hI.kidsAt.later h hn) (Za hn h.size) (by omega))
   have hOl:O.length=(nodesL (l.take j)).length:=congrArg List.length HP.o
   have HT:Hi (nodesL (l.take (j+1))=O++[l[j].h.node]++nodesL l[j].kids):=lH (by rw [hTk,HP.o];simp)
   clear hTk hI
   generalize l[j]=X at *
   obtain ⟨⟨xn,xr,xm,xb,xl,xk,xo⟩,ks⟩:=X
   simp only [It.h,It.kids] at c0 c1 c2 c3 c4 c5 c6 c7 HC HT hLe
   generalize nodesL ks=NK at *
   clear HP
   go_upto_region 5 with fail
   have hN:=Blk.new' wr wr.heap.size rfl #[.int .i64 xn,.int .i64 xr,.string ⟨xm.toArray⟩,.string ⟨xb.toArray⟩,.int .i64 xl,.int .i64 xk,.bool xo,.slice xa ks.length xc] 111
   have hNb:Bel wr (wr.alloc (.cells #[.int .i64 xn,.int .i64 xr,.string ⟨xm.toArray⟩,.string ⟨xb.toArray⟩,.int .i64 xl,.int .i64 xk,.bool xo,.slice xa ks.length xc] 111)):=(Br wr).alloc _
   have HNB:=lH hNb
   have hob:∀ b,(Value.slice oa O.length oc).ownBlock=some b->b<wr.heap.size:=fun b hb=>(HO.o.lt b hb).2
   have hOA:qQb 1 qQf w.heap.size 3 (wr.alloc (.cells #[.int .i64 xn,.int .i64 xr,.string ⟨xm.toArray⟩,.string ⟨xb.toArray⟩,.int .i64 xl,.int .i64 xk,.bool xo,.slice xa ks.length xc] 111)) (.slice oa O.length oc) O:=HO.o.alloc qQc _
   have hgs:wr.heap.size+1=(wr.alloc (.cells #[.int .i64 xn,.int .i64 xr,.string ⟨xm.toArray⟩,.string ⟨xb.toArray⟩,.int .i64 xl,.int .i64 xk,.bool xo,.slice xa ks.length xc] 111)).heap.size:=by simp
   revert hN hob hOA hgs
   have HBA:=lH (Bt HB.o hNb)
   clear hNb HO HB HNB
   revert HBA
   generalize (wr.alloc (.cells #[.int .i64 xn,.int .i64 xr,.string ⟨xm.toArray⟩,.string ⟨xb.toArray⟩,.int .i64 xl,.int .i64 xk,.bool xo,.slice xa ks.length xc] 111))=w0
   intro HBA hN hob hOA hgs
   have HN:=lH hN
   have HOA:=lH hOA
   have HGS:=lH hgs
   have n0:w0.cell? ⟨wr.heap.size,0,none⟩=some (.int .i64 xn):=hN.cell 0
   have n7:w0.cell? ⟨wr.heap.size,7,none⟩=some (.slice xa ks.length xc):=hN.cell 7
   have hqlt:=hN.lt
   clear hOA hgs
   generalize wr.heap.size=q at *
   have hBl:Bel w0 (w0.alloc (.cells #[.int .i64 xn] 3)).drew:=((Br _).alloc _).drew
   have m7:(w0.alloc (.cells #[.int .i64 xn] 3)).drew.cell? ⟨q,7,none⟩=some (.slice xa ks.length xc):=(hN.bel hBl).cell 7
   have HOL:Hi (qQb 1 qQf w.heap.size 3 (w0.alloc (.cells #[.int .i64 xn] 3)).drew (.slice oa O.length oc) O):=lH (HOA.o.alloc qQc (.cells #[.int .i64 xn] 3))
   have HLL:Hi (qQa 1 qQf (·=w0.heap.size) (w0.alloc (.cells #[.int .i64 xn] 3)).drew (.slice (some ⟨w0.heap.size,0,none⟩) 1 1) [xn]):=lH (lit_row w0 w0.heap.size rfl xn)
   have HBL:=lH (Bt HBA.o hBl)
   have HOB:=lH (fun b hb=>(HOA.o.lt b hb).2)
   have HNL:=lH (hN.bel hBl)
   have hq2:q<(w0.alloc (.cells #[.int .i64 xn] 3)).drew.heap.size:=HNL.o.lt
   have hqo:∀ b,(Value.slice oa O.length oc).ownBlock=some b->b≠q:=fun b hb e=>by have:=hob b hb;omega
   have HQO:=lH hqo
   have HOl:=lH hOl
   clear hN hBl hqo hOl hob
   go_region_law (first
 | (refine qYc rfl (.tmp 12) (.tmp 15) 29 rfl qJm (by decide) (rd:=qQf) (base:=w.heap.size) (l:=O) rfl HOL.o rfl HLL.o (fun cs y _ h=>qKy _ cs y h) ?hby ?mx ?hba (fun _ _ _ _ _ h=>h) ?_;(case hby=>have:=HOl.o;simp only [Zm,List.length_nil];omega);(case mx=>have:=HOl.o;simp only [Zm,List.length_nil];omega);(case hba=>exact HBL.o.size);intro v1 w1 o1 g1 _ f1;have HO1:=lH o1;have HB1:=lH (Below.own HBL.o (Zb _) HOL.o g1);have k7:w1.cell? ⟨q,7,none⟩=some (.slice xa ks.length xc):=(World.cell?_of_block (g1.block q hq2 (fun e=>HQO.o q e.symm rfl))).trans m7;clear o1 g1 f1)
 | (refine qKi rfl 34 HEK.o #[.tmp 18] _ rfl (vs:=#[.slice xa ks.length xc]) ?hv (HC.o _ HB1.o) ?_;(case hv=>simp [Act.eval]);rintro e w2 ⟨b2,y2,rfl,o2⟩;refine ⟨_,rfl,?_⟩;have HB2:=lH (Bt HB1.o b2);have HX2:=lH o2;have HO2:=lH (HO1.o.below b2 (Zb _) (fun _ _ _ h=>h));clear b2 o2)
 | (refine qYc rfl (.tmp 16) (.tmp 19) 29 rfl qJm (by decide) (rd:=qQf) (base:=w.heap.size) (l:=O++[xn]) rfl HO2.o rfl HX2.o.read (fun cs y _ h=>qKy _ cs y h) ?hby ?mx ?hba (fun _ _ _ _ _ h=>h) ?_;(case hby=>have:=HOl.o;simp;omega);(case mx=>have:=HOl.o;simp;omega);(case hba=>exact HB2.o.size);intro v3 w3 o3 g3 _ f3;have HO3:=lH o3;have HB3:=lH (Below.own HB2.o (Zb _) HO2.o g3);clear o3 g3 f3))
   all_goals
    go_wp2
    go_roundw
    case rel=>exact ⟨j+1,_,by omega,by go_num,HT.o.symm,HO3.o,HB3.o⟩
    case measure=>simp [intOf];omega
  ·have hT:l.take j=l:=Zn (by omega)
   have HPl:Hi (O=nodesL l):=lH (by rw [HP.o,hT])
   clear hT
   go_wp2
   go_ret
   exact ⟨HB.o,_,rfl,HPl.o▸HO.o⟩
theorem qGo:∀ (k n:Nat) (u v:Value) (l:List It) (w:World),ItsK (·<n) k w u l->ItsK (·<n) k w v l->n<=w.heap.size ->
 Calls Tryz.prog 31 #[u,v] w (Rb (.bool true) w):=by
 intro k
 induction k using Nat.strongRecOn with
 | ind k ih=>
 intro n u v l w hu hv hn
 obtain ⟨ua,uc,rfl,u1,u2⟩:=Rf hu
 obtain ⟨va,vc,rfl,v1,v2⟩:=Rf hv
 have HU:=lH hu
 have HV:=lH hv
 have HIH:=lH ih
 clear hu hv ih
 go_enter Tryz.func31,Tryz.ntmps31
 go_wp2
 go_loopw [15] (fun z wr=>∃ i:Nat,i<=l.length/\z=.int .i64 i/\Bel w wr) (fun z _=>l.length - (intOf z).toNat)
 case atStart=>exact ⟨0,by omega,rfl,Br _⟩
 case round=>
  obtain ⟨i,hi,rfl,hB⟩:=hrel
  have HB:=lH hB
  have S0:=hB.size
  clear hB
  by_cases hlt:i<l.length
  ·have hltz:(i:Int)<(l.length:Int):=by omega
   obtain ⟨b1,o1,cap1,kv1,k',rfl,e1,-,-,hb1,hN1⟩:=HU.o.item i hlt
   obtain ⟨b2,o2,cap2,kv2,k2,hk2,e2,-,-,hb2,hN2⟩:=HV.o.item i hlt
   obtain rfl:k'=k2:=by omega
   clear hk2
   simp at e1 e2
   obtain ⟨rfl,rfl⟩:=e1
   obtain ⟨rfl,rfl⟩:=e2
   have hbl1:b1<w.heap.size:=by omega
   have hbl2:b2<w.heap.size:=by omega
   have c0:=(Bel.cells HB.o b1 _ hbl1).trans hN1.node
   have d0:=(Bel.cells HB.o b2 _ hbl2).trans hN2.node
   have c1:=(Bel.cells HB.o b1 _ hbl1).trans hN1.role
   have d1:=(Bel.cells HB.o b2 _ hbl2).trans hN2.role
   have c2:=(Bel.cells HB.o b1 _ hbl1).trans hN1.name
   have d2:=(Bel.cells HB.o b2 _ hbl2).trans hN2.name
   have c3:=(Bel.cells HB.o b1 _ hbl1).trans hN1.about
   have d3:=(Bel.cells HB.o b2 _ hbl2).trans hN2.about
   have c4:=(Bel.cells HB.o b1 _ hbl1).trans hN1.level
   have d4:=(Bel.cells HB.o b2 _ hbl2).trans hN2.level
   have c5:=(Bel.cells HB.o b1 _ hbl1).trans hN1.checked
   have d5:=(Bel.cells HB.o b2 _ hbl2).trans hN2.checked
   have c6:=(Bel.cells HB.o b1 _ hbl1).trans hN1.off
   have d6:=(Bel.cells HB.o b2 _ hbl2).trans hN2.off
   have c7:=(Bel.cells HB.o b1 _ hbl1).trans hN1.kids
   have d7:=(Bel.cells HB.o b2 _ hbl2).trans hN2.kids
   obtain ⟨ka,kc,rfl,k1,k3⟩:=Rf hN1.kidsAt
   obtain ⟨kb,kd,rfl,k4,k5⟩:=Rf hN2.kidsAt
   have HC:Hi (∀ W,Bel w W->Calls Tryz.prog 31 #[.slice ka l[i].kids.length kc,.slice kb l[i].kids.length kd] W (Rb (.bool true) W)):=lH (fun W h=>HIH.o k' (by omega) n _ _ _ W (hN1.kidsAt.later h hn) (hN2.kidsAt.later h hn) (Za hn h.size))
   clear hN1 hN2
   generalize l[i]=X at *
   obtain ⟨⟨xn,xr,xm,xb,xl,xk,xo⟩,ks⟩:=X
   simp only [It.h,It.kids] at c0 c1 c2 c3 c4 c5 c6 c7 d0 d1 d2 d3 d4 d5 d6 d7 HC
   go_upto_region 6 with fail
   have hbw1:b1<wr.heap.size:=by omega
   have hbw2:b2<wr.heap.size:=by omega
   have hn1:b1≠wr.heap.size:=by omega
   have hn2:b2≠wr.heap.size:=by omega
   have hn3:b1≠wr.heap.size+1:=by omega
   have hn4:b2≠wr.heap.size+1:=by omega
   have hBa:Bel wr (wr.alloc (.cells #[.int .i64 0,.int .i64 0,.string ⟨#[]⟩,.string ⟨#[]⟩,.int .i64 0,.int .i64 0,.bool false,.slice none 0 0] 111)):=(Br wr).alloc _
   have hBb:Bel wr ((wr.alloc (.cells #[.int .i64 0,.int .i64 0,.string ⟨#[]⟩,.string ⟨#[]⟩,.int .i64 0,.int .i64 0,.bool false,.slice none 0 0] 111)).alloc (.cells #[.int .i64 0,.int .i64 0,.string ⟨#[]⟩,.string ⟨#[]⟩,.int .i64 0,.int .i64 0,.bool false,.slice none 0 0] 111)):=hBa.alloc _
   have ca0:=(Bel.cells hBa b1 _ hbw1).trans c0
   have cb0:=(Bel.cells hBb b1 _ hbw1).trans c0
   have da0:=(Bel.cells hBa b2 _ hbw2).trans d0
   have db0:=(Bel.cells hBb b2 _ hbw2).trans d0
   have ca1:=(Bel.cells hBa b1 _ hbw1).trans c1
   have cb1:=(Bel.cells hBb b1 _ hbw1).trans c1
   have da1:=(Bel.cells hBa b2 _ hbw2).trans d1
   have db1:=(Bel.cells hBb b2 _ hbw2).trans d1
   have ca2:=(Bel.cells hBa b1 _ hbw1).trans c2
   have cb2:=(Bel.cells hBb b1 _ hbw1).trans c2
   have da2:=(Bel.cells hBa b2 _ hbw2).trans d2
   have db2:=(Bel.cells hBb b2 _ hbw2).trans d2
   have ca3:=(Bel.cells hBa b1 _ hbw1).trans c3
   have cb3:=(Bel.cells hBb b1 _ hbw1).trans c3
   have da3:=(Bel.cells hBa b2 _ hbw2).trans d3
   have db3:=(Bel.cells hBb b2 _ hbw2).trans d3
   have ca4:=(Bel.cells hBa b1 _ hbw1).trans c4
   have cb4:=(Bel.cells hBb b1 _ hbw1).trans c4
   have da4:=(Bel.cells hBa b2 _ hbw2).trans d4
   have db4:=(Bel.cells hBb b2 _ hbw2).trans d4
   have ca5:=(Bel.cells hBa b1 _ hbw1).trans c5
   have cb5:=(Bel.cells hBb b1 _ hbw1).trans c5
   have da5:=(Bel.cells hBa b2 _ hbw2).trans d5
   have db5:=(Bel.cells hBb b2 _ hbw2).trans d5
   have ca6:=(Bel.cells hBa b1 _ hbw1).trans c6
   have cb6:=(Bel.cells hBb b1 _ hbw1).trans c6
   have da6:=(Bel.cells hBa b2 _ hbw2).trans d6
   have db6:=(Bel.cells hBb b2 _ hbw2).trans d6
   have ca7:=(Bel.cells hBa b1 _ hbw1).trans c7
   have cb7:=(Bel.cells hBb b1 _ hbw1).trans c7
   have da7:=(Bel.cells hBa b2 _ hbw2).trans d7
   have db7:=(Bel.cells hBb b2 _ hbw2).trans d7
   clear hBa hBb
   go_region
   ·refine qJg (E:=fun W=>Bel wr W/\Blk W wr.heap.size [.int .i64 xn,.int .i64 xr,.string ⟨xm.toArray⟩,.string ⟨xb.toArray⟩,.int .i64 xl,.int .i64 xk,.bool xo,.slice ka ks.length kc] 111/\Blk W (wr.heap.size+1) [.int .i64 xn,.int .i64 xr,.string ⟨xm.toArray⟩,.string ⟨xb.toArray⟩,.int .i64 xl,.int .i64 xk,.bool xo,.slice kb ks.length kd] 111) ?_ ?_
    ·have z1:=Blk.new wr wr.heap.size rfl [.int .i64 xn,.int .i64 xr,.string ⟨xm.toArray⟩,.string ⟨xb.toArray⟩,.int .i64 xl,.int .i64 xk,.bool xo,.slice ka ks.length kc] 111
     have z2:=Blk.new (wr.alloc (.cells (List.toArray [.int .i64 xn,.int .i64 xr,.string ⟨xm.toArray⟩,.string ⟨xb.toArray⟩,.int .i64 xl,.int .i64 xk,.bool xo,.slice ka ks.length kc]) 111)) (wr.heap.size+1) (World.size_alloc ..).symm [.int .i64 xn,.int .i64 xr,.string ⟨xm.toArray⟩,.string ⟨xb.toArray⟩,.int .i64 xl,.int .i64 xk,.bool xo,.slice kb ks.length kd] 111
     have z3:=z1.bel ((Br _).alloc (.cells (List.toArray [.int .i64 xn,.int .i64 xr,.string ⟨xm.toArray⟩,.string ⟨xb.toArray⟩,.int .i64 xl,.int .i64 xk,.bool xo,.slice kb ks.length kd]) 111))
     exact ⟨(((Br wr).alloc _).alloc _).drew,z3.drew,z2.drew⟩
    rintro W ⟨hW,HP,HQ⟩
    have HW:=lH hW
    clear hW
    revert HP HQ
    generalize wr.heap.size+1=q
    generalize wr.heap.size=p
    intro HP HQ
    have p0:W.cell? ⟨p,0,none⟩=_:=HP.cell 0
    have q0:W.cell? ⟨q,0,none⟩=_:=HQ.cell 0
    have p1:W.cell? ⟨p,1,none⟩=_:=HP.cell 1
    have q1:W.cell? ⟨q,1,none⟩=_:=HQ.cell 1
    have p2:W.cell? ⟨p,2,none⟩=_:=HP.cell 2
    have q2:W.cell? ⟨q,2,none⟩=_:=HQ.cell 2
    have p3:W.cell? ⟨p,3,none⟩=_:=HP.cell 3
    have q3:W.cell? ⟨q,3,none⟩=_:=HQ.cell 3
    have p4:W.cell? ⟨p,4,none⟩=_:=HP.cell 4
    have q4:W.cell? ⟨q,4,none⟩=_:=HQ.cell 4
    have p5:W.cell? ⟨p,5,none⟩=_:=HP.cell 5
    have q5:W.cell? ⟨q,5,none⟩=_:=HQ.cell 5
    have p6:W.cell? ⟨p,6,none⟩=_:=HP.cell 6
    have q6:W.cell? ⟨q,6,none⟩=_:=HQ.cell 6
    have p7:W.cell? ⟨p,7,none⟩=_:=HP.cell 7
    have q7:W.cell? ⟨q,7,none⟩=_:=HQ.cell 7
    simp at p0 p1 p2 p3 p4 p5 p6 p7 q0 q1 q2 q3 q4 q5 q6 q7
    clear c0 c1 c2 c3 c4 c5 c6 c7 d0 d1 d2 d3 d4 d5 d6 d7
    have HBW:=lH (Bt HB.o HW.o)
    go_wp2_with (go_at_call 31;(with_reducible refine qQe (HC.o _ HBW.o) HBW fun W1 HB1=>?_))
    go_roundw
    case rel=>exact ⟨i+1,by omega,by go_num,HB1.o⟩
    case measure=>simp [intOf];omega
   ·refine qJg (E:=fun W=>Bel wr W/\Blk W wr.heap.size [.int .i64 xn,.int .i64 xr,.string ⟨xm.toArray⟩,.string ⟨xb.toArray⟩,.int .i64 xl,.int .i64 xk,.bool xo,.slice kb ks.length kd] 111/\Blk W (wr.heap.size+1) [.int .i64 xn,.int .i64 xr,.string ⟨xm.toArray⟩,.string ⟨xb.toArray⟩,.int .i64 xl,.int .i64 xk,.bool xo,.slice ka ks.length kc] 111) ?_ ?_
    ·have z1:=Blk.new wr wr.heap.size rfl [.int .i64 xn,.int .i64 xr,.string ⟨xm.toArray⟩,.string ⟨xb.toArray⟩,.int .i64 xl,.int .i64 xk,.bool xo,.slice kb ks.length kd] 111
     have z2:=Blk.new (wr.alloc (.cells (List.toArray [.int .i64 xn,.int .i64 xr,.string ⟨xm.toArray⟩,.string ⟨xb.toArray⟩,.int .i64 xl,.int .i64 xk,.bool xo,.slice kb ks.length kd]) 111)) (wr.heap.size+1) (World.size_alloc ..).symm [.int .i64 xn,.int .i64 xr,.string ⟨xm.toArray⟩,.string ⟨xb.toArray⟩,.int .i64 xl,.int .i64 xk,.bool xo,.slice ka ks.length kc] 111
     have z3:=z1.bel ((Br _).alloc (.cells (List.toArray [.int .i64 xn,.int .i64 xr,.string ⟨xm.toArray⟩,.string ⟨xb.toArray⟩,.int .i64 xl,.int .i64 xk,.bool xo,.slice ka ks.length kc]) 111))
     exact ⟨(((Br wr).alloc _).alloc _).drew,z3.drew,z2.drew⟩
    rintro W ⟨hW,HP,HQ⟩
    have HW:=lH hW
    clear hW
    revert HP HQ
    generalize wr.heap.size+1=q
    generalize wr.heap.size=p
    intro HP HQ
    have p0:W.cell? ⟨p,0,none⟩=_:=HP.cell 0
    have q0:W.cell? ⟨q,0,none⟩=_:=HQ.cell 0
    have p1:W.cell? ⟨p,1,none⟩=_:=HP.cell 1
    have q1:W.cell? ⟨q,1,none⟩=_:=HQ.cell 1
    have p2:W.cell? ⟨p,2,none⟩=_:=HP.cell 2
    have q2:W.cell? ⟨q,2,none⟩=_:=HQ.cell 2
    have p3:W.cell? ⟨p,3,none⟩=_:=HP.cell 3
    have q3:W.cell? ⟨q,3,none⟩=_:=HQ.cell 3
    have p4:W.cell? ⟨p,4,none⟩=_:=HP.cell 4
    have q4:W.cell? ⟨q,4,none⟩=_:=HQ.cell 4
    have p5:W.cell? ⟨p,5,none⟩=_:=HP.cell 5
    have q5:W.cell? ⟨q,5,none⟩=_:=HQ.cell 5
    have p6:W.cell? ⟨p,6,none⟩=_:=HP.cell 6
    have q6:W.cell? ⟨q,6,none⟩=_:=HQ.cell 6
    have p7:W.cell? ⟨p,7,none⟩=_:=HP.cell 7
    have q7:W.cell? ⟨q,7,none⟩=_:=HQ.cell 7
    simp at p0 p1 p2 p3 p4 p5 p6 p7 q0 q1 q2 q3 q4 q5 q6 q7
    clear c0 c1 c2 c3 c4 c5 c6 c7 d0 d1 d2 d3 d4 d5 d6 d7
    have HBW:=lH (Bt HB.o HW.o)
    go_wp2_with (go_at_call 31;(with_reducible refine qQe (HC.o _ HBW.o) HBW fun W1 HB1=>?_))
    go_roundw
    case rel=>exact ⟨i+1,by omega,by go_num,HB1.o⟩
    case measure=>simp [intOf];omega
  ·go_wp2
   go_ret
   exact ⟨rfl,HB.o⟩
end Go.Proofs.YtklbmkaomojciaaGreat

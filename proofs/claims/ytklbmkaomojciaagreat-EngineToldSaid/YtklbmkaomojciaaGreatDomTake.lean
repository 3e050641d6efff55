/- The changer's take: a node stands in no list, in place. -/
import Derived.Test.YtklbmkaomojciaaGreatDomPut
set_option maxRecDepth 100000
set_option maxHeartbeats 8000000
namespace Go.Proofs.YtklbmkaomojciaaGreat
open Go.RowKit
section
variable {base:Nat} {A:Nat->Prop} {w w':World} {v:Value} {d:Dc}
theorem OwnD.apart {b n cap:Nat} {kv sv:Value} (h:OwnD base A w v d) (hv:v=.slice (some ⟨b,0,none⟩) n cap) {i:Nat} (hi:i<d.length) (hk:w.cell? ⟨b,i*9+5,none⟩=some kv) (hs:w.cell? ⟨b,i*9+7,none⟩=some sv):∀ j,kv.ownBlock=some j->sv.ownBlock≠some j:=by
 obtain ⟨lab,h1,_,_⟩:=h
 subst hv
 have hz:i<d.zipIdx.length:=by simpa using hi
 obtain ⟨b1,off,cap1,cs0,f1,_,f2,f3,f4⟩:=qQa.elem h1.read i hz
 simp at f1
 obtain ⟨⟨rfl,rfl⟩,rfl,rfl⟩:=f1
 rw [qZx] at f4
 simp only [Nat.zero_add] at f3
 obtain ⟨av,kv2,sv2,rfl,r1,r2,r3⟩:=f4
 obtain rfl:=qX9 f3 hk (u':=kv2) rfl
 obtain rfl:=qX9 f3 hs (u':=sv2) rfl
 intro j hj hj2
 have e1:=r2.2 j hj
 have e2:=r3.2 j hj2
 omega
theorem OwnD.setBoth {b n cap:Nat} {kv sv kv' sv':Value} {lk ls:List Int} (h:OwnD base A w v d) (hv:v=.slice (some ⟨b,0,none⟩) n cap) {i:Nat} (hi:i<d.length) (hck:w.cell? ⟨b,i*9+5,none⟩=some kv) (hcs:w.cell? ⟨b,i*9+7,none⟩=some sv)
 (hg:∀ k,k<w.heap.size->kv.ownBlock≠some k->sv.ownBlock≠some k->w'.heap[k]?=w.heap[k]?) (hsz:w.heap.size<=w'.heap.size)
 (hrk:qQb 1 qQf base 3 w' kv' lk) (hbk:kv'.ownBlock=kv.ownBlock) (hrs:qQb 1 qQf base 3 w' sv' ls) (hbs:sv'.ownBlock=sv.ownBlock) :
 OwnD base A ((w'.setCell ⟨b,i*9+5,none⟩ kv').setCell ⟨b,i*9+7,none⟩ sv') v (d.set i { d[i] with kids:=lk,shadow:=ls }):=by
 obtain ⟨lab,h1,⟨b0,hb0,hl0,hA0⟩,h3⟩:=h
 subst hv
 obtain rfl:b=b0:=by simpa [Value.ownBlock] using hb0
 have hz:i<d.zipIdx.length:=by simpa using hi
 have hbl:=(h1.lt b rfl).2
 have hnn:n=d.zipIdx.length:=by
  obtain ⟨_,_,e,_,_⟩:=Rf h1.read
  simp at e;simpa using e.2.1
 obtain ⟨b1,off,cap1,cs0,f1,_,f2,f3,f4⟩:=qQa.elem h1.read i hz
 simp at f1
 obtain ⟨⟨rfl,rfl⟩,_,rfl⟩:=f1
 rw [qZx] at f4
 simp only [Nat.zero_add] at f3
 obtain ⟨av0,kv2,sv2,rfl,r1,r2,r3⟩:=f4
 obtain rfl:=qX9 f3 hck (u':=kv2) rfl
 obtain rfl:=qX9 f3 hcs (u':=sv2) rfl
 have hkl:∀ k,kv2.ownBlock=some k->lab k=3*i+2:=fun k hk=>r2.2 k hk
 have hsl:∀ k,sv2.ownBlock=some k->lab k=3*i+3:=fun k hk=>r3.2 k hk
 have hgb:w'.heap[b]?=w.heap[b]?:=hg b hbl (fun e=>by have:=hkl b e;omega) (fun e=>by have:=hsl b e;omega)
 have hne:∀ (W:World) (j:Nat) (u:Value) k,k≠b->(W.setCell ⟨b,j,none⟩ u).heap[k]?=W.heap[k]?:=fun W j u k hk=>Below.heap_setCell W _ u k hk
 have hsame:∀ k,k<w.heap.size->lab k≠3*i+2->lab k≠3*i+3->w'.heap[k]?=w.heap[k]?:=fun k hk e1 e2=>hg k hk (fun e=>e1 (hkl k e)) (fun e=>e2 (hsl k e))
 have rk':RowO 1 qQf base 3 (fun k=>lab k=3*i+2) w' kv' lk:=⟨hrk,fun k hk=>hkl k (by rw [<- hbk];exact hk)⟩
 have rs':RowO 1 qQf base 3 (fun k=>lab k=3*i+3) w' sv' ls:=⟨hrs,fun k hk=>hsl k (by rw [<- hbs];exact hk)⟩
 obtain ⟨rd1,hrd1⟩:∃ rd1:World->List Value->Nd×Nat->Prop,rd1=fun W cs p=>if p.2=i then ∃ av,cs=[.bool d[i].live,.string ⟨d[i].tag.toArray⟩,.string ⟨d[i].text.toArray⟩,av,.int .i64 d[i].up,kv',.bool d[i].hasS,sv2,.bool d[i].inS]/\RowO 2 qK5 base 106 (fun k=>lab k=3*i+1) W av d[i].attrs else qYk lab base W cs p:=⟨_,rfl⟩
 have step1:qQb 9 rd1 base 65 (w'.setCell ⟨b,i*9+5,none⟩ kv') (.slice (some ⟨b,0,none⟩) n cap) d.zipIdx:=by
  refine qQb.setOne h1 hnn hgb i hz 5 (by omega) kv' rfl (fun cs hC hcs=>?_) (fun p hp hpi ys hys=>?_)
  ·rw [qZx] at hcs ⊢
   rw [hrd1]
   simp only [if_true]
   obtain ⟨av,kv3,sv3,rfl,q1,q2,q3⟩:=hcs
   obtain rfl:=qX9 hC hcs (u':=sv3) rfl
   exact ⟨av,rfl,q1.move qZc (fun k hk hl=>(hne _ _ _ k (by rintro rfl;omega)).trans (hsame k hl (by omega) (by omega))) (fun _ h _=>h)⟩
  ·rw [qZx] at hys ⊢
   rw [hrd1]
   simp only [hpi,if_false]
   exact hys.move (fun k hk h1' h2'=>⟨(hne _ _ _ k (by rintro rfl;simp at h1';omega)).trans (hsame k hk (by simp at h1' h2';omega) (by simp at h1' h2';omega)),rfl⟩)
 have step2:qQb 9 (qYk lab base) base 65 ((w'.setCell ⟨b,i*9+5,none⟩ kv').setCell ⟨b,i*9+7,none⟩ sv') (.slice (some ⟨b,0,none⟩) n cap) (d.set i { d[i] with kids:=lk,shadow:=ls }).zipIdx:=by
  refine qQb.setOne step1 hnn rfl i hz 7 (by omega) sv' (by simp) (fun cs hC hcs=>?_) (fun p hp hpi ys hys=>?_)
  ·have hzz:(d.set i { d[i] with kids:=lk,shadow:=ls }).zipIdx[i]'(by simpa using hi)=({ d[i] with kids:=lk,shadow:=ls },i):=by rw [qZx];simp
   rw [qZx,hrd1] at hcs
   simp only [if_true] at hcs
   rw [hzz]
   obtain ⟨av,rfl,q1⟩:=hcs
   refine ⟨av,kv',sv',rfl,q1.move qZc (fun k hk hl=>hne _ _ _ k (by rintro rfl;omega)) (fun _ h _=>h),rk'.move qQc (fun k hk hl=>?_) (fun _ h _=>h),rs'.move qQc (fun k hk hl=>?_) (fun _ h _=>h)⟩
   ·rw [hne _ _ _ k (by rintro rfl;omega),hne _ _ _ k (by rintro rfl;omega)]
   ·rw [hne _ _ _ k (by rintro rfl;omega),hne _ _ _ k (by rintro rfl;omega)]
  ·have hzz:(d.set i { d[i] with kids:=lk,shadow:=ls }).zipIdx[p]'(by simpa using hp)=(d[p]'(by simpa using hp),p):=by rw [qZx];simp [List.getElem_set_ne (Ne.symm hpi)]
   rw [qZx,hrd1] at hys
   simp only [hpi,if_false] at hys
   rw [hzz]
   exact hys.move (fun k hk h1' h2'=>⟨hne _ _ _ k (by rintro rfl;simp at h1';omega),rfl⟩)
 exact ⟨lab,step2,⟨b,rfl,hl0,hA0⟩,fun k hk=>⟨(h3 k hk).1,Zc (h3 k hk).2 (by simpa using hsz)⟩⟩
end
theorem OwnD.less {base:Nat} {A A':Nat->Prop} {w:World} {v:Value} {d:Dc} (h:OwnD base A w v d) (ha:∀ k,A' k->A k):OwnD base A' w v d:=by
 obtain ⟨lab,h1,⟨b,e1,e2,e3⟩,h3⟩:=h
 exact ⟨lab,h1,⟨b,e1,e2,fun h=>e3 (ha b h)⟩,fun b hb=>h3 b (ha b hb)⟩
def ChQ (base c q:Nat) (w:World) (d:Dc) (n:Int):Prop:=∃ v,Blk w c [v,.int .i64 n] 169/\base<=c/\OwnD base (fun k=>k=c∨k=q) w v d
theorem qBy (q:Nat) (k x:Int) (w:World) (h:w.cell? ⟨q,0,none⟩=some (.int .i64 k)):Calls Tryz.prog 180 #[.int .i64 x,.pointer (some ⟨q,0,none⟩)] w (Rb (.bool (x==k)) w):=by
 go_enter Tryz.func180,Tryz.ntmps180
 go_wp2
 go_ret
 exact ⟨rfl,Below.refl _ _⟩
theorem qW3 (base c q:Nat) (d:Dc) (n k:Int) (w:World) (h:ChQ base c q w d n) (hb:base<=w.heap.size) (hk:isM d k false=true) (hu:isM d (nd d k).up false=true) (hl:(nd d (nd d k).up).kids.length<=1000/\(nd d (nd d k).up).shadow.length<=1000) :
 Calls Tryz.prog 138 #[.pointer (some ⟨c,0,none⟩),.int .i64 k] w fun e w'=>(∃ x,e=.returned x)/\Below base w w'/\ChQ base c q w' (qZw d k) n/\(q<w.heap.size->w'.heap[q]?=w.heap[q]?):=by
 obtain ⟨v,hK,hbc,hD⟩:=h
 obtain ⟨kk,hkk,rfl,-⟩:=qQz.1 hk
 obtain ⟨b,cap,av0,kv0,sv0,rfl,z1,z2,hbb,hbl,hbA,hN0,hfz,_,_,_⟩:=hD.slots kk hkk
 have hT:qZw d kk=qZm d (nd d kk).up.toNat { nd d (nd d kk).up with kids:=qZp (nd d (nd d kk).up).kids kk,shadow:=qZp (nd d (nd d kk).up).shadow kk }:=rfl
 have hup0:=hN0.up
 rw [qQ2 hkk] at hu hl hT
 generalize d[kk].up=u at *
 obtain ⟨p,hp,rfl,-⟩:=qQz.1 hu
 obtain ⟨b',cap',av,kv,sv,e1,_,_,_,_,_,hN,_,_,rK,rS⟩:=hD.slots p hp
 simp at e1
 obtain ⟨rfl,rfl⟩:=e1
 rw [qQ2 hp,Int.toNat_natCast,qH4 hp] at hT
 rw [qQ2 hp] at hl
 have hap:=hD.apart rfl hp hN.kids hN.shadow
 obtain ⟨ka,kc,rfl,k1,k2⟩:=Rf rK.read
 obtain ⟨sa,sc,rfl,s1,s2⟩:=Rf rS.read
 have hck:=hN.kids
 have hcs:=hN.shadow
 have hc0:=hK.cell 0
 simp at hc0
 have hcl:=hK.lt
 have hcb:c≠b:=fun e=>hbA (.inl e.symm)
 obtain ⟨w0,hw0⟩:∃ w0,w0=w.alloc (.cells #[.int .i64 (kk:Int)] 3):=⟨_,rfl⟩
 have hB0:Bel w w0:=by rw [hw0];exact (Br w).alloc _
 have hq:Blk w0 w.heap.size [.int .i64 (kk:Int)] 3:=by rw [hw0];exact Blk.new' w _ rfl _ _
 have hq0:w0.cell? ⟨w.heap.size,0,none⟩=some (.int .i64 (kk:Int)):=hq.cell 0
 have hB1:Bel w w0.drew:=hB0.drew
 have q5:=(Bel.cells hB0 b _ hbl).trans hck
 have q7:=(Bel.cells hB0 b _ hbl).trans hcs
 have qu:=(Bel.cells hB0 b _ hbl).trans hup0
 have qc:=(Bel.cells hB0 c _ hcl).trans hc0
 have HD0:=lH (hD.keep hB1)
 have HK0:=lH (hK.bel hB1)
 have hkeep:∀ j,(Value.slice ka d[p].kids.length kc).ownBlock=some j->j≠b/\j≠c/\j<w.heap.size/\j≠q:=fun j hj=>⟨(rK.2 j hj).1,fun e=>(rK.2 j hj).2 (.inl e),(rK.1.lt j hj).2,fun e=>(rK.2 j hj).2 (.inr e)⟩
 have hkeeps:∀ j,(Value.slice sa d[p].shadow.length sc).ownBlock=some j->j≠b/\j≠c/\j<w.heap.size/\j≠q:=fun j hj=>⟨(rS.2 j hj).1,fun e=>(rS.2 j hj).2 (.inl e),(rS.1.lt j hj).2,fun e=>(rS.2 j hj).2 (.inr e)⟩
 have HKB:=lH hkeep
 have HSB:=lH hkeeps
 have eG:=enters_of (P:=Tryz.prog) Tryz.func180 (by kernel_rfl) rfl
 have rK1:=rK.move (w':=w0.drew) qQc (fun j _ hl=>hB1.block j hl) (fun _ h _=>h)
 have rS1:=rS.move (w':=w0.drew) qQc (fun j _ hl=>hB1.block j hl) (fun _ h _=>h)
 have HBL:Hi (b<w0.drew.heap.size/\c<w0.drew.heap.size/\w.heap.size<w0.drew.heap.size):=lH ⟨Zc hbl hB1.size,Zc hcl hB1.size,hq.drew.lt⟩
 have cK:Hi (∀ W,W=w0.drew∨W=w0.drew.drew->Calls Tryz.prog 181 #[.slice ka d[p].kids.length kc,.func (.func 180) #[] #[.pointer (some ⟨w.heap.size,0,none⟩)]] W (fun e W'=>∃ a1 n1 c1,e=.returned (.slice a1 n1 c1)/\qQb 1 qQf base 3 W' (.slice a1 n1 c1) (qZp d[p].kids kk)/\w0.drew.grownBy W' (Value.slice ka d[p].kids.length kc).ownBlock/\(Value.slice a1 n1 c1).ownBlock=(Value.slice ka d[p].kids.length kc).ownBlock)):=lH (fun W hW=>by
  have hWh:w0.drew.grownBy W (Value.slice ka d[p].kids.length kc).ownBlock:=by rcases hW with rfl | rfl <;> exact ⟨rfl,rfl,rfl,Zb _,fun _ _ _=>rfl⟩
  have hrow:qQb 1 qQf base 3 W (.slice ka d[p].kids.length kc) d[p].kids:=rK1.1.agree (fun j _=>by rcases hW with rfl | rfl <;> rfl) (fun _ _ _ h=>h)
  refine (qHc 180 _ (fun x=>x==(kk:Int)) eG base _ d[p].kids W hrow (Za hb (Za hB1.size hWh.size)) (by omega) (fun W' hW' x=>?_)).mono ?_
  ·refine qBy w.heap.size kk x W' ?_
   have hq1:=(hq.drew.of ((qQj hWh hW').block _ HBL.o.2.2 (fun e=>by have:=(HKB.o _ e.symm).2.2.1;omega))).cell 0
   exact hq1
  ·rintro e w1 ⟨y,rfl,o1,g1,e1⟩
   obtain ⟨ya,yc,rfl,_,_⟩:=Rf o1.read
   exact ⟨_,_,_,rfl,o1,qQj hWh g1,e1⟩)
 have cS:Hi (∀ W,w0.drew.grownBy W (Value.slice ka d[p].kids.length kc).ownBlock->Calls Tryz.prog 181 #[.slice sa d[p].shadow.length sc,.func (.func 180) #[] #[.pointer (some ⟨w.heap.size,0,none⟩)]] W (fun e W'=>∃ a1 n1 c1,e=.returned (.slice a1 n1 c1)/\qQb 1 qQf base 3 W' (.slice a1 n1 c1) (qZp d[p].shadow kk)/\W.grownBy W' (Value.slice sa d[p].shadow.length sc).ownBlock/\(Value.slice a1 n1 c1).ownBlock=(Value.slice sa d[p].shadow.length sc).ownBlock)):=lH (fun W hW=>by
  have hrow:qQb 1 qQf base 3 W (.slice sa d[p].shadow.length sc) d[p].shadow:=rS1.1.agree (fun j hj=>hW.block j (rS1.1.lt j hj).2 (fun e=>hap j e.symm hj)) (fun _ _ _ h=>h)
  refine (qHc 180 _ (fun x=>x==(kk:Int)) eG base _ d[p].shadow W hrow (Za hb (Za hB1.size hW.size)) (by omega) (fun W' hW' x=>?_)).mono ?_
  ·refine qBy w.heap.size kk x W' ?_
   have hq1:=hq.drew.of (hW.block _ HBL.o.2.2 (fun e=>by have:=(HKB.o _ e.symm).2.2.1;omega))
   exact (hq1.of (hW'.block _ (Zc HBL.o.2.2 hW.size) (fun e=>by have:=(HSB.o _ e.symm).2.2.1;omega))).cell 0
  ·rintro e w1 ⟨y,rfl,o1,g1,e1⟩
   obtain ⟨ya,yc,rfl,_,_⟩:=Rf o1.read
   exact ⟨_,_,_,rfl,o1,g1,e1⟩)
 have HCK:Hi (∀ W,w0.drew.grownBy W (Value.slice ka d[p].kids.length kc).ownBlock->W.heap[b]?=w0.heap[b]?/\W.heap[c]?=w0.heap[c]?):=lH (fun W h=>⟨h.block b HBL.o.1 (fun e=>(HKB.o b e.symm).1 rfl),h.block c HBL.o.2.1 (fun e=>(HKB.o c e.symm).2.1 rfl)⟩)
 have HCS:Hi (∀ W W',w0.drew.grownBy W (Value.slice ka d[p].kids.length kc).ownBlock->W.grownBy W' (Value.slice sa d[p].shadow.length sc).ownBlock->W'.heap[b]?=w0.heap[b]?/\W'.heap[c]?=w0.heap[c]?):=lH (fun W W' h h'=>⟨(h'.block b (Zc HBL.o.1 h.size) (fun e=>(HSB.o b e.symm).1 rfl)).trans (HCK.o W h).1,(h'.block c (Zc HBL.o.2.1 h.size) (fun e=>(HSB.o c e.symm).2.1 rfl)).trans (HCK.o W h).2⟩)
 have hfz0:∀ j,w0.frozen? ⟨b,j,none⟩=false:=fun j=>(Bel.marks hB0 b j hbl).trans (hfz j)
 have HFZ:=lH hfz0
 have HQ5:=lH q5
 have HQ7:=lH q7
 have HEND:Hi (∀ W W' y z,qQb 1 qQf base 3 W y (qZp d[p].kids kk)->w0.drew.grownBy W (Value.slice ka d[p].kids.length kc).ownBlock->y.ownBlock=(Value.slice ka d[p].kids.length kc).ownBlock->qQb 1 qQf base 3 W' z (qZp d[p].shadow kk)->W.grownBy W' (Value.slice sa d[p].shadow.length sc).ownBlock->z.ownBlock=(Value.slice sa d[p].shadow.length sc).ownBlock ->
  Below base w ((W'.setCell ⟨b,p*9+5,none⟩ y).setCell ⟨b,p*9+7,none⟩ z)/\ChQ base c q ((W'.setCell ⟨b,p*9+5,none⟩ y).setCell ⟨b,p*9+7,none⟩ z) (qZw d kk) n/\(q<w.heap.size->((W'.setCell ⟨b,p*9+5,none⟩ y).setCell ⟨b,p*9+7,none⟩ z).heap[q]?=w.heap[q]?)):=lH (fun W W' y z o1 g1 e1 o2 g2 e2=>by
  have hgk:∀ j,j<w0.drew.heap.size->(Value.slice ka d[p].kids.length kc).ownBlock≠some j->(Value.slice sa d[p].shadow.length sc).ownBlock≠some j->W'.heap[j]?=w0.drew.heap[j]?:=fun j hj h1 h2=>(g2.block j (Zc hj g1.size) (fun e=>h2 e.symm)).trans (g1.block j hj (fun e=>h1 e.symm))
  have o1':qQb 1 qQf base 3 W' y (qZp d[p].kids kk):=o1.agree (fun j hj=>g2.block j (o1.lt j hj).2 (fun e=>by
   rw [e1] at hj
   exact hap j hj e.symm)) (fun _ _ _ h=>h)
  have hset:=OwnD.setBoth HD0.o rfl hp q5 q7 hgk (Za g1.size g2.size) o1' e1 o2 e2
  rw [<- hT] at hset
  have hbW:Below base w W':=Below.grown (Below.grown (Below.mono hB1 hb) g1 (Za hb hB1.size) (fun j hj=>(rK1.1.lt j hj).1)) g2 (Za hb (Za hB1.size g1.size)) (fun j hj=>(rS1.1.lt j hj).1)
  have hcW:=HK0.o.of (HCS.o W W' g1 g2).2
  exact ⟨Below.setCell (Below.setCell hbW hbb _) hbb _,⟨_,((hcW.other _ _ hcb).other _ _ hcb),hbc,hset⟩,fun hq=>by
   have hqb:q≠b:=fun e=>hbA (.inr e.symm)
   rw [Below.heap_setCell _ _ _ q hqb,Below.heap_setCell _ _ _ q hqb,hgk q (Zc hq hB1.size) (fun e=>(HKB.o q e).2.2.2 rfl) (fun e=>(HSB.o q e).2.2.2 rfl)]
   exact hB1.block q hq⟩)
 clear hD hK rK rS rK1 rS1 hN hN0 hT hkeep hkeeps hap hq hfz0 hck hcs hup0 hc0 hfz hu hk hB1
 generalize d[p].kids=XK at *
 generalize d[p].shadow=XS at *
 go_enter Tryz.func138,Tryz.ntmps138
 go_upto_region 2 with fail
 rw [<- hw0]
 clear hw0
 go_region
 go_upto_region 3 with fail
 have f5:=HFZ.o (p*9+5)
 have f7:=HFZ.o (p*9+7)
 clear qu qc
 go_region_with (first
 | (go_at_call_of 181 (Value.slice ka XK.length kc);refine (cK.o _ ?_).mono ?_;(first | exact .inl rfl | exact .inr rfl);rintro e wk ⟨yk,nk,zk,rfl,o1,g1,e1⟩;have hbk:=(HCK.o _ g1).1;have q5:=(World.cell?_of_block (a:=⟨b,p*9+5,none⟩) hbk).trans HQ5.o;have q7:=(World.cell?_of_block (a:=⟨b,p*9+7,none⟩) hbk).trans HQ7.o;have f5:=(World.frozen?_of_block (a:=⟨b,p*9+5,none⟩) hbk).trans (HFZ.o _);have f7:=(World.frozen?_of_block (a:=⟨b,p*9+7,none⟩) hbk).trans (HFZ.o _);have G1:=lH g1;have O1:=lH o1;have E1:=lH e1;clear g1 o1 e1 hbk)
 | (go_at_call_of 181 (Value.slice sa XS.length sc);refine (cS.o _ G1.o).mono ?_;rintro e ws ⟨ys,ns,zs,rfl,o2,g2,e2⟩;have hbk:=(HCS.o _ _ G1.o g2).1;have q5:=(World.cell?_of_block (a:=⟨b,p*9+5,none⟩) hbk).trans HQ5.o;have q7:=(World.cell?_of_block (a:=⟨b,p*9+7,none⟩) hbk).trans HQ7.o;have f5:=(World.frozen?_of_block (a:=⟨b,p*9+5,none⟩) hbk).trans (HFZ.o _);have f7:=(World.frozen?_of_block (a:=⟨b,p*9+7,none⟩) hbk).trans (HFZ.o _);have G2:=lH g2;have O2:=lH o2;have E2:=lH e2;clear g2 o2 e2 hbk))
 all_goals
  go_end0
  have hx:=HEND.o _ _ _ _ O1.o G1.o E1.o O2.o G2.o E2.o
  exact ⟨⟨_,rfl⟩,hx.1,hx.2.1,hx.2.2⟩
theorem zZg (base c:Nat) (d:Dc) (n k:Int) (w:World) (h:Ch base c w d n) (hb:base<=w.heap.size) (hk:isM d k false=true) (hu:isM d (nd d k).up false=true) (hl:(nd d (nd d k).up).kids.length<=1000/\(nd d (nd d k).up).shadow.length<=1000) :
 Calls Tryz.prog 138 #[.pointer (some ⟨c,0,none⟩),.int .i64 k] w fun e w'=>(∃ x,e=.returned x)/\Below base w w'/\Ch base c w' (qZw d k) n:=by
 obtain ⟨v,hK,hbc,hD⟩:=h
 refine (qW3 base c c d n k w ⟨v,hK,hbc,hD.less (fun _ h=>h.elim id id)⟩ hb hk hu hl).mono ?_
 rintro e w' ⟨h1,h2,⟨v',k1,k2,k3⟩,_⟩
 exact ⟨h1,h2,v',k1,k2,k3.less (fun _ h=>.inl h)⟩
end Go.Proofs.YtklbmkaomojciaaGreat

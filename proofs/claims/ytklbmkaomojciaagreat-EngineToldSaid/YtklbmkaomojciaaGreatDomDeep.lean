/- engine.Flush: walked. -/
import Derived.Test.YtklbmkaomojciaaGreatEngFlush1
import Derived.Test.YtklbmkaomojciaaGreatDiffOfW
set_option maxRecDepth 100000
set_option maxHeartbeats 4000000
namespace Go.Proofs.YtklbmkaomojciaaGreat
open Go.RowKit
theorem zBh (args:Array Value) (w:World):(callFunc 85 args).run Tryz.prog w=.ok (.enter 85 args) w:=by kernel_rfl
theorem zVo (memos:List Me) (dirty:List Int) (L:List Int) (n:Int):qX0 memos dirty (L++[n])=if keptM dirty n memos then qX0 memos dirty L else qX0 memos dirty L+1:=by
 unfold qX0
 rw [List.countP_append,List.countP_cons,List.countP_nil]
 cases keptM dirty n memos <;> simp
theorem count_le (memos:List Me) (dirty:List Int) (L:List Int):qX0 memos dirty L<=L.length:=List.countP_le_length
theorem zKm {W0:World} {Bo:Nat->Prop} {m ge gm gc gk:Nat} {dv tv mv iv cv:Value} {d:Dc} {C:List Clm} {memos:List Me} {dirty:List Int} (lim:Nat) (gd:Good d) (hC:ClmOk d C) (hCl:C.length<=1000)
 (hv:qZb m W0 dv d) (hme:qJ3 Bo W0 mv memos) (hi:qKf m W0 iv dirty) (hcl:qQa 2 qVh (·<m) W0 cv C) (hge:ge<m) (hE:Blk W0 ge [dv,tv,mv,iv] 70) (hgc:gc<m) (hCb:Blk W0 gc [cv] 26)
 (kept:∀ x∈memos,qYt x dirty=true->x=meOf x.node (qKv d C x.node)) (hlim:lim<=1000000000) :
 NameOk lim m d (qKv d C) 85 #[.pointer (some ⟨ge,0,none⟩),.pointer (some ⟨gm,0,none⟩),.pointer (some ⟨gc,0,none⟩),.pointer (some ⟨gk,0,none⟩)] (fun L X W=>∃ v,FlE W0 Bo m gm gk X (L.map (fun n=>meOf n (qKv d C n))) (qX0 memos dirty L) v W) where
 enter:=zBh
 lt:=fun L X W h b hb=>by obtain ⟨v,h⟩:=h;exact (h.low b hb).2
 keep:=fun L X W W' h hk=>by obtain ⟨v,h⟩:=h;exact ⟨v,h.keep hk⟩
 call:=fun L X W n h hn hl=>by
  obtain ⟨v,h⟩:=h
  have hc:=count_le memos dirty L
  refine (zJt n h gd (fun c hc=>(qZ8 gd).2 _ (hC.kid c hc).1) hCl hv hme hi hcl hge hE hgc hCb kept (by rw [List.length_map];omega) (by omega)).mono ?_
  rintro e w' ⟨ua,un,uc,v',X',rfl,q1,q2,q3⟩
  refine ⟨ua,un,uc,X',rfl,⟨v',?_⟩,q2,q3⟩
  rw [List.map_append,List.map_cons,List.map_nil,zVo]
  exact q1
theorem qD2 {d:Dc} (g:Good d):∀ x∈d,x.attrs.length<=1000/\x.kids.length<=1000/\x.shadow.length<=1000:=fun x hx=>by
 obtain ⟨i,hi,rfl⟩:=List.getElem_of_mem hx
 have:=qK1 g (i:Int)
 rw [qQ2 hi] at this
 omega
theorem OfAt.base_le {base base' k:Nat} {w:World} {y:Value} {a b:List It} (h:OfAt base k w y a b) (hb:base'<=base):OfAt base' k w y a b:=by
 unfold OfAt at h ⊢
 split
 ·rename_i hA
  rw [if_pos hA] at h
  obtain ⟨hd,ks,g,v,h1,h2,h3,h4,h5⟩:=h
  exact ⟨hd,ks,g,v,h1,h2,Za hb h3,h4,h5.mono (fun x hx=>⟨Za hb hx.1,hx.2⟩)⟩
 ·rename_i hA
  rw [if_neg hA] at h
  exact qQb.base_le h hb
theorem OfAt.agree {base k:Nat} {w w':World} {y:Value} {a b:List It} (h:OfAt base k w y a b) (hs:w.heap.size<=w'.heap.size) (ha:∀ x,base<=x->x<w.heap.size->w'.heap[x]?=w.heap[x]?):OfAt base k w' y a b:=by
 unfold OfAt at h ⊢
 split
 ·rename_i hA
  rw [if_pos hA] at h
  obtain ⟨hd,ks,g,v,h1,h2,h3,h4,h5⟩:=h
  exact ⟨hd,ks,g,v,h1,h2,h3,h4.of (ha g h3 h4.lt),(h5.agree (fun x hx=>ha x hx.1 hx.2)).mono (fun x hx=>⟨hx.1,Zc hx.2 hs⟩)⟩
 ·rename_i hA
  rw [if_neg hA] at h
  exact qQb.agree h (fun b hb=>ha b (h.lt b hb).1 (h.lt b hb).2) (fun _ _ _ h=>h)
theorem OfAt.form {base k:Nat} {w:World} {y:Value} {a b:List It} (h:OfAt base k w y a b):∃ ya yn yc,y=.slice ya yn yc:=by
 unfold OfAt at h
 split at h
 ·obtain ⟨hd,ks,g,v,h1,h2,_⟩:=h
  exact ⟨_,_,_,h2⟩
 ·obtain ⟨ya,yc,e,_⟩:=Rf h.read
  exact ⟨_,_,_,e⟩
theorem qHl {Bo:Nat->Prop} {m:Nat} {dv tv mv iv:Value} {E:Eng} {w:World} (hd:qZb m w dv E.doc) (ht:ItsK (·<m) 100 w tv E.told) (hme:qJ3 Bo w mv E.memos) (hlo:∀ b,Bo b->b<m) (hi:qKf m w iv E.dirty) (hm:m<=w.heap.size) (ok:EngOk E) :
 Calls Tryz.prog 48 #[.agg #[dv,tv,mv,iv]] w (Rn w fun w' y=>∃ dv' tv' mv' ev,y=.tuple #[.agg #[dv',tv',mv',.slice none 0 0],ev,.int .i64 (qX0 E.memos E.dirty (qVl E.doc))] /\
  qJ4 (fun b=>w.heap.size<=b/\b<w'.heap.size) w' dv' E.doc/\ItsK (fun b=>w.heap.size<=b/\b<w'.heap.size) 100 w' tv' (qXl E.doc)/\qJ3 (fun b=>(Bo b∨w.heap.size<=b)/\b<w'.heap.size) w' mv' ((qVl E.doc).map (qVn E.doc))/\OfAt w.heap.size 100 w' ev E.told (qXl E.doc)):=by
 have hA:=ok.alike
 have hA2:=(qXy ok).alike
 have gd:=ok.good
 have kept:=ok.kept
 have few:=ok.few
 have huses:=ok.uses
 have hdl:=zYu ok.once ok.range
 clear ok
 obtain ⟨d,told,memos,dirty⟩:=E
 simp only at *
 obtain ⟨hA,hTl⟩:=hA
 obtain ⟨da,dc,rfl,_,_⟩:=Rf hd
 obtain ⟨ta,tc,rfl,_,_⟩:=Rf ht
 obtain ⟨ma,mc,rfl,_,_⟩:=Rf hme
 obtain ⟨ia,ic,rfl,_,_⟩:=Rf hi
 have hC:=zJh gd
 have hCl:(qZ0 d).length<=1000:=Za (qHg gd hC) (by omega)
 have hdA:=qD2 gd
 have hd60:=gd.len
 obtain ⟨w1,hw1⟩:∃ w1,w1=(w.alloc (.cells #[.slice da d.length dc,.slice ta told.length tc,.slice ma memos.length mc,.slice ia dirty.length ic] 70)).alloc (.cells #[.slice none 0 0,.slice none 0 0,.slice none 0 0,.slice none 0 0] 70):=⟨_,rfl⟩
 have hB1:Bel w w1:=by rw [hw1];exact ((Br w).alloc _).alloc _
 have hK1:Blk w1 w.heap.size [.slice da d.length dc,.slice ta told.length tc,.slice ma memos.length mc,.slice ia dirty.length ic] 70:=by rw [hw1];exact (Blk.new' w _ rfl _ _).bel ((Br _).alloc _)
 have hK2:Blk w1 (w.heap.size+1) [.slice none 0 0,.slice none 0 0,.slice none 0 0,.slice none 0 0] 70:=by rw [hw1];exact Blk.new' _ _ (by simp) _ _
 have cO:Hi (∀ W,Bel w1 W->Calls Tryz.prog 84 #[.agg #[.slice da d.length dc,.slice ta told.length tc,.slice ma memos.length mc,.slice ia dirty.length ic]] W (Rn W fun w' y=>∃ dv' tv' mv' iv',y=.agg #[dv',tv',mv',iv']/\qJ4 (fun b=>(W.heap.size<=b/\b<w'.heap.size)/\iv'.ownBlock≠some b) w' dv' d/\ItsK (fun b=>(W.heap.size<=b/\b<w'.heap.size)/\iv'.ownBlock≠some b) 100 w' tv' told/\qJ3 (fun b=>(W.heap.size<=b/\b<w'.heap.size)/\iv'.ownBlock≠some b) w' mv' memos/\qQb 1 qQf W.heap.size 3 w' iv' dirty)):=lH (fun W hW=>by
  have hBW:=Bt hB1 hW
  exact qXx (hd.later hBW hm) (ht.later hBW hm) ((hme.mono (fun b hb=>hlo b hb)).later hBW hm) (qQa.later hi qQc hBW hm) (Za hm hBW.size) (by omega) hdA (by omega) (by omega) (fun x hx=>by have:=huses x hx;omega) (by omega))
 have cC:Hi (∀ W,Bel w1 W->Calls Tryz.prog 72 #[.slice da d.length dc] W (Rn W fun w' y=>qQb 2 qVh W.heap.size 91 w' y (qZ0 d))):=lH (fun W hW=>qGn m _ d W (hd.later (Bt hB1 hW) hm) (Za hm (Bt hB1 hW).size) gd)
 have HB1:=lH hB1
 have HK1:=lH hK1
 have HK2:=lH hK2
 have HD:=lH hd
 have HT:=lH ht
 have HME:=lH hme
 have HI:=lH hi
 have HKPT:=lH kept
 have HC:=lH hC
 have HA:=lH hA
 clear hd ht hme hi hB1 hK1 hK2 hdA huses kept hC hA
 go_enter Tryz.func48,Tryz.ntmps48
 go_upto_region 1 with fail
 rw [<- hw1]
 clear hw1
 have k0:=HK1.o.cell 0
 have k1:=HK1.o.cell 1
 have k2:=HK1.o.cell 2
 have k3:=HK1.o.cell 3
 simp only [Zd,Ze] at k0 k1 k2 k3
 go_upto_region 2 with (go_at_call 84;(with_reducible refine (cO.o _ (Br _)).mono ?_);rintro e w3 ⟨b3,v3,rfl,dv3,tv3,mv3,iv3,rfl,o3,p3,q3,r3⟩;obtain ⟨dva,dvc,rfl,_,_⟩:=Rf o3;obtain ⟨tva,tvc,rfl,_,_⟩:=Rf p3;obtain ⟨mva,mvc,rfl,_,_⟩:=Rf q3;obtain ⟨iva,ivc,rfl,_,_⟩:=Rf r3.read;have HB3:=lH b3;have HD3:=lH o3;clear b3 o3 p3 q3 r3)
 clear k0 k1 k2 k3
 have hB4:Bel w3 (w3.alloc (.cells #[.slice dva d.length dvc,.slice tva told.length tvc,.slice mva memos.length mvc,.slice iva dirty.length ivc] 70)):=(Br w3).alloc _
 have hK4:Blk (w3.alloc (.cells #[.slice dva d.length dvc,.slice tva told.length tvc,.slice mva memos.length mvc,.slice iva dirty.length ivc] 70)) w3.heap.size [.slice dva d.length dvc,.slice tva told.length tvc,.slice mva memos.length mvc,.slice iva dirty.length ivc] 70:=Blk.new' w3 _ rfl _ _
 have HB4:=lH hB4
 have HK4:=lH hK4
 clear hB4 hK4
 generalize (w3.alloc (.cells #[.slice dva d.length dvc,.slice tva told.length tvc,.slice mva memos.length mvc,.slice iva dirty.length ivc] 70))=w4 at *
 have k0:=(HK1.o.bel (Bt HB3.o HB4.o)).cell 0
 simp only [Zd] at k0
 go_upto_region 3 with (go_at_call 72;(with_reducible refine (cC.o _ (Bt HB3.o HB4.o)).mono ?_);rintro e w5 ⟨b5,y5,rfl,o5⟩;obtain ⟨ca,cc,rfl,_,_⟩:=Rf o5.read;have HB5:=lH b5;have HC5:=lH o5;clear b5 o5)
 clear k0
 have hB6:Bel w5 (w5.alloc (.cells #[.slice ca (qZ0 d).length cc] 26)):=(Br w5).alloc _
 have hK6:Blk (w5.alloc (.cells #[.slice ca (qZ0 d).length cc] 26)) w5.heap.size [.slice ca (qZ0 d).length cc] 26:=Blk.new' w5 _ rfl _ _
 have HB6:=lH hB6
 have HK6:=lH hK6
 clear hB6 hK6
 generalize (w5.alloc (.cells #[.slice ca (qZ0 d).length cc] 26))=w6 at *
 go_upto_region 5 with fail
 have hB8:Bel w6 ((w6.alloc (.cells #[.slice none 0 0] 68)).alloc (.cells #[.int .i64 0] 3)):=((Br w6).alloc _).alloc _
 have hKm:Blk ((w6.alloc (.cells #[.slice none 0 0] 68)).alloc (.cells #[.int .i64 0] 3)) w6.heap.size [.slice none 0 0] 68:=(Blk.new' w6 _ rfl _ _).bel ((Br _).alloc _)
 have hKk:Blk ((w6.alloc (.cells #[.slice none 0 0] 68)).alloc (.cells #[.int .i64 0] 3)) (w6.heap.size+1) [.int .i64 ((0:Nat):Int)] 3:=Blk.new' _ _ (by simp) #[.int .i64 0] _
 have hs8:((w6.alloc (.cells #[.slice none 0 0] 68)).alloc (.cells #[.int .i64 0] 3)).heap.size=w6.heap.size+2:=by simp
 generalize ((w6.alloc (.cells #[.slice none 0 0] 68)).alloc (.cells #[.int .i64 0] 3))=w8 at *
 have h16:Bel w w6:=Bt HB1.o (Bt HB3.o (Bt HB4.o (Bt HB5.o HB6.o)))
 have hm6:m<=w6.heap.size:=Za hm h16.size
 have hD6:qZb w6.heap.size w6 (.slice da d.length dc) d:=HD.o.up h16 hm
 have hI6:qKf w6.heap.size w6 (.slice ia dirty.length ic) dirty:=(qQa.later HI.o qQc h16 hm).mono (fun _ h=>Zc h hm6) (fun _ _ _ h=>h)
 have hC6:qQa 2 qVh (·<w6.heap.size) w6 (.slice ca (qZ0 d).length cc) (qZ0 d):=(HC5.o.read.later qZh HB6.o (Zb _)).mono (fun _ h=>by have:=HB6.o.size;omega) (fun _ _ _ h=>h)
 have hlt0:w.heap.size<w6.heap.size:=by have:=HK1.o.lt;have:=HB3.o.size;have:=HB4.o.size;have:=HB5.o.size;have:=HB6.o.size;omega
 have hlt3:w3.heap.size<w6.heap.size:=by have:=HK4.o.lt;have:=HB5.o.size;have:=HB6.o.size;omega
 have hE6:=(HK1.o.bel (Bt HB3.o (Bt HB4.o (Bt HB5.o HB6.o))))
 have N:=zKm (gm:=w6.heap.size) (gk:=w6.heap.size+1) (qVl d).length gd HC.o hCl hD6 (HME.o.agree (fun b hb=>h16.block b (Zc (hlo b hb) hm))) hI6 hC6 hlt0 hE6 HK6.o.lt HK6.o HKPT.o (by have:=zVb gd;omega)
 have hFl:FlE w6 Bo w6.heap.size w6.heap.size (w6.heap.size+1) (fun b=>b=w6.heap.size∨b=w6.heap.size+1) [] 0 (.slice none 0 0) w8:=⟨Kp.of_bel hB8,Zb _,(fun b hb=>Zc (hlo b hb) hm6),.inl rfl,.inr rfl,by omega,hKm,hKk,fun b hb=>by rcases hb with h | h <;> omega,qQb.nil _ _ _,fun b hb=>by cases hb⟩
 have cW:=lH (zQf N gd HC.o hCl [] (fun b=>b=w6.heap.size∨b=w6.heap.size+1) w8 (hD6.later hB8 (Zb _)) (hC6.later qZh hB8 (Zb _)) hB8.size ⟨_,hFl⟩ (fun b hb=>by rcases hb with h | h <;> omega) (by simp [qVl]))
 have k0:=(hE6.bel hB8).cell 0
 have k1:=(HK6.o.bel hB8).cell 0
 simp only [Zd] at k0 k1
 have HB8:=lH hB8
 have HE6:=lH hE6
 have H16:=lH h16
 have HS8:=lH hs8
 have HL0:=lH hlt0
 have HL3:=lH hlt3
 clear hB8 hE6 h16 N hFl hC6 hI6 hD6 hKm hKk hs8 hlt0 hlt3 hm6 cO cC
 go_upto_region 6 with (go_at_call 73;(with_reducible refine cW.o.mono ?_);rintro e w9 ⟨y,X',rfl,⟨v9,i9⟩,k9,x9,r9⟩;have HX9:=lH x9;have HK9:=lH k9;have HF9:=lH i9;have HR9:=lH r9;clear i9 k9 x9 r9)
 clear k0 k1
 have hR9:ItsK (fun b=>w8.heap.size<=b/\b<w9.heap.size/\¬ X' b) 100 w9 y (qXl d):=HR9.o
 have hF9:FlE w6 Bo w6.heap.size w6.heap.size (w6.heap.size+1) X' ((qVl d).map (qVn d)) (qX0 memos dirty (qVl d)) v9 w9:=HF9.o
 obtain ⟨ya,yc,rfl,_,_⟩:=Rf hR9
 obtain ⟨va,vc,rfl,_,_⟩:=Rf hF9.row.read
 have hB69:Bel w6 w9:=⟨HK9.o.os.trans HB8.o.os,HK9.o.tape.trans HB8.o.tape,HK9.o.output.trans HB8.o.output,Za HB8.o.size HK9.o.size,fun b hb=>(HK9.o.block b (Zc hb HB8.o.size) (by rintro (h | h) <;> omega)).trans (HB8.o.block b hb)⟩
 have h09:=Bt H16.o hB69
 have k1:=(HE6.o.bel hB69).cell 1
 simp only [Zd,Ze] at k1
 have cDf:=lH (zKx (n:=w9.heap.size) (k:=100) ((HT.o.later h09 hm).mono (fun b hb=>Zc (Zc hb hm) h09.size)) (hR9.mono (fun b hb=>hb.2.1)) (Zb _) HA.o hA2.1 (by have h2:(nodesL (qXl d)).length<=60:=hA2.2;rw [Zj];omega))
 have HR9':=lH hR9
 have HF9':=lH hF9
 have HB69:=lH hB69
 clear hR9 hF9 hB69 h09 HR9 HF9 cW
 generalize hTT:qXl d=TT at *
 have HTT:=lH hTT
 clear hTT
 generalize hMM:(qVl d).map (qVn d)=MM at *
 generalize hCC:qX0 memos dirty (qVl d)=CC at *
 have HMM:=lH hMM
 have HCC:=lH hCC
 clear hMM hCC
 go_upto_region 7 with (go_at_call 89;(with_reducible refine cDf.o.mono ?_);rintro e w10 ⟨b10,ev,rfl,o10⟩;obtain ⟨ea,en,ec,rfl⟩:=o10.form;have HB10:=lH b10;have HV10:=lH o10;clear b10 o10)
 clear k1
 have HF10:=lH (HF9'.o.bel HB10.o)
 have HK10:=lH (HK4.o.bel (Bt HB5.o (Bt HB6.o (Bt HB69.o HB10.o))))
 have n0:=HK10.o.cell 0
 have n1:=HK10.o.cell 1
 have n2:=HK10.o.cell 2
 have n3:=HK10.o.cell 3
 have f1:=HK10.o.frozen 1
 have f2:=HK10.o.frozen 2
 have f3:=HK10.o.frozen 3
 have qm:=HF10.o.bm.cell 0
 simp only [Zd,Ze] at n0 n1 n2 n3 qm
 have hne:w3.heap.size≠w6.heap.size:=by have:=HL3.o;omega
 have hK12:Blk (((w10.setCell ⟨w3.heap.size,1,none⟩ (.slice ya TT.length yc)).setCell ⟨w3.heap.size,2,none⟩ (.slice va MM.length vc)).setCell ⟨w3.heap.size,3,none⟩ (.slice none 0 0)) w3.heap.size [.slice dva d.length dvc,.slice ya TT.length yc,.slice va MM.length vc,.slice none 0 0] 70:=((HK10.o.set 1 _).set 2 _).set 3 _
 have hF12:FrE w3.heap.size w10 (((w10.setCell ⟨w3.heap.size,1,none⟩ (.slice ya TT.length yc)).setCell ⟨w3.heap.size,2,none⟩ (.slice va MM.length vc)).setCell ⟨w3.heap.size,3,none⟩ (.slice none 0 0)):=(((FrE.refl _ w10).set _).set _).set _
 have HK12:=lH hK12
 have HF12:=lH hF12
 clear hK12 hF12
 go_region
 refine qJg (E:=fun W'=>Blk W' w3.heap.size [.slice dva d.length dvc,.slice ya TT.length yc,.slice va MM.length vc,.slice none 0 0] 70/\FrE w3.heap.size w10 W') ⟨HK12.o,⟨HF12.o.os,HF12.o.tape,HF12.o.output,HF12.o.size,HF12.o.block⟩⟩ ?_
 clear HK12 HF12 n0 n1 n2 n3 f1 f2 f3 qm hne
 rintro w12 ⟨hK12,hF12⟩
 have HK12:=lH hK12
 have HF12:=lH hF12
 clear hK12 hF12
 go_upto_region 8 with fail
 have L0:=HL0.o
 have L3:=HL3.o
 have S69:=HB69.o.size
 have S910:=HB10.o.size
 have S1:w.heap.size+1<w1.heap.size:=HK2.o.lt
 have S13:=HB3.o.size
 have hkk:=HF10.o.bk.of (HF12.o.block (w6.heap.size+1) HF10.o.bk.lt (by omega))
 have HKK:=lH hkk
 clear hkk
 have qk:=HKK.o.cell 0
 have n0:=HK12.o.cell 0
 have n1:=HK12.o.cell 1
 have n2:=HK12.o.cell 2
 have n3:=HK12.o.cell 3
 have hR:=(((HK2.o.bel (Bt HB3.o (Bt HB4.o (Bt HB5.o HB6.o)))).bel HB69.o).bel HB10.o).of (HF12.o.block (w.heap.size+1) (by omega) (by omega))
 have m0:=hR.cell 0
 have m1:=hR.cell 1
 have m2:=hR.cell 2
 have m3:=hR.cell 3
 have mf0:=hR.frozen 0
 have mf1:=hR.frozen 1
 have mf2:=hR.frozen 2
 have mf3:=hR.frozen 3
 simp only [Zd,Ze] at qk n0 n1 n2 n3 m0 m1 m2 m3
 have hne1:w.heap.size+1≠w3.heap.size:=by omega
 have hne2:w.heap.size+1≠w6.heap.size+1:=by omega
 have HRZ:Hi (Blk ((((w12.setCell ⟨w.heap.size+1,0,none⟩ (.slice dva d.length dvc)).setCell ⟨w.heap.size+1,1,none⟩ (.slice ya TT.length yc)).setCell ⟨w.heap.size+1,2,none⟩ (.slice va MM.length vc)).setCell ⟨w.heap.size+1,3,none⟩ (.slice none 0 0)) (w.heap.size+1) [.slice dva d.length dvc,.slice ya TT.length yc,.slice va MM.length vc,.slice none 0 0] 70):=lH ((((hR.set 0 _).set 1 _).set 2 _).set 3 _)
 have HFZ:Hi (FrE (w.heap.size+1) w12 ((((w12.setCell ⟨w.heap.size+1,0,none⟩ (.slice dva d.length dvc)).setCell ⟨w.heap.size+1,1,none⟩ (.slice ya TT.length yc)).setCell ⟨w.heap.size+1,2,none⟩ (.slice va MM.length vc)).setCell ⟨w.heap.size+1,3,none⟩ (.slice none 0 0))):=lH (((((FrE.refl _ w12).set _).set _).set _).set _)
 clear hR
 go_region
 refine qJg (E:=fun W'=>Blk W' (w.heap.size+1) [.slice dva d.length dvc,.slice ya TT.length yc,.slice va MM.length vc,.slice none 0 0] 70/\FrE (w.heap.size+1) w12 W') ⟨HRZ.o,⟨HFZ.o.os,HFZ.o.tape,HFZ.o.output,HFZ.o.size,HFZ.o.block⟩⟩ ?_
 clear HRZ HFZ qk n0 n1 n2 n3 m0 m1 m2 m3 mf0 mf1 mf2 mf3
 rintro wz ⟨hRZ,hFZ⟩
 have HRZ:=lH hRZ
 have HFZ:=lH hFZ
 clear hRZ hFZ
 go_wp2
 obtain ⟨dd,hd1,hd2⟩:=qVf
 have Z1:=HF12.o.size
 have Z3:=HFZ.o.size
 have Z4:=H16.o.size
 have B010:Bel w w10:=Bt H16.o (Bt HB69.o HB10.o)
 have B310:Bel w3 w10:=Bt HB4.o (Bt HB5.o (Bt HB6.o (Bt HB69.o HB10.o)))
 have hBz:Bel w wz:=HFZ.o.bel (HF12.o.bel B010 (by omega)) (by omega)
 have hgo:∀ b,b<w10.heap.size->b≠w3.heap.size->b≠w.heap.size+1->wz.heap[b]?=w10.heap[b]?:=fun b h1 h2 h3=>(HFZ.o.block b (by omega) h3).trans (HF12.o.block b h1 h2)
 have hDF:qJ4 (fun b=>w.heap.size<=b/\b<wz.heap.size) wz (.slice dva d.length dvc) d:=(HD3.o.agree (fun b hb=>(hgo b (by omega) (by omega) (by omega)).trans (B310.block b hb.1.2))).mono (fun b hb=>⟨by omega,by have:=B310.size;omega⟩)
 have hTF:ItsK (fun b=>w.heap.size<=b/\b<wz.heap.size) 100 wz (.slice ya TT.length yc) TT:=(HR9'.o.agree (fun b hb=>(hgo b (by omega) (by have:=HS8.o;omega) (by have:=HS8.o;omega)).trans (HB10.o.block b hb.2.1))).mono (fun b hb=>⟨by have:=HS8.o;omega,by omega⟩)
 have hMF:qJ3 (fun b=>(Bo b∨w.heap.size<=b)/\b<wz.heap.size) wz (.slice va MM.length vc) MM:=by
  have h0:=HF10.o.row.redo (rd':=rdMe (fun b=>(Bo b∨w.heap.size<=b)/\b<wz.heap.size)) (w':=wz) (fun b hb=>by have q:=HF10.o.low b (HF10.o.own b hb).1;exact hgo b q.2 (by omega) (by omega)) (fun cs y _ hr=>(hr.agree (fun b hb=>by
   rcases hb with hb | hb
   ·have:=hlo b hb;exact hgo b (by omega) (by omega) (by omega)
   ·have q:=HF10.o.low b hb.1;exact hgo b q.2 (by omega) (by omega))).mono (fun b hb=>by
   rcases hb with hb | hb
   ·exact ⟨.inl hb,by have:=hlo b hb;omega⟩
   ·have q:=HF10.o.low b hb.1;exact ⟨.inr (by omega),by omega⟩))
  exact h0.row.mono (fun b hb=>⟨.inr (by have:=hb.1;omega),by have:=hb.2.1;omega⟩) (fun _ _ _ h=>h)
 have hOf:OfAt w.heap.size 100 wz (.slice ea en ec) told TT:=(HV10.o.agree (by omega) (fun x h1 h2=>hgo x h2 (by omega) (by omega))).base_le (by omega)
 refine bodyPost_ret (qZ3 rfl _ _ (w.heap.size+1) _ _ _ dd rfl HRZ.o hd1 (by revert hd2;cases dd <;> intro h <;> exact h) (by kernel_rfl)) rfl ?_
 obtain rfl:=HTT.o
 obtain rfl:=HMM.o
 obtain rfl:=HCC.o
 exact ⟨hBz,_,rfl,_,_,_,_,rfl,hDF,hTF,hMF,hOf⟩
end Go.Proofs.YtklbmkaomojciaaGreat
set_option maxRecDepth 100000
set_option maxHeartbeats 2000000
namespace Go.Proofs.YtklbmkaomojciaaGreat
open Go.RowKit
theorem root_in (w:World) (g:Nat) (hg:g=w.heap.size):qJ4 (fun b=>w.heap.size<=b/\b<g+1) (w.alloc (.cells #[.bool true,.string ⟨#[109,97,105,110]⟩,.string ⟨#[]⟩,.slice none 0 0,.int .i64 (-1),.slice none 0 0,.bool false,.slice none 0 0,.bool false] 65)) (.slice (some ⟨g,0,none⟩) 1 1) rootD:=by
 have hb:=Blk.new' w g hg #[.bool true,.string ⟨#[109,97,105,110]⟩,.string ⟨#[]⟩,.slice none 0 0,.int .i64 (-1),.slice none 0 0,.bool false,.slice none 0 0,.bool false] 65
 refine .inr ⟨g,0,1,rfl,by decide,by omega,fun i hi=>?_⟩
 obtain rfl:i=0:=by simp [rootD] at hi;exact hi
 refine ⟨by omega,_,?_,fun j u hu=>?_,⟨.slice none 0 0,.slice none 0 0,.slice none 0 0,rfl,qQa.nil,qQa.nil,qQa.nil⟩⟩
 ·rfl
 ·rw [hb.cell]
  simpa [rootD,mainT] using hu
theorem zGg (w:World):Calls Tryz.prog 92 #[] w (Rn w fun w' y=>qJ4 (fun b=>w.heap.size<=b/\b<w'.heap.size) w' y rootD):=by
 have hr0:=root_in w w.heap.size rfl
 have hB0:Bel w (w.alloc (.cells #[.bool true,.string ⟨#[109,97,105,110]⟩,.string ⟨#[]⟩,.slice none 0 0,.int .i64 (-1),.slice none 0 0,.bool false,.slice none 0 0,.bool false] 65)):=(Br w).alloc _
 have HR0:=lH hr0
 have HB0:=lH hB0
 clear hr0 hB0
 go_enter Tryz.func92,Tryz.ntmps92
 go_wp2
 go_ret
 exact ⟨HB0.o,_,rfl,by have:=HR0.o;simpa using this⟩
theorem qVs (w:World):Calls Tryz.prog 51 #[] w (Rn w fun w' y=>∃ dv,y=.agg #[dv,.slice none 0 0,.slice none 0 0,.slice none 0 0]/\qJ4 (fun b=>w.heap.size<=b/\b<w'.heap.size) w' dv rootD):=by
 have hB0:Bel w (w.alloc (.cells #[.slice none 0 0,.slice none 0 0,.slice none 0 0,.slice none 0 0] 70)):=(Br w).alloc _
 have hK0:Blk (w.alloc (.cells #[.slice none 0 0,.slice none 0 0,.slice none 0 0,.slice none 0 0] 70)) w.heap.size [.slice none 0 0,.slice none 0 0,.slice none 0 0,.slice none 0 0] 70:=Blk.new' w _ rfl _ _
 have HB0:=lH hB0
 have HK0:=lH hK0
 clear hB0 hK0
 go_enter Tryz.func51,Tryz.ntmps51
 go_upto_region 1 with fail
 generalize (w.alloc (.cells #[.slice none 0 0,.slice none 0 0,.slice none 0 0,.slice none 0 0] 70))=w1 at *
 go_wp2_with (go_at_call 92;(with_reducible refine (zGg _).mono ?_);rintro e w2 ⟨b2,u1,rfl,o1⟩;obtain ⟨na,nc,rfl,_,_⟩:=Rf o1;have HD:=lH o1;have HB2:=lH b2;have hk:=HK0.o.bel b2;have k0:=hk.cell 0;have k1:=hk.cell 1;have k2:=hk.cell 2;have k3:=hk.cell 3;have f0:=hk.frozen 0;have f1:=hk.frozen 1;have f2:=hk.frozen 2;have f3:=hk.frozen 3;simp only [Zd,Ze] at k0 k1 k2 k3;have HK2:=lH hk;clear b2 o1 hk)
 have HRZ:Hi (Blk ((((w2.setCell ⟨w.heap.size,0,none⟩ (.slice na rootD.length nc)).setCell ⟨w.heap.size,1,none⟩ (.slice none 0 0)).setCell ⟨w.heap.size,2,none⟩ (.slice none 0 0)).setCell ⟨w.heap.size,3,none⟩ (.slice none 0 0)) w.heap.size [.slice na rootD.length nc,.slice none 0 0,.slice none 0 0,.slice none 0 0] 70):=lH ((((HK2.o.set 0 _).set 1 _).set 2 _).set 3 _)
 have HFZ:Hi (FrE w.heap.size w2 ((((w2.setCell ⟨w.heap.size,0,none⟩ (.slice na rootD.length nc)).setCell ⟨w.heap.size,1,none⟩ (.slice none 0 0)).setCell ⟨w.heap.size,2,none⟩ (.slice none 0 0)).setCell ⟨w.heap.size,3,none⟩ (.slice none 0 0))):=lH (((((FrE.refl _ w2).set _).set _).set _).set _)
 generalize ((((w2.setCell ⟨w.heap.size,0,none⟩ (.slice na rootD.length nc)).setCell ⟨w.heap.size,1,none⟩ (.slice none 0 0)).setCell ⟨w.heap.size,2,none⟩ (.slice none 0 0)).setCell ⟨w.heap.size,3,none⟩ (.slice none 0 0))=wz at *
 obtain ⟨dd,hd1,hd2⟩:=qVf
 have S6:=HFZ.o.size
 have S1:=HK0.o.lt
 have S0:=HB0.o.size
 have hDF:qJ4 (fun b=>w.heap.size<=b/\b<wz.heap.size) wz (.slice na rootD.length nc) rootD:=(HD.o.agree (fun b hb=>HFZ.o.block b (by omega) (by omega))).mono (fun b hb=>⟨by omega,by omega⟩)
 have hBz:Bel w wz:=HFZ.o.bel (Bt HB0.o HB2.o) (by omega)
 refine bodyPost_ret (results_cell_row rfl _ _ w.heap.size _ _ _ dd rfl HRZ.o hd1 (by revert hd2;cases dd <;> intro h <;> exact h) (by kernel_rfl)) rfl ?_
 exact ⟨hBz,_,rfl,_,rfl,hDF⟩
end Go.Proofs.YtklbmkaomojciaaGreat
set_option maxRecDepth 100000
set_option maxHeartbeats 4000000
namespace Go.Proofs.YtklbmkaomojciaaGreat
open Go.RowKit
theorem zXn (s:Txt):(qYx.contains s=true/\(s=altT∨s=labelT∨s=titleT∨s=valueT∨s=alvlT∨s=qVc∨s=qVo∨s=chkT))∨(qYx.contains s=false/\(s==altT)=false/\(s==labelT)=false/\(s==titleT)=false/\(s==valueT)=false/\(s==alvlT)=false/\(s==qVc)=false/\(s==qVo)=false/\(s==chkT)=false):=by
 cases h:qYx.contains s with
 | true=>
   left
   refine ⟨rfl,?_⟩
   have:=List.contains_iff_mem.1 h
   simpa [qYx] using this
 | false=>
   right
   refine ⟨rfl,?_⟩
   have h2:s∉qYx:=fun h3=>by rw [List.contains_iff_mem.2 h3] at h;cases h
   simp only [qYx,List.mem_cons,List.not_mem_nil,or_false,not_or] at h2
   simpa only [beq_eq_false_iff_ne] using h2
theorem qYv (x:Chg) (w:World) :
 Calls Tryz.prog 50 #[.agg #[.int .i64 x.kind,.int .i64 x.node,.int .i64 x.dest,.int .i64 x.before,.string ⟨x.name.toArray⟩,.string ⟨x.value.toArray⟩]] w (Rb (.bool (qKk x)) w):=by
 obtain ⟨k,n,d,b,nm,vl⟩:=x
 obtain ⟨w1,hw1⟩:∃ w1,w1=w.alloc (.cells #[.int .i64 k,.int .i64 n,.int .i64 d,.int .i64 b,.string ⟨nm.toArray⟩,.string ⟨vl.toArray⟩] 40):=⟨_,rfl⟩
 have hB:Bel w w1:=by rw [hw1];exact (Br w).alloc _
 have hK:Blk w1 w.heap.size [.int .i64 k,.int .i64 n,.int .i64 d,.int .i64 b,.string ⟨nm.toArray⟩,.string ⟨vl.toArray⟩] 40:=by rw [hw1];exact Blk.new' w _ rfl _ _
 have c0:=hK.cell 0
 have c4:=hK.cell 4
 simp only [Zd,Ze] at c0 c4
 have HB:=lH hB
 obtain ⟨R,hR⟩:∃ R,R=qKk ⟨k,n,d,b,nm,vl⟩:=⟨_,rfl⟩
 rw [<- hR]
 unfold qKk at hR
 simp only at hR
 have hk:k=7∨k=5∨k=6∨(k≠7/\k≠5/\k≠6):=by omega
 have hn:=zXn nm
 clear hB hK
 rcases hk with rfl | rfl | rfl | ⟨h7,h5,h6⟩
 case' inl=>
  have HR:Hi (R=true):=lH (by rw [hR];rfl)
  clear hn
 case' inr.inl=>
  rcases hn with ⟨hc,rfl | rfl | rfl | rfl | rfl | rfl | rfl | rfl⟩ | ⟨hc,n1,n2,n3,n4,n5,n6,n7,n8⟩
 case' inr.inr.inl=>
  rcases hn with ⟨hc,rfl | rfl | rfl | rfl | rfl | rfl | rfl | rfl⟩ | ⟨hc,n1,n2,n3,n4,n5,n6,n7,n8⟩
 case' inr.inr.inr=>
  have e7:(k==7)=false:=by simpa using h7
  have e5:(k==5)=false:=by simpa using h5
  have e6:(k==6)=false:=by simpa using h6
  have HR:Hi (R=false):=lH (by rw [hR,e7,e5,e6];rfl)
  clear hn h7 h5 h6
 all_goals
  first
   | (rw [hc] at hR;have HR:=lH hR;clear hc hR;unfold altT labelT titleT valueT alvlT qVc qVo chkT at *)
   | (rw [hc] at hR;have HR:=lH hR;clear hc hR)
   | clear hR
  go_enter Tryz.func50,Tryz.ntmps50
  go_upto_region 1 with fail
  rw [<- hw1]
  clear hw1
  go_wp2
  go_ret
  exact ⟨by rw [HR.o];rfl,HB.o⟩
end Go.Proofs.YtklbmkaomojciaaGreat
set_option maxRecDepth 100000
set_option maxHeartbeats 1000000
namespace Go.Proofs.YtklbmkaomojciaaGreat
open Go.RowKit
theorem qY6 (m:Nat) (v:Value) (d:Dc) (n:Int) (w:World) (R:Nat) (r:Int->Nat) (hv:qZb m w v d) (g:G0 qQk R r d) (hn:isM d n false=true) (hd:d.length<=1000) :
 Calls Tryz.prog 199 #[v,.int .i64 n] w (Rv (.int .i64 (r n)) w):=by
 obtain ⟨a1,cap1,rfl,h1,h2⟩:=Rf hv
 have HV:=lH hv
 have hrl:=zQ6 g hn
 have HR0:=lH g.rank0
 have HRK:Hi (∀ x,isM d x false=true->x≠0->isM d (nd d x).up false=true/\r x=r (nd d x).up+1):=lH (fun x hx h0=>⟨g.upIs hx h0 (fun h=>h),(g.rank x hx).2 h0 (fun h=>h)⟩)
 have HU0:Hi ((nd d 0).up = -1):=lH g.root.2.2.1
 clear hv g
 go_enter Tryz.func199,Tryz.ntmps199
 go_wp2
 go_loopw [1,5] (fun z c wr=>∃ (x:Int) (k:Nat),z=.int .i64 x/\c=.int .i64 k/\isM d x false=true/\k+r x=r n/\w=wr) (fun z _ _=>r (intOf z))
 case atStart=>exact ⟨n,0,rfl,rfl,hn,by omega,rfl⟩
 case round=>
  obtain ⟨x,k,rfl,rfl,hx,hk,rfl⟩:=hrel
  have HI:=lH (qQ6 m _ d x false w HV.o)
  rw [hx] at HI
  by_cases h0:x=0
  ·subst h0
   have hpos:=(qJo hx).1
   obtain ⟨b,off,cap',av,kv,sv,e1,-,-,hbb,hN⟩:=HV.o.node 0 (by simpa using hpos)
   simp at e1
   obtain ⟨rfl,rfl⟩:=e1
   have c4:=hN.up
   have hu:(d[0]'(by simpa using hpos)).up = -1:=by rw [<- qQ2 (by simpa using hpos)];exact HU0.o
   have HRR:Hi (r n=k):=lH (by rw [HR0.o] at hk;omega)
   rw [hu] at c4
   simp at c4 hpos
   clear hx hk hN hu
   go_wp2_with (go_at_call 56;refine HI.o.mono ?_;rintro e w1 ⟨rfl,rfl⟩)
   go_ret
   exact ⟨by rw [HRR.o];rfl,rfl⟩
  ·obtain ⟨kk,hkk,rfl,-⟩:=qQz.1 hx
   obtain ⟨b,off,cap',av,kv,sv,e1,-,-,hbb,hN⟩:=HV.o.node kk hkk
   simp at e1
   obtain ⟨rfl,rfl⟩:=e1
   have hup:nd d kk=d[kk]:=qQ2 hkk
   have c4:=hN.up
   obtain ⟨u1,u2⟩:=HRK.o _ hx h0
   rw [hup] at u1 u2
   have hu0:(0:Int)<=d[kk].up:=by obtain ⟨q,_,e,_⟩:=qQz.1 u1;omega
   have U1:=lH u1
   have hkl:(k:Int)<=(d.length:Int):=by omega
   clear hx hN hup u1
   generalize d[kk].up=u at *
   have hdu:decide (u ≥ 0)=true:=decide_eq_true hu0
   go_wp2_with (go_at_call 56;refine HI.o.mono ?_;rintro e w1 ⟨rfl,rfl⟩)
   go_roundw
   case rel=>exact ⟨u,k+1,rfl,by go_num,U1.o,by omega,trivial⟩
   case measure=>simp [intOf];omega
theorem qWe (m:Nat) (v:Value) (d:Dc) (n:Int) (w:World) (R:Nat) (r:Int->Nat) (hv:qZb m w v d) (hm:m<=w.heap.size) (g:G0 qQk R r d) (hR:R<100) (hn:isM d n false=true) (hd:d.length<=1000) (hal:(allM d n).length<=1000) :
 Calls Tryz.prog 200 #[v,.int .i64 n] w (Rb (.int .i64 (qZk d n)) w):=by
 rw [<- zBu g hn hR]
 have cA:=lH (qV2 100 m v d n w hv hm (grows g 100 n hn (by omega)).ends (by show (allM d n).length<=_;omega))
 have hall:Hi (∀ x∈allM d n,isM d x false=true/\r n<=r x):=lH (fun x hx=>by
  have:=(qXt g 100 n x hn (by omega)).1 hx
  exact ⟨this.is,this.le g⟩)
 have cD:Hi (∀ W x,Bel w W->isM d x false=true->Calls Tryz.prog 199 #[v,.int .i64 x] W (Rv (.int .i64 (r x)) W)):=lH (fun W x h hx=>qY6 m v d x W R r (hv.later h hm) g hx hd)
 have hrr:Hi (∀ x,isM d x false=true->r x<=R):=lH (fun x hx=>(g.rank x hx).1)
 have cA':Hi (Calls Tryz.prog 137 #[v,.int .i64 n] w (Rn w fun w' y=>qQb 1 qQf w.heap.size 3 w' y (allM d n))):=cA
 obtain ⟨va,vc,rfl,_,_⟩:=Rf hv
 have HN:=lH hn
 clear hv g cA hn
 generalize allM d n=L at *
 go_enter Tryz.func200,Tryz.ntmps200
 go_wp2_with (go_at_call 137;refine cA'.o.mono ?_;rintro e w1 ⟨b1,y1,rfl,o1⟩;obtain ⟨ya,yc,rfl,y2,y3⟩:=Rf o1.read;have HL:=lH o1.read;have HB1:=lH b1;clear b1 o1)
 go_loopw [12,5] (fun z c wr=>∃ j:Nat,j<=L.length/\z=.int .i64 j/\c=.int .i64 (maxL ((L.take j).map (fun k=>r k - r n)))/\w1=wr) (fun z _ _=>L.length - (intOf z).toNat)
 case atStart=>exact ⟨0,by omega,rfl,rfl,rfl⟩
 case round=>
  obtain ⟨j,hj,rfl,rfl,rfl⟩:=hrel
  have hR1:=HL.o
  by_cases hlt:j<L.length
  ·obtain ⟨_,_,_,_,e1,_,_,_,_⟩:=qQa.elem hR1 j hlt
   simp at e1
   obtain ⟨rfl,rfl⟩:=e1
   have cx:=hR1.int_cell j hlt
   obtain ⟨hx1,hx2⟩:=hall.o _ (Zl hlt)
   have hx3:=hrr.o _ hx1
   have hstep:Hi (maxL ((L.take (j+1)).map (fun k=>r k - r n))=max (maxL ((L.take j).map (fun k=>r k - r n))) (r L[j] - r n)):=lH (by rw [Zk hlt,List.map_append,List.map_singleton,zGb])
   have cDx:=lH (cD.o _ L[j] HB1.o hx1)
   have cDn:=lH (cD.o _ n HB1.o HN.o)
   clear hR1 hx1
   generalize L[j]=x at *
   generalize maxL ((L.take j).map (fun k=>r k - r n))=M at *
   have hsub:IntKind.i64.wrap ((r x:Int) - (r n:Int))=((r x - r n:Nat):Int):=by rw [IntKind.wrap_i64];omega
   go_wp2_with (first
 | (go_at_call 199;refine cDx.o.mono ?_;rintro e w2 ⟨rfl,rfl⟩;clear cDx)
 | (go_at_call 199;refine cDn.o.mono ?_;rintro e w2 ⟨rfl,rfl⟩))
   go_roundw
   case rel=>exact ⟨j+1,by omega,by go_num,by rw [hstep.o];(try congr 1);(try (split <;> omega));try omega,trivial⟩
   case measure=>simp [intOf];omega
  ·have hT:L.take j=L:=Zn (by omega)
   rw [hT]
   go_wp2
   go_ret
   exact ⟨rfl,HB1.o⟩
end Go.Proofs.YtklbmkaomojciaaGreat

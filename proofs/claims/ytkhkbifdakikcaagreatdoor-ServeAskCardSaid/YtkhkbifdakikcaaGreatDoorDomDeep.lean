/- engine.Flush: walked. -/
import Derived.Test.YtkhkbifdakikcaaGreatDoorEngFlush1
import Derived.Test.YtkhkbifdakikcaaGreatDoorDiffOfW
set_option maxRecDepth 100000
set_option maxHeartbeats 4000000
namespace Go.Proofs.YtkhkbifdakikcaaGreatDoor
open Go.RowKit
variable {d:Dc} {a b:List It} {base k m:Nat} {Bo:Nat->Prop} {dv iv mv tv y:Value} {w:World}
theorem zFt (args:Array Value) (w:World):(callFunc 24 args).run Tryz.prog w=.ok (.enter 24 args) w:=by kernel_rfl
theorem zBf (M:List Me) (D:List Int) (L:List Int) (n:Int):qY2 M D (L++[n])=if keptM D n M then qY2 M D L else qY2 M D L+1:=by
 unfold qY2;rw [List.countP_append,List.countP_cons,List.countP_nil];cases keptM D n M <;> simp
theorem count_le (M:List Me) (D:List Int) (L:List Int):qY2 M D L<=L.length:=List.countP_le_length
theorem zK1 {f:World} {G gm g gk:Nat} {i:Value} {C:List Clm} {M:List Me} {D:List Int} (l:Nat) (j:Good d) (hC:ClmOk d C) (q:C.length<=1000)
 (hv:qZh m f dv d) (B:qKb Bo f mv M) (z:qKn m f iv D) (s:qQa 2 qYr (·<m) f i C) (u:G<m) (hE:Blk f G [dv,tv,mv,iv] 30) (t:g<m) (p:Blk f g [i] 62)
 (K:∀ x∈M,qVm x D=true->x=meOf x.node (qJn d C x.node)) (P:l<=1000000000) :
 NameOk l m d (qJn d C) 24 #[.pointer (some ⟨G,0,none⟩),.pointer (some ⟨gm,0,none⟩),.pointer (some ⟨g,0,none⟩),.pointer (some ⟨gk,0,none⟩)] (fun L X W=>∃ v,FlE f Bo m gm gk X (L.map (fun n=>meOf n (qJn d C n))) (qY2 M D L) v W) where
 enter:=zFt
 lt:=fun L X W h b r=>by obtain ⟨v,h⟩:=h;exact (h.low b r).2
 keep:=fun L X W N h A=>by obtain ⟨v,h⟩:=h;exact ⟨v,h.keep A⟩
 call:=fun L X W n h R O=>by
  obtain ⟨v,h⟩:=h;have H:=count_le M D L;refine (zXb n h j (fun c H=>(qZs j).2 _ (hC.kid c H).1) q hv B z s u hE t p K (by rw [List.length_map];omega) (by omega)).mono ?_;rintro e S ⟨U,J,I,V,o,rfl,Q,E,F⟩;refine ⟨U,J,I,o,rfl,⟨V,?_⟩,E,F⟩;rw [List.map_append,List.map_cons,List.map_nil,zBf];exact Q
theorem zKu (g:Good d):∀ x∈d,x.attrs.length<=1000/\x.kids.length<=1000/\x.shadow.length<=1000:=fun x H=>by
 obtain ⟨i,h,rfl⟩:=List.getElem_of_mem H;have:=qK9 g (i:Int);rw [qQ2 h] at this;omega
theorem OfAt.base_le {base':Nat} (h:OfAt base k w y a b) (c:base'<=base):OfAt base' k w y a b:=by
 unfold OfAt at h ⊢;split
 ·rename_i H;rw [if_pos H] at h;obtain ⟨o,K,g,v,f,i,j,l,n⟩:=h;exact ⟨o,K,g,v,f,i,Za c j,l,n.mono (fun x e=>⟨Za c e.1,e.2⟩)⟩
 ·rename_i H;rw [if_neg H] at h;exact qQb.base_le h c
theorem OfAt.agree {w':World} (h:OfAt base k w y a b) (s:w.heap.size<=w'.heap.size) (ha:∀ x,base<=x->x<w.heap.size->w'.heap[x]?=w.heap[x]?):OfAt base k w' y a b:=by
 unfold OfAt at h ⊢;split
 ·rename_i A;rw [if_pos A] at h;obtain ⟨n,K,g,v,i,j,c,e,l⟩:=h;exact ⟨n,K,g,v,i,j,c,e.of (ha g c e.lt),(l.agree (fun x H=>ha x H.1 H.2)).mono (fun x H=>⟨H.1,Zc H.2 s⟩)⟩
 ·rename_i A;rw [if_neg A] at h;exact qQb.agree h (fun b f=>ha b (h.lt b f).1 (h.lt b f).2) (fun _ _ _ h=>h)
theorem OfAt.form (h:OfAt base k w y a b):∃ Y n c,y=.slice Y n c:=by
 unfold OfAt at h;split at h
 ·obtain ⟨i,K,g,v,f,H,_⟩:=h;exact ⟨_,_,_,H⟩
 ·obtain ⟨Y,c,e,_⟩:=Rf h.read;exact ⟨_,_,_,e⟩
theorem qGb {E:Eng} (hd:qZh m w dv E.doc) (ht:ItsK (·<m) 100 w tv E.told) (af:qKb Bo w mv E.memos) (a5:∀ b,Bo b->b<m) (hi:qKn m w iv E.dirty) (hm:m<=w.heap.size) (ok:EngOk E) :
 Calls Tryz.prog 10 #[.agg #[dv,tv,mv,iv]] w (Rn w fun w' y=>∃ a0 a9 a8 ev,y=.tuple #[.agg #[a0,a9,a8,.slice none 0 0],ev,.int .i64 (qY2 E.memos E.dirty (qBp E.doc))] /\
  qKc (fun b=>w.heap.size<=b/\b<w'.heap.size) w' a0 E.doc/\ItsK (fun b=>w.heap.size<=b/\b<w'.heap.size) 100 w' a9 (qJ0 E.doc)/\qKb (fun b=>(Bo b∨w.heap.size<=b)/\b<w'.heap.size) w' a8 ((qBp E.doc).map (qDr E.doc))/\OfAt w.heap.size 100 w' ev E.told (qJ0 E.doc)):=by
 have hA:=ok.alike
 have bb:=(qVc ok).alike
 have G:=ok.good
 have bx:=ok.kept
 have cz:=ok.few
 have bw:=ok.uses
 have d2:=zWa ok.once ok.range
 clear ok
 obtain ⟨d,t,s,D⟩:=E
 simp only at *
 obtain ⟨hA,d0⟩:=hA
 obtain ⟨X,dc,rfl,_,_⟩:=Rf hd
 obtain ⟨ta,tc,rfl,_,_⟩:=Rf ht
 obtain ⟨ma,mc,rfl,_,_⟩:=Rf af
 obtain ⟨ia,ic,rfl,_,_⟩:=Rf hi
 have hC:=qWk G
 have bf:(qQv d).length<=1000:=Za (qWy G hC) (by omega)
 have bs:=zKu G
 have d1:=G.len
 obtain ⟨u,a6⟩:∃ u,u=(w.alloc (.cells #[.slice X d.length dc,.slice ta t.length tc,.slice ma s.length mc,.slice ia D.length ic] 30)).alloc (.cells #[.slice none 0 0,.slice none 0 0,.slice none 0 0,.slice none 0 0] 30):=⟨_,rfl⟩
 have a1:Bel w u:=by rw [a6];exact ((Br w).alloc _).alloc _
 have bj:Blk u w.heap.size [.slice X d.length dc,.slice ta t.length tc,.slice ma s.length mc,.slice ia D.length ic] 30:=by rw [a6];exact (Blk.new' w _ rfl _ _).bel ((Br _).alloc _)
 have bk:Blk u (w.heap.size+1) [.slice none 0 0,.slice none 0 0,.slice none 0 0,.slice none 0 0] 30:=by rw [a6];exact Blk.new' _ _ (by simp) _ _
 have cO:Hi (∀ W,Bel u W->Calls Tryz.prog 19 #[.agg #[.slice X d.length dc,.slice ta t.length tc,.slice ma s.length mc,.slice ia D.length ic]] W (Rn W fun w' y=>∃ a0 a9 a8 a7,y=.agg #[a0,a9,a8,a7]/\qKc (fun b=>(W.heap.size<=b/\b<w'.heap.size)/\a7.ownBlock≠some b) w' a0 d/\ItsK (fun b=>(W.heap.size<=b/\b<w'.heap.size)/\a7.ownBlock≠some b) 100 w' a9 t/\qKb (fun b=>(W.heap.size<=b/\b<w'.heap.size)/\a7.ownBlock≠some b) w' a8 s/\qQb 1 qQf W.heap.size 3 w' a7 D)):=lH (fun W hW=>by
  have a2:=Bt a1 hW;exact qVw (hd.later a2 hm) (ht.later a2 hm) ((af.mono (fun b H=>a5 b H)).later a2 hm) (qQa.later hi qQc a2 hm) (Za hm a2.size) (by omega) bs (by omega) (by omega) (fun b0 hx=>by have:=bw b0 hx;omega) (by omega))
 have cC:Hi (∀ W,Bel u W->Calls Tryz.prog 17 #[.slice X d.length dc] W (Rn W fun w' y=>qQb 2 qYr W.heap.size 104 w' y (qQv d))):=lH (fun W hW=>qVo m _ d W (hd.later (Bt a1 hW) hm) (Za hm (Bt a1 hW).size) G)
 have c0:=lH a1
 have F:=lH bj
 have b4:=lH bk
 have HD:=lH hd
 have HT:=lH ht
 have c9:=lH af
 have HI:=lH hi
 have c7:=lH bx
 have HC:=lH hC
 have HA:=lH hA
 clear hd ht af hi a1 bj bk bs bw bx hC hA
 go_enter Tryz.func10,Tryz.ntmps10
 go_upto_region 1 with fail
 rw [<- a6]
 clear a6
 have K:=F.o.cell 0
 have r:=F.o.cell 1
 have k2:=F.o.cell 2
 have k3:=F.o.cell 3
 simp only [Zd,Ze] at K r k2 k3
 go_upto_region 2 with (go_at_call 19;(with_reducible refine (cO.o _ (Br _)).mono ?_);rintro aq e ⟨b3,v3,rfl,cy,d7,d6,d5,rfl,o3,p3,q3,r3⟩;obtain ⟨g,i,rfl,_,_⟩:=Rf o3;obtain ⟨al,am,rfl,_,_⟩:=Rf p3;obtain ⟨ai,aj,rfl,_,_⟩:=Rf q3;obtain ⟨ag,ah,rfl,_,_⟩:=Rf r3.read;have A:=lH b3;have c3:=lH o3;clear b3 o3 p3 q3 r3)
 clear K r k2 k3
 have bc:Bel e (e.alloc (.cells #[.slice g d.length i,.slice al t.length am,.slice ai s.length aj,.slice ag D.length ah] 30)):=(Br e).alloc _
 have bl:Blk (e.alloc (.cells #[.slice g d.length i,.slice al t.length am,.slice ai s.length aj,.slice ag D.length ah] 30)) e.heap.size [.slice g d.length i,.slice al t.length am,.slice ai s.length aj,.slice ag D.length ah] 30:=Blk.new' e _ rfl _ _
 have B:=lH bc
 have b6:=lH bl
 clear bc bl
 generalize (e.alloc (.cells #[.slice g d.length i,.slice al t.length am,.slice ai s.length aj,.slice ag D.length ah] 30))=w4 at *
 have K:=(F.o.bel (Bt A.o B.o)).cell 0
 simp only [Zd] at K
 go_upto_region 3 with (go_at_call 17;(with_reducible refine (cC.o _ (Bt A.o B.o)).mono ?_);rintro aq J ⟨b5,y5,rfl,o5⟩;obtain ⟨ca,cc,rfl,_,_⟩:=Rf o5.read;have C:=lH b5;have c1:=lH o5;clear b5 o5)
 clear K
 have bd:Bel J (J.alloc (.cells #[.slice ca (qQv d).length cc] 62)):=(Br J).alloc _
 have bm:Blk (J.alloc (.cells #[.slice ca (qQv d).length cc] 62)) J.heap.size [.slice ca (qQv d).length cc] 62:=Blk.new' J _ rfl _ _
 have j:=lH bd
 have ao:=lH bm
 clear bd bm
 generalize (J.alloc (.cells #[.slice ca (qQv d).length cc] 62))=c at *
 go_upto_region 5 with fail
 have q:Bel c ((c.alloc (.cells #[.slice none 0 0] 27)).alloc (.cells #[.int .i64 0] 3)):=((Br c).alloc _).alloc _
 have bo:Blk ((c.alloc (.cells #[.slice none 0 0] 27)).alloc (.cells #[.int .i64 0] 3)) c.heap.size [.slice none 0 0] 27:=(Blk.new' c _ rfl _ _).bel ((Br _).alloc _)
 have bn:Blk ((c.alloc (.cells #[.slice none 0 0] 27)).alloc (.cells #[.int .i64 0] 3)) (c.heap.size+1) [.int .i64 ((0:Nat):Int)] 3:=Blk.new' _ _ (by simp) #[.int .i64 0] _
 have bv:((c.alloc (.cells #[.slice none 0 0] 27)).alloc (.cells #[.int .i64 0] 3)).heap.size=c.heap.size+2:=by simp
 generalize ((c.alloc (.cells #[.slice none 0 0] 27)).alloc (.cells #[.int .i64 0] 3))=w8 at *
 have O:Bel w c:=Bt c0.o (Bt A.o (Bt B.o (Bt C.o j.o)))
 have ay:m<=c.heap.size:=Za hm O.size
 have av:qZh c.heap.size c (.slice X d.length dc) d:=HD.o.up O hm
 have bi:qKn c.heap.size c (.slice ia D.length ic) D:=(qQa.later HI.o qQc O hm).mono (fun _ h=>Zc h ay) (fun _ _ _ h=>h)
 have au:qQa 2 qYr (·<c.heap.size) c (.slice ca (qQv d).length cc) (qQv d):=(c1.o.read.later qZj j.o (Zb _)).mono (fun _ h=>by have:=j.o.size;omega) (fun _ _ _ h=>h)
 have ax:w.heap.size<c.heap.size:=by have:=F.o.lt;have:=A.o.size;have:=B.o.size;have:=C.o.size;have:=j.o.size;omega
 have bu:e.heap.size<c.heap.size:=by have:=b6.o.lt;have:=C.o.size;have:=j.o.size;omega
 have ad:=(F.o.bel (Bt A.o (Bt B.o (Bt C.o j.o))))
 have b9:=zK1 (gm:=c.heap.size) (gk:=c.heap.size+1) (qBp d).length G HC.o bf av (c9.o.agree (fun b H=>O.block b (Zc (a5 b H) hm))) bi au ax ad ao.o.lt ao.o c7.o (by have:=zV2 G;omega)
 have bh:FlE c Bo c.heap.size c.heap.size (c.heap.size+1) (fun b=>b=c.heap.size∨b=c.heap.size+1) [] 0 (.slice none 0 0) w8:=⟨Kp.of_bel q,Zb _,(fun b H=>Zc (a5 b H) ay),.inl rfl,.inr rfl,by omega,bo,bn,fun b H=>by rcases H with h | h <;> omega,qQb.nil _ _ _,fun b H=>by cases H⟩
 have cW:=lH (zQv b9 G HC.o bf [] (fun b=>b=c.heap.size∨b=c.heap.size+1) w8 (av.later q (Zb _)) (au.later qZj q (Zb _)) q.size ⟨_,bh⟩ (fun b H=>by rcases H with h | h <;> omega) (by simp [qBp]))
 have K:=(ad.bel q).cell 0
 have r:=(ao.o.bel q).cell 0
 simp only [Zd] at K r
 have N:=lH q
 have c4:=lH ad
 have an:=lH O
 have ap:=lH bv
 have c8:=lH ax
 have b7:=lH bu
 clear q ad O b9 bh au bi av bo bn bv ax bu ay cO cC
 go_upto_region 6 with (go_at_call 23;(with_reducible refine cW.o.mono ?_);rintro aq w9 ⟨y,X',rfl,⟨v9,i9⟩,k9,x9,r9⟩;have cu:=lH x9;have S:=lH k9;have b2:=lH i9;have b8:=lH r9;clear i9 k9 x9 r9)
 clear K r
 have ae:ItsK (fun b=>w8.heap.size<=b/\b<w9.heap.size/\¬ X' b) 100 w9 y (qJ0 d):=b8.o
 have aw:FlE c Bo c.heap.size c.heap.size (c.heap.size+1) X' ((qBp d).map (qDr d)) (qY2 s D (qBp d)) v9 w9:=b2.o
 obtain ⟨Y,n,rfl,_,_⟩:=Rf ae
 obtain ⟨v,V,rfl,_,_⟩:=Rf aw.row.read
 have ac:Bel c w9:=⟨S.o.os.trans N.o.os,S.o.tape.trans N.o.tape,S.o.output.trans N.o.output,Za N.o.size S.o.size,fun b H=>(S.o.block b (Zc H N.o.size) (by rintro (h | h) <;> omega)).trans (N.o.block b H)⟩
 have ar:=Bt an.o ac
 have r:=(c4.o.bel ac).cell 1
 simp only [Zd,Ze] at r
 have cg:=lH (zKy (n:=w9.heap.size) (k:=100) ((HT.o.later ar hm).mono (fun b H=>Zc (Zc H hm) ar.size)) (ae.mono (fun b H=>H.2.1)) (Zb _) HA.o bb.1 (by have h2:(nodesL (qJ0 d)).length<=60:=bb.2;rw [Zj];omega))
 have cd:=lH ae
 have c5:=lH aw
 have Q:=lH ac
 clear ae aw ac ar b8 b2 cW
 generalize br:qJ0 d=T at *
 have ce:=lH br
 clear br
 generalize bp:(qBp d).map (qDr d)=M at *
 generalize be:qY2 s D (qBp d)=CC at *
 have cb:=lH bp
 have c2:=lH be
 clear bp be
 go_upto_region 7 with (go_at_call 28;(with_reducible refine cg.o.mono ?_);rintro aq l ⟨ba,ev,rfl,az⟩;obtain ⟨ea,en,ec,rfl⟩:=az.form;have x:=lH ba;have cf:=lH az;clear ba az)
 clear r
 have o:=lH (c5.o.bel x.o)
 have p:=lH (b6.o.bel (Bt C.o (Bt j.o (Bt Q.o x.o))))
 have n0:=p.o.cell 0
 have n1:=p.o.cell 1
 have n2:=p.o.cell 2
 have n3:=p.o.cell 3
 have f1:=p.o.frozen 1
 have f2:=p.o.frozen 2
 have f3:=p.o.frozen 3
 have qm:=o.o.bm.cell 0
 simp only [Zd,Ze] at n0 n1 n2 n3 qm
 have co:e.heap.size≠c.heap.size:=by have:=b7.o;omega
 have a4:Blk (((l.setCell ⟨e.heap.size,1,none⟩ (.slice Y T.length n)).setCell ⟨e.heap.size,2,none⟩ (.slice v M.length V)).setCell ⟨e.heap.size,3,none⟩ (.slice none 0 0)) e.heap.size [.slice g d.length i,.slice Y T.length n,.slice v M.length V,.slice none 0 0] 30:=((p.o.set 1 _).set 2 _).set 3 _
 have a3:FrE e.heap.size l (((l.setCell ⟨e.heap.size,1,none⟩ (.slice Y T.length n)).setCell ⟨e.heap.size,2,none⟩ (.slice v M.length V)).setCell ⟨e.heap.size,3,none⟩ (.slice none 0 0)):=(((FrE.refl _ l).set _).set _).set _
 have I:=lH a4
 have f:=lH a3
 clear a4 a3
 go_region
 refine qKh (E:=fun U=>Blk U e.heap.size [.slice g d.length i,.slice Y T.length n,.slice v M.length V,.slice none 0 0] 30/\FrE e.heap.size l U) ⟨I.o,⟨f.o.os,f.o.tape,f.o.output,f.o.size,f.o.block⟩⟩ ?_
 clear I f n0 n1 n2 n3 f1 f2 f3 qm co
 rintro aa ⟨a4,a3⟩
 have I:=lH a4
 have f:=lH a3
 clear a4 a3
 go_upto_region 8 with fail
 have L0:=c8.o
 have L3:=b7.o
 have cw:=Q.o.size
 have cx:=x.o.size
 have S1:w.heap.size+1<u.heap.size:=b4.o.lt
 have cv:=A.o.size
 have bt:=o.o.bk.of (f.o.block (c.heap.size+1) o.o.bk.lt (by omega))
 have c6:=lH bt
 clear bt
 have qk:=c6.o.cell 0
 have n0:=I.o.cell 0
 have n1:=I.o.cell 1
 have n2:=I.o.cell 2
 have n3:=I.o.cell 3
 have R:=(((b4.o.bel (Bt A.o (Bt B.o (Bt C.o j.o)))).bel Q.o).bel x.o).of (f.o.block (w.heap.size+1) (by omega) (by omega))
 have m0:=R.cell 0
 have m1:=R.cell 1
 have m2:=R.cell 2
 have m3:=R.cell 3
 have cp:=R.frozen 0
 have cq:=R.frozen 1
 have cr:=R.frozen 2
 have ct:=R.frozen 3
 simp only [Zd,Ze] at qk n0 n1 n2 n3 m0 m1 m2 m3
 have d3:w.heap.size+1≠e.heap.size:=by omega
 have d4:w.heap.size+1≠c.heap.size+1:=by omega
 have ab:Hi (Blk ((((aa.setCell ⟨w.heap.size+1,0,none⟩ (.slice g d.length i)).setCell ⟨w.heap.size+1,1,none⟩ (.slice Y T.length n)).setCell ⟨w.heap.size+1,2,none⟩ (.slice v M.length V)).setCell ⟨w.heap.size+1,3,none⟩ (.slice none 0 0)) (w.heap.size+1) [.slice g d.length i,.slice Y T.length n,.slice v M.length V,.slice none 0 0] 30):=lH ((((R.set 0 _).set 1 _).set 2 _).set 3 _)
 have Z:Hi (FrE (w.heap.size+1) aa ((((aa.setCell ⟨w.heap.size+1,0,none⟩ (.slice g d.length i)).setCell ⟨w.heap.size+1,1,none⟩ (.slice Y T.length n)).setCell ⟨w.heap.size+1,2,none⟩ (.slice v M.length V)).setCell ⟨w.heap.size+1,3,none⟩ (.slice none 0 0))):=lH (((((FrE.refl _ aa).set _).set _).set _).set _)
 clear R
 go_region
 refine qKh (E:=fun U=>Blk U (w.heap.size+1) [.slice g d.length i,.slice Y T.length n,.slice v M.length V,.slice none 0 0] 30/\FrE (w.heap.size+1) aa U) ⟨ab.o,⟨Z.o.os,Z.o.tape,Z.o.output,Z.o.size,Z.o.block⟩⟩ ?_
 clear ab Z qk n0 n1 n2 n3 m0 m1 m2 m3 cp cq cr ct
 rintro z ⟨bq,bg⟩
 have ab:=lH bq
 have Z:=lH bg
 clear bq bg
 go_wp2
 obtain ⟨dd,cm,cn⟩:=qXr
 have Z1:=f.o.size
 have Z3:=Z.o.size
 have Z4:=an.o.size
 have bz:Bel w l:=Bt an.o (Bt Q.o x.o)
 have b1:Bel e l:=Bt B.o (Bt C.o (Bt j.o (Bt Q.o x.o)))
 have ch:Bel w z:=Z.o.bel (f.o.bel bz (by omega)) (by omega)
 have P:∀ b,b<l.heap.size->b≠e.heap.size->b≠w.heap.size+1->z.heap[b]?=l.heap[b]?:=fun b h1 h2 h3=>(Z.o.block b (by omega) h3).trans (f.o.block b h1 h2)
 have ci:qKc (fun b=>w.heap.size<=b/\b<z.heap.size) z (.slice g d.length i) d:=(c3.o.agree (fun b H=>(P b (by omega) (by omega) (by omega)).trans (b1.block b H.1.2))).mono (fun b H=>⟨by omega,by have:=b1.size;omega⟩)
 have cl:ItsK (fun b=>w.heap.size<=b/\b<z.heap.size) 100 z (.slice Y T.length n) T:=(cd.o.agree (fun b H=>(P b (by omega) (by have:=ap.o;omega) (by have:=ap.o;omega)).trans (x.o.block b H.2.1))).mono (fun b H=>⟨by have:=ap.o;omega,by omega⟩)
 have cj:qKb (fun b=>(Bo b∨w.heap.size<=b)/\b<z.heap.size) z (.slice v M.length V) M:=by
  have h0:=o.o.row.redo (rd':=rdMe (fun b=>(Bo b∨w.heap.size<=b)/\b<z.heap.size)) (w':=z) (fun b H=>by have ak:=o.o.low b (o.o.own b H).1;exact P b ak.2 (by omega) (by omega)) (fun cs y _ hr=>(hr.agree (fun b H=>by
   rcases H with H | H
   ·have:=a5 b H;exact P b (by omega) (by omega) (by omega)
   ·have ak:=o.o.low b H.1;exact P b ak.2 (by omega) (by omega))).mono (fun b H=>by
   rcases H with H | H
   ·exact ⟨.inl H,by have:=a5 b H;omega⟩
   ·have ak:=o.o.low b H.1;exact ⟨.inr (by omega),by omega⟩))
  exact h0.row.mono (fun b H=>⟨.inr (by have:=H.1;omega),by have:=H.2.1;omega⟩) (fun _ _ _ h=>h)
 have ck:OfAt w.heap.size 100 z (.slice ea en ec) t T:=(cf.o.agree (by omega) (fun b0 h1 h2=>P b0 h2 (by omega) (by omega))).base_le (by omega)
 refine bodyPost_ret (qZx rfl _ _ (w.heap.size+1) _ _ _ dd rfl ab.o cm (by revert cn;cases dd <;> intro h <;> exact h) (by kernel_rfl)) rfl ?_
 obtain rfl:=ce.o
 obtain rfl:=cb.o
 obtain rfl:=c2.o
 exact ⟨ch,_,rfl,_,_,_,_,rfl,ci,cl,cj,ck⟩
set_option maxRecDepth 100000
set_option maxHeartbeats 2000000
theorem root_in (w:World) (g:Nat) (hg:g=w.heap.size):qKc (fun b=>w.heap.size<=b/\b<g+1) (w.alloc (.cells #[.bool true,.string ⟨#[109,97,105,110]⟩,.string ⟨#[]⟩,.slice none 0 0,.int .i64 (-1),.slice none 0 0,.bool false,.slice none 0 0,.bool false] 66)) (.slice (some ⟨g,0,none⟩) 1 1) rootD:=by
 have H:=Blk.new' w g hg #[.bool true,.string ⟨#[109,97,105,110]⟩,.string ⟨#[]⟩,.slice none 0 0,.int .i64 (-1),.slice none 0 0,.bool false,.slice none 0 0,.bool false] 66;refine .inr ⟨g,0,1,rfl,by decide,by omega,fun i h=>?_⟩;obtain rfl:i=0:=by simp [rootD] at h;exact h
 refine ⟨by omega,_,?_,fun j u c=>?_,⟨.slice none 0 0,.slice none 0 0,.slice none 0 0,rfl,qQa.nil,qQa.nil,qQa.nil⟩⟩
 ·rfl
 ·rw [H.cell];simpa [rootD,mainT] using c
theorem zFx (w:World):Calls Tryz.prog 8 #[] w (Rn w fun w' y=>qKc (fun b=>w.heap.size<=b/\b<w'.heap.size) w' y rootD):=by
 have H:=root_in w w.heap.size rfl;have h:Bel w (w.alloc (.cells #[.bool true,.string ⟨#[109,97,105,110]⟩,.string ⟨#[]⟩,.slice none 0 0,.int .i64 (-1),.slice none 0 0,.bool false,.slice none 0 0,.bool false] 66)):=(Br w).alloc _;have e:=lH H;have c:=lH h;clear H h;go_enter Tryz.func8,Tryz.ntmps8
 go_wp2;go_ret;exact ⟨c.o,_,rfl,by have:=e.o;simpa using this⟩
theorem zQa (w:World):Calls Tryz.prog 6 #[] w (Rn w fun w' y=>∃ dv,y=.agg #[dv,.slice none 0 0,.slice none 0 0,.slice none 0 0]/\qKc (fun b=>w.heap.size<=b/\b<w'.heap.size) w' dv rootD):=by
 have g:Bel w (w.alloc (.cells #[.slice none 0 0,.slice none 0 0,.slice none 0 0,.slice none 0 0] 30)):=(Br w).alloc _;have i:Blk (w.alloc (.cells #[.slice none 0 0,.slice none 0 0,.slice none 0 0,.slice none 0 0] 30)) w.heap.size [.slice none 0 0,.slice none 0 0,.slice none 0 0,.slice none 0 0] 30:=Blk.new' w _ rfl _ _;have c:=lH g;have f:=lH i;clear g i;go_enter Tryz.func6,Tryz.ntmps6
 go_upto_region 1 with fail
 generalize (w.alloc (.cells #[.slice none 0 0,.slice none 0 0,.slice none 0 0,.slice none 0 0] 30))=O at *
 go_wp2_with (go_at_call 8;(with_reducible refine (zFx _).mono ?_);rintro e W ⟨B,U,rfl,o⟩;obtain ⟨n,N,rfl,_,_⟩:=Rf o;have l:=lH o;have j:=lH B;have H:=f.o.bel B;have K:=H.cell 0;have v:=H.cell 1;have x:=H.cell 2;have A:=H.cell 3;have G:=H.frozen 0;have I:=H.frozen 1;have J:=H.frozen 2;have M:=H.frozen 3;simp only [Zd,Ze] at K v x A;have p:=lH H;clear B o H)
 have q:Hi (Blk ((((W.setCell ⟨w.heap.size,0,none⟩ (.slice n rootD.length N)).setCell ⟨w.heap.size,1,none⟩ (.slice none 0 0)).setCell ⟨w.heap.size,2,none⟩ (.slice none 0 0)).setCell ⟨w.heap.size,3,none⟩ (.slice none 0 0)) w.heap.size [.slice n rootD.length N,.slice none 0 0,.slice none 0 0,.slice none 0 0] 30):=lH ((((p.o.set 0 _).set 1 _).set 2 _).set 3 _);have Z:Hi (FrE w.heap.size W ((((W.setCell ⟨w.heap.size,0,none⟩ (.slice n rootD.length N)).setCell ⟨w.heap.size,1,none⟩ (.slice none 0 0)).setCell ⟨w.heap.size,2,none⟩ (.slice none 0 0)).setCell ⟨w.heap.size,3,none⟩ (.slice none 0 0))):=lH (((((FrE.refl _ W).set _).set _).set _).set _);generalize ((((W.setCell ⟨w.heap.size,0,none⟩ (.slice n rootD.length N)).setCell ⟨w.heap.size,1,none⟩ (.slice none 0 0)).setCell ⟨w.heap.size,2,none⟩ (.slice none 0 0)).setCell ⟨w.heap.size,3,none⟩ (.slice none 0 0))=z at *
 obtain ⟨D,t,u⟩:=qXr;have E:=Z.o.size;have C:=f.o.lt;have S:=c.o.size;have F:qKc (fun b=>w.heap.size<=b/\b<z.heap.size) z (.slice n rootD.length N) rootD:=(l.o.agree (fun b s=>Z.o.block b (by omega) (by omega))).mono (fun b s=>⟨by omega,by omega⟩);have r:Bel w z:=Z.o.bel (Bt c.o j.o) (by omega);refine bodyPost_ret (results_cell_row rfl _ _ w.heap.size _ _ _ D rfl q.o t (by revert u;cases D <;> intro h <;> exact h) (by kernel_rfl)) rfl ?_;exact ⟨r,_,rfl,_,rfl,F⟩
set_option maxRecDepth 100000
set_option maxHeartbeats 4000000
theorem zVf (s:Txt):(qYu.contains s=true/\(s=altT∨s=labelT∨s=titleT∨s=valueT∨s=alvlT∨s=qVh∨s=qVq∨s=chkT))∨(qYu.contains s=false/\(s==altT)=false/\(s==labelT)=false/\(s==titleT)=false/\(s==valueT)=false/\(s==alvlT)=false/\(s==qVh)=false/\(s==qVq)=false/\(s==chkT)=false):=by
 cases h:qYu.contains s with
 | true=>
   left;refine ⟨rfl,?_⟩;have:=List.contains_iff_mem.1 h;simpa [qYu] using this
 | false=>
   right;refine ⟨rfl,?_⟩;have H:s∉qYu:=fun c=>by rw [List.contains_iff_mem.2 c] at h;cases h
   simp only [qYu,List.mem_cons,List.not_mem_nil,or_false,not_or] at H;simpa only [beq_eq_false_iff_ne] using H
theorem qHn (x:Chg) (w:World) :
 Calls Tryz.prog 20 #[.agg #[.int .i64 x.kind,.int .i64 x.node,.int .i64 x.dest,.int .i64 x.before,.string ⟨x.name.toArray⟩,.string ⟨x.value.toArray⟩]] w (Rb (.bool (qKo x)) w):=by
 obtain ⟨k,n,d,b,N,v⟩:=x;obtain ⟨W,f⟩:∃ W,W=w.alloc (.cells #[.int .i64 k,.int .i64 n,.int .i64 d,.int .i64 b,.string ⟨N.toArray⟩,.string ⟨v.toArray⟩] 36):=⟨_,rfl⟩;have B:Bel w W:=by rw [f];exact (Br w).alloc _
 have K:Blk W w.heap.size [.int .i64 k,.int .i64 n,.int .i64 d,.int .i64 b,.string ⟨N.toArray⟩,.string ⟨v.toArray⟩] 36:=by rw [f];exact Blk.new' w _ rfl _ _
 have C:=K.cell 0;have c4:=K.cell 4;simp only [Zd,Ze] at C c4;have l:=lH B;obtain ⟨R,h⟩:∃ R,R=qKo ⟨k,n,d,b,N,v⟩:=⟨_,rfl⟩;rw [<- h];unfold qKo at h;simp only at h;have q:k=7∨k=5∨k=6∨(k≠7/\k≠5/\k≠6):=by omega
 have e:=zVf N;clear B K;rcases q with rfl | rfl | rfl | ⟨j,g,i⟩;case' inl=>
  have c:Hi (R=true):=lH (by rw [h];rfl);clear e
 case' inr.inl=>
  rcases e with ⟨H,rfl | rfl | rfl | rfl | rfl | rfl | rfl | rfl⟩ | ⟨H,r,s,t,u,z,A,D,F⟩
 case' inr.inr.inl=>
  rcases e with ⟨H,rfl | rfl | rfl | rfl | rfl | rfl | rfl | rfl⟩ | ⟨H,r,s,t,u,z,A,D,F⟩
 case' inr.inr.inr=>
  have p:(k==7)=false:=by simpa using j
  have E:(k==5)=false:=by simpa using g
  have o:(k==6)=false:=by simpa using i
  have c:Hi (R=false):=lH (by rw [h,p,E,o];rfl);clear e j g i
 all_goals
  first
   | (rw [H] at h;have c:=lH h;clear H h;unfold altT labelT titleT valueT alvlT qVh qVq chkT at *)
   | (rw [H] at h;have c:=lH h;clear H h)
   | clear h
  go_enter Tryz.func20,Tryz.ntmps20
  go_upto_region 1 with fail
  rw [<- f]
  clear f
  go_wp2
  go_ret
  exact ⟨by rw [c.o];rfl,l.o⟩
set_option maxRecDepth 100000
set_option maxHeartbeats 1000000
theorem qVb (m:Nat) (v:Value) (d:Dc) (n:Int) (w:World) (R:Nat) (r:Int->Nat) (hv:qZh m w v d) (g:G0 qQk R r d) (l:isM d n false=true) (hd:d.length<=1000) :
 Calls Tryz.prog 117 #[v,.int .i64 n] w (Rv (.int .i64 (r n)) w):=by
 obtain ⟨Q,T,rfl,X,Y⟩:=Rf hv;have V:=lH hv;have a1:=zJh g l;have q:=lH g.rank0;have t:Hi (∀ x,isM d x false=true->x≠0->isM d (nd d x).up false=true/\r x=r (nd d x).up+1):=lH (fun x H f=>⟨g.upIs H f (fun h=>h),(g.rank x H).2 f (fun h=>h)⟩);have B:Hi ((nd d 0).up = -1):=lH g.root.2.2.1;clear hv g;go_enter Tryz.func117,Tryz.ntmps117
 go_wp2;go_loopw [1,5] (fun z c wr=>∃ (x:Int) (k:Nat),z=.int .i64 x/\c=.int .i64 k/\isM d x false=true/\k+r x=r n/\w=wr) (fun z _ _=>r (intOf z))
 case atStart=>exact ⟨n,0,rfl,rfl,l,by omega,rfl⟩
 case round=>
  obtain ⟨x,k,rfl,rfl,H,i,rfl⟩:=hrel;have I:=lH (qQ5 m _ d x false w V.o);rw [H] at I;by_cases f:x=0
  ·subst f;have s:=(qJq H).1;obtain ⟨b,O,F,D,M,S,E,-,-,G,N⟩:=V.o.node 0 (by simpa using s);simp at E;obtain ⟨rfl,rfl⟩:=E;have c4:=N.up;have o:(d[0]'(by simpa using s)).up = -1:=(by rw [<- qQ2 (by simpa using s)];exact B.o);have A:Hi (r n=k):=lH (by rw [q.o] at i;omega);rw [o] at c4;simp at c4 s;clear H i N o;go_wp2_with (go_at_call 13;refine I.o.mono ?_;rintro e W ⟨rfl,rfl⟩)
   go_ret;exact ⟨by rw [A.o];rfl,rfl⟩
  ·obtain ⟨K,j,rfl,-⟩:=qQy.1 H;obtain ⟨b,O,F,D,M,S,E,-,-,G,N⟩:=V.o.node K j;simp at E;obtain ⟨rfl,rfl⟩:=E;have p:nd d K=d[K]:=qQ2 j;have c4:=N.up;obtain ⟨U,P⟩:=t.o _ H f;rw [p] at U P;have J:(0:Int)<=d[K].up:=(by obtain ⟨a2,_,e,_⟩:=qQy.1 U;omega);have C:=lH U;have a0:(k:Int)<=(d.length:Int):=(by omega);clear H N p U;generalize d[K].up=u at *
   have Z:decide (u ≥ 0)=true:=decide_eq_true J;go_wp2_with (go_at_call 13;refine I.o.mono ?_;rintro e W ⟨rfl,rfl⟩)
   go_roundw;case rel=>exact ⟨u,k+1,rfl,by go_num,C.o,by omega,trivial⟩
   case measure=>simp [intOf];omega
theorem qWc (m:Nat) (v:Value) (d:Dc) (n:Int) (w:World) (R:Nat) (r:Int->Nat) (hv:qZh m w v d) (hm:m<=w.heap.size) (g:G0 qQk R r d) (A:R<100) (H:isM d n false=true) (hd:d.length<=1000) (S:(allM d n).length<=1000) :
 Calls Tryz.prog 118 #[v,.int .i64 n] w (Rb (.int .i64 (qZo d n)) w):=by
 rw [<- zGl g H A];have C:=lH (qVy 100 m v d n w hv hm (grows g 100 n H (by omega)).ends (by show (allM d n).length<=_;omega));have F:Hi (∀ x∈allM d n,isM d x false=true/\r n<=r x):=lH (fun x f=>by
  have:=(qXx g 100 n x H (by omega)).1 f;exact ⟨this.is,this.le g⟩)
 have D:Hi (∀ W x,Bel w W->isM d x false=true->Calls Tryz.prog 117 #[v,.int .i64 x] W (Rv (.int .i64 (r x)) W)):=lH (fun W x h f=>qVb m v d x W R r (hv.later h hm) g f hd);have G:Hi (∀ x,isM d x false=true->r x<=R):=lH (fun x f=>(g.rank x f).1);have s:Hi (Calls Tryz.prog 46 #[v,.int .i64 n] w (Rn w fun J y=>qQb 1 qQf w.heap.size 3 J y (allM d n))):=C;obtain ⟨Z,vc,rfl,_,_⟩:=Rf hv;have N:=lH H;clear hv g C H;generalize allM d n=L at *
 go_enter Tryz.func118,Tryz.ntmps118
 go_wp2_with (go_at_call 46;refine s.o.mono ?_;rintro e K ⟨B,y1,rfl,O⟩;obtain ⟨ya,yc,rfl,y2,y3⟩:=Rf O.read;have q:=lH O.read;have i:=lH B;clear B O)
 go_loopw [12,5] (fun z c wr=>∃ j:Nat,j<=L.length/\z=.int .i64 j/\c=.int .i64 (maxL ((L.take j).map (fun k=>r k - r n)))/\K=wr) (fun z _ _=>L.length - (intOf z).toNat)
 case atStart=>exact ⟨0,by omega,rfl,rfl,rfl⟩
 case round=>
  obtain ⟨j,U,rfl,rfl,rfl⟩:=hrel;have l:=q.o;by_cases t:j<L.length
  ·obtain ⟨_,_,_,_,E,_,_,_,_⟩:=qQa.elem l j t;simp at E;obtain ⟨rfl,rfl⟩:=E;have Q:=l.int_cell j t;obtain ⟨o,X⟩:=F.o _ (Zl t);have Y:=G.o _ o;have I:Hi (maxL ((L.take (j+1)).map (fun k=>r k - r n))=max (maxL ((L.take j).map (fun k=>r k - r n))) (r L[j] - r n)):=lH (by rw [Zk t,List.map_append,List.map_singleton,zHd]);have p:=lH (D.o _ L[j] i.o o);have u:=lH (D.o _ n i.o N.o);clear l o;generalize L[j]=x at *
   generalize maxL ((L.take j).map (fun k=>r k - r n))=M at *
   have V:IntKind.i64.wrap ((r x:Int) - (r n:Int))=((r x - r n:Nat):Int):=(by rw [IntKind.wrap_i64];omega);go_wp2_with (first
 | (go_at_call 117;refine p.o.mono ?_;rintro e P ⟨rfl,rfl⟩;clear p)
 | (go_at_call 117;refine u.o.mono ?_;rintro e P ⟨rfl,rfl⟩))
   go_roundw
   case rel=>exact ⟨j+1,by omega,by go_num,by rw [I.o];(try congr 1);(try (split <;> omega));try omega,trivial⟩
   case measure=>simp [intOf];omega
  ·have T:L.take j=L:=Zn (by omega)
   rw [T]
   go_wp2
   go_ret
   exact ⟨rfl,i.o⟩

/- What is made inside, in place. -/
import Derived.Test.YtkhkbifdakikcaaGreatDoorDomMake
set_option maxRecDepth 100000
set_option maxHeartbeats 4000000
namespace Go.Proofs.YtkhkbifdakikcaaGreatDoor
open Go.RowKit
theorem qD8 (base c g:Nat) (d:Dc) (x:Chg) (w:World) (h:Ch base c w d x.node) (E:qYd base g w x) (p:base<=w.heap.size) (a0:Good d) (hn:isM d x.node true=true) (aa:x.name.length<=9223372036854775807) (ab:x.value.length<=9223372036854775807) :
 Calls Tryz.prog 91 #[.pointer (some ⟨c,0,none⟩),.pointer (some ⟨g,0,none⟩)] w fun e w'=>e=.returned (.int .i64 (qXk d x).1)/\Below base w w'/\((qXk d x).1=0->Ch base c w' (qXk d x).2.2 (qXk d x).2.1):=by
 have a5:=a0.len;have a6:=qZ0 hn;have a4:=lH h;have HX:=lH E;obtain ⟨ac,hK,a9,hD⟩:=h;have hM:qXk d x=if qJh x.kind&&decide (60<x.value.length) then (4,0,[]) else if !qJh x.kind&&!name x.name then (7,0,[]) else if qXu x.kind&&!(nd d x.node).hasS then (8,0,[]) else qBt d (qZ7 x) x.node (if qXu x.kind then -1 else x.before) (qXu x.kind):=rfl
 have f:=lH hM;obtain ⟨i,hi,a3,-⟩:=qQy.1 a6;obtain ⟨b,cap,_,_,_,rfl,z1,z2,_,_,a8,hN,_⟩:=hD.slots i hi;have Q:Hi (∀ W,Bel w W->W.cell? ⟨c,0,none⟩=some (.slice (some ⟨b,0,none⟩) d.length cap)/\W.cell? ⟨b,i*9+6,none⟩=some (.bool d[i].hasS)/\W.cell? ⟨g,0,none⟩=some (.int .i64 x.kind)/\W.cell? ⟨g,1,none⟩=some (.int .i64 x.node)/\W.cell? ⟨g,3,none⟩=some (.int .i64 x.before)/\W.cell? ⟨g,4,none⟩=some (.string ⟨x.name.toArray⟩)/\W.cell? ⟨g,5,none⟩=some (.string ⟨x.value.toArray⟩)):=lH (fun W r=>⟨(hK.bel r).cell 0,(Bel.cells r b _ (by assumption)).trans hN.hasS,(E.1.bel r).cell 0,(E.1.bel r).cell 1,(E.1.bel r).cell 3,(E.1.bel r).cell 4,(E.1.bel r).cell 5⟩);have N:Hi (∀ W,Calls Tryz.prog 119 #[.string ⟨x.name.toArray⟩] W (Rv (.bool (name x.name)) W)):=lH (fun W=>zZo x.name W (by omega));have a2:(nd d x.node).hasS=d[i].hasS:=by rw [a3,qQ2 hi]
 have T:=lH a2;have B:Hi (∀ W,Below base w W->W.cell? ⟨g,1,none⟩=some (.int .i64 x.node)/\W.cell? ⟨g,4,none⟩=some (.string ⟨x.name.toArray⟩)/\W.cell? ⟨g,5,none⟩=some (.string ⟨x.value.toArray⟩)):=lH (fun W r=>⟨(E.below r).1.cell 1,(E.below r).1.cell 4,(E.below r).1.cell 5⟩);have H:Hi (∀ W,Bel w W->(qXu x.kind=true->(nd d x.node).hasS=true)->(qJh x.kind=true->x.value.length<=60)->(qJh x.kind=false->name x.name=true)->Calls Tryz.prog 122 #[.pointer (some ⟨c,0,none⟩),ndV (qZ7 x) (.slice none 0 0) (.slice none 0 0) (.slice none 0 0),.int .i64 x.node,.int .i64 (if qXu x.kind then -1 else x.before),.bool (qXu x.kind)] W fun e w'=>e=.returned (.int .i64 (qBt d (qZ7 x) x.node (if qXu x.kind then -1 else x.before) (qXu x.kind)).1)/\Below base W w'/\((qBt d (qZ7 x) x.node (if qXu x.kind then -1 else x.before) (qXu x.kind)).1=0->Ch base c w' (qBt d (qZ7 x) x.node (if qXu x.kind then -1 else x.before) (qXu x.kind)).2.2 (qBt d (qZ7 x) x.node (if qXu x.kind then -1 else x.before) (qXu x.kind)).2.1)):=lH (fun W r h1 U h3=>by
  obtain ⟨n1,n2,n3⟩:=zWe (t:=x.node) (sh:=qXu x.kind) U h3;refine zJw base c d x.node (qZ7 x) x.node _ _ W (a4.o.bel r) (Za p r.size) a0.tree a5 hn h1 n1 ?_ n2 n3;unfold qZ7;split <;> rfl)
 unfold ndV at H;clear hM hD hK E hN a2;generalize qXk d x=M at *
 obtain ⟨q,xn,k,j,m,X⟩:=x;simp only at *
 have a7:=a3;subst a7;by_cases U:q=2
 ·subst U;rw [show qJh 2=true from rfl] at f H;rw [show qXu 2=false from rfl] at f H;have a:(qZ7 ⟨2,(i:Int),k,j,m,X⟩).live=false/\(qZ7 ⟨2,(i:Int),k,j,m,X⟩).tag=[]/\(qZ7 ⟨2,(i:Int),k,j,m,X⟩).text=X/\(qZ7 ⟨2,(i:Int),k,j,m,X⟩).up=0/\(qZ7 ⟨2,(i:Int),k,j,m,X⟩).hasS=false/\(qZ7 ⟨2,(i:Int),k,j,m,X⟩).inS=false:=by unfold qZ7;simp only;rw [show qJh 2=true from rfl];exact ⟨rfl,rfl,rfl,rfl,rfl,rfl⟩
  rw [a.1,a.2.1,a.2.2.1,a.2.2.2.1,a.2.2.2.2.1,a.2.2.2.2.2] at H;rw [show (([]:Txt).toArray:Array UInt8) = #[] from rfl] at H;clear a;simp only [Bool.true_and,Bool.false_and,Bool.not_true,Bool.false_eq_true,Bool.true_eq_false,if_false,decide_eq_true_eq,false_implies,forall_const] at f H;obtain ⟨P,S,J,K,O,z,D⟩:=Q.o w (Br w);by_cases o:60<X.length
  ·have R:Hi (M=(4,0,[])):=lH (by rw [f.o,if_pos o]);have Z:(60:Int)<(X.length:Int):=(by omega);go_enter Tryz.func91,Tryz.ntmps91
   go_wp2_with fail
   go_ret;rw [R.o];exact ⟨rfl,Below.refl _ _,fun h=>by cases h⟩
  ·rw [if_neg o] at f;have Z:¬ (60:Int)<(X.length:Int):=(by omega);have R:=f;have C:=H;go_enter Tryz.func91,Tryz.ntmps91
   go_upto_region 7 with fail
   go_quiet (fail)
   go_upto_region 13 with fail
   refine qQt (E:=fun W=>Bel w W) ((Br w).drewN _) ?_;intro t y;have l:=lH y;clear y P S J K O z D;obtain ⟨K,z,D⟩:=B.o t (Below.mono l.o p);have I:=lH (C.out t.drew l.o.drew (by omega));clear f H C;go_region_held (fun w'=>w'.cell? ⟨g,1,none⟩=some (.int .i64 (i:Int))/\w'.cell? ⟨g,4,none⟩=some (.string ⟨m.toArray⟩)/\w'.cell? ⟨g,5,none⟩=some (.string ⟨X.toArray⟩)) (first | exact B.o _ (Below.mono l.o.drew p) | exact B.o _ s.o) (first | (go_at_call 122;refine I.o.mono ?_;rintro e w6 ⟨rfl,u,v⟩;have s:=lH (Below.trans (Below.mono l.o.drew p) u);have G:=lH v;clear u v))
   all_goals
    go_wp2
    go_ret
    rw [R.o]
    exact ⟨rfl,s.o,G.o⟩
 ·by_cases a1:q=10
  ·subst a1;rw [show qJh 10=true from rfl] at f H;rw [show qXu 10=true from rfl] at f H;have a:(qZ7 ⟨10,(i:Int),k,j,m,X⟩).live=false/\(qZ7 ⟨10,(i:Int),k,j,m,X⟩).tag=[]/\(qZ7 ⟨10,(i:Int),k,j,m,X⟩).text=X/\(qZ7 ⟨10,(i:Int),k,j,m,X⟩).up=0/\(qZ7 ⟨10,(i:Int),k,j,m,X⟩).hasS=false/\(qZ7 ⟨10,(i:Int),k,j,m,X⟩).inS=false:=(by unfold qZ7;simp only;rw [show qJh 10=true from rfl];exact ⟨rfl,rfl,rfl,rfl,rfl,rfl⟩);rw [a.1,a.2.1,a.2.2.1,a.2.2.2.1,a.2.2.2.2.1,a.2.2.2.2.2] at H;rw [show (([]:Txt).toArray:Array UInt8) = #[] from rfl] at H;clear a;simp only [Bool.true_and,Bool.false_and,Bool.not_true,if_true,Bool.false_eq_true,Bool.true_eq_false,if_false,decide_eq_true_eq,false_implies,forall_const] at f H;obtain ⟨P,S,J,K,O,z,D⟩:=Q.o w (Br w);by_cases o:60<X.length
   ·have R:Hi (M=(4,0,[])):=lH (by rw [f.o,if_pos o]);have Z:(60:Int)<(X.length:Int):=(by omega);go_enter Tryz.func91,Tryz.ntmps91
    go_wp2_with fail
    go_ret;rw [R.o];exact ⟨rfl,Below.refl _ _,fun h=>by cases h⟩
   ·rw [if_neg o] at f;have Z:¬ (60:Int)<(X.length:Int):=(by omega);cases F:d[i].hasS with
    | false=>
      rw [F] at S;have R:Hi (M=(8,0,[])):=lH (by rw [f.o,T.o,F];rfl);go_enter Tryz.func91,Tryz.ntmps91
      go_upto_region 7 with fail
      go_quiet (fail)
      go_wp2;go_ret;rw [R.o];exact ⟨rfl,Below.mono ((Br w).drewN _) p,fun h=>by cases h⟩
    | true=>
      rw [F] at S;have R:=f;rw [T.o,F] at R H;simp only [Bool.not_true,Bool.false_eq_true,if_false,forall_const] at R H;have C:=H;go_enter Tryz.func91,Tryz.ntmps91
      go_upto_region 7 with fail
      go_quiet (fail)
      go_upto_region 13 with fail
      refine qQt (E:=fun W=>Bel w W) ((Br w).drewN _) ?_;intro t y;have l:=lH y;clear y P S J K O z D;obtain ⟨K,z,D⟩:=B.o t (Below.mono l.o p);have I:=lH (C.out t.drew l.o.drew (by omega));clear f H C;go_region_held (fun w'=>w'.cell? ⟨g,1,none⟩=some (.int .i64 (i:Int))/\w'.cell? ⟨g,4,none⟩=some (.string ⟨m.toArray⟩)/\w'.cell? ⟨g,5,none⟩=some (.string ⟨X.toArray⟩)) (first | exact B.o _ (Below.mono l.o.drew p) | exact B.o _ s.o) (first | (go_at_call 122;refine I.o.mono ?_;rintro e w6 ⟨rfl,u,v⟩;have s:=lH (Below.trans (Below.mono l.o.drew p) u);have G:=lH v;clear u v))
      all_goals
       go_wp2
       go_ret
       rw [R.o]
       exact ⟨rfl,s.o,G.o⟩
  ·by_cases h9:q=9
   ·subst h9;rw [show qJh 9=false from rfl] at f H;rw [show qXu 9=true from rfl] at f H;have a:(qZ7 ⟨9,(i:Int),k,j,m,X⟩).live=false/\(qZ7 ⟨9,(i:Int),k,j,m,X⟩).tag=m/\(qZ7 ⟨9,(i:Int),k,j,m,X⟩).text=[]/\(qZ7 ⟨9,(i:Int),k,j,m,X⟩).up=0/\(qZ7 ⟨9,(i:Int),k,j,m,X⟩).hasS=false/\(qZ7 ⟨9,(i:Int),k,j,m,X⟩).inS=false:=(by unfold qZ7;simp only;rw [show qJh 9=false from rfl];exact ⟨rfl,rfl,rfl,rfl,rfl,rfl⟩);rw [a.1,a.2.1,a.2.2.1,a.2.2.2.1,a.2.2.2.2.1,a.2.2.2.2.2] at H;rw [show (([]:Txt).toArray:Array UInt8) = #[] from rfl] at H;clear a;simp only [Bool.true_and,Bool.false_and,Bool.not_false,if_true,Bool.false_eq_true,if_false,false_implies,forall_const] at f H;obtain ⟨P,S,J,K,O,z,D⟩:=Q.o w (Br w);by_cases o:name m=false
    ·have R:Hi (M=(7,0,[])):=lH (by rw [f.o,if_pos (by rw [o];rfl)]);rw [o] at N;go_enter Tryz.func91,Tryz.ntmps91
     go_wp2_with (go_at_call 119;refine (N.o _).mono ?_;rintro e V ⟨rfl,rfl⟩)
     go_ret;rw [R.o];exact ⟨rfl,Below.refl _ _,fun h=>by cases h⟩
    ·rw [if_neg (by simpa using o)] at f;rw [show name m=true by simpa using o] at N;cases F:d[i].hasS with
     | false=>
       rw [F] at S;have R:Hi (M=(8,0,[])):=lH (by rw [f.o,T.o,F];rfl);go_enter Tryz.func91,Tryz.ntmps91
       go_upto_region 7 with (go_at_call 119;refine (N.o _).mono ?_;rintro e V ⟨rfl,rfl⟩)
       go_quiet (fail)
       go_wp2;go_ret;rw [R.o];exact ⟨rfl,Below.mono ((Br w).drewN _) p,fun h=>by cases h⟩
     | true=>
       rw [F] at S;have R:=f;rw [T.o,F] at R H;simp only [Bool.not_true,Bool.false_eq_true,if_false,forall_const] at R H;have C:=H;go_enter Tryz.func91,Tryz.ntmps91
       go_upto_region 7 with (go_at_call 119;refine (N.o _).mono ?_;rintro e V ⟨rfl,rfl⟩)
       go_quiet (fail)
       go_upto_region 14 with fail
       refine qQt (E:=fun W=>Bel w W) ((Br w).drewN _) ?_;intro t y;have l:=lH y;clear y P S J K O z D;obtain ⟨K,z,D⟩:=B.o t (Below.mono l.o p);have I:=lH (C.out t.drew l.o.drew (by simpa using o));clear f H C;go_region_held (fun w'=>w'.cell? ⟨g,1,none⟩=some (.int .i64 (i:Int))/\w'.cell? ⟨g,4,none⟩=some (.string ⟨m.toArray⟩)/\w'.cell? ⟨g,5,none⟩=some (.string ⟨X.toArray⟩)) (first | exact B.o _ (Below.mono l.o.drew p) | exact B.o _ s.o) (first | (go_at_call 122;refine I.o.mono ?_;rintro e w6 ⟨rfl,u,v⟩;have s:=lH (Below.trans (Below.mono l.o.drew p) u);have G:=lH v;clear u v))
       all_goals
        go_wp2
        go_ret
        rw [R.o]
        exact ⟨rfl,s.o,G.o⟩
   ·have e2:(q==2)=false:=(by simpa using U);have Y:(q==10)=false:=(by simpa using a1);have e9:(q==9)=false:=(by simpa using h9);rw [show qJh q=false from (by unfold qJh;rw [e2,Y];rfl)] at f H;rw [show qXu q=false from (by unfold qXu;rw [e9,Y];rfl)] at f H;have a:(qZ7 ⟨q,(i:Int),k,j,m,X⟩).live=false/\(qZ7 ⟨q,(i:Int),k,j,m,X⟩).tag=m/\(qZ7 ⟨q,(i:Int),k,j,m,X⟩).text=[]/\(qZ7 ⟨q,(i:Int),k,j,m,X⟩).up=0/\(qZ7 ⟨q,(i:Int),k,j,m,X⟩).hasS=false/\(qZ7 ⟨q,(i:Int),k,j,m,X⟩).inS=false:=(by unfold qZ7;simp only;rw [show qJh q=false from (by unfold qJh;rw [e2,Y];rfl)];exact ⟨rfl,rfl,rfl,rfl,rfl,rfl⟩);rw [a.1,a.2.1,a.2.2.1,a.2.2.2.1,a.2.2.2.2.1,a.2.2.2.2.2] at H;rw [show (([]:Txt).toArray:Array UInt8) = #[] from rfl] at H;clear a;simp only [Bool.true_and,Bool.false_and,Bool.not_false,Bool.false_eq_true,if_false,false_implies,forall_const] at f H;obtain ⟨P,S,J,K,O,z,D⟩:=Q.o w (Br w);by_cases o:name m=false
    ·have R:Hi (M=(7,0,[])):=lH (by rw [f.o,if_pos (by rw [o];rfl)]);rw [o] at N;go_enter Tryz.func91,Tryz.ntmps91
     go_wp2_with (go_at_call 119;refine (N.o _).mono ?_;rintro e V ⟨rfl,rfl⟩)
     go_ret;rw [R.o];exact ⟨rfl,Below.refl _ _,fun h=>by cases h⟩
    ·rw [if_neg (by simpa using o)] at f;rw [show name m=true by simpa using o] at N;have R:=f;have C:=H;go_enter Tryz.func91,Tryz.ntmps91
     go_upto_region 7 with (go_at_call 119;refine (N.o _).mono ?_;rintro e V ⟨rfl,rfl⟩)
     go_quiet (fail)
     go_upto_region 14 with fail
     refine qQt (E:=fun W=>Bel w W) ((Br w).drewN _) ?_;intro t y;have l:=lH y;clear y P S J K O z D;obtain ⟨K,z,D⟩:=B.o t (Below.mono l.o p);have I:=lH (C.out t.drew l.o.drew (by simpa using o));clear f H C;go_region_held (fun w'=>w'.cell? ⟨g,1,none⟩=some (.int .i64 (i:Int))/\w'.cell? ⟨g,4,none⟩=some (.string ⟨m.toArray⟩)/\w'.cell? ⟨g,5,none⟩=some (.string ⟨X.toArray⟩)) (first | exact B.o _ (Below.mono l.o.drew p) | exact B.o _ s.o) (first | (go_at_call 122;refine I.o.mono ?_;rintro e w6 ⟨rfl,u,v⟩;have s:=lH (Below.trans (Below.mono l.o.drew p) u);have G:=lH v;clear u v))
     all_goals
      go_wp2
      go_ret
      rw [R.o]
      exact ⟨rfl,s.o,G.o⟩
end Go.Proofs.YtkhkbifdakikcaaGreatDoor
namespace Go.Proofs.YtkhkbifdakikcaaGreatDoor
open Go.RowKit Op
variable {d:Dc} {b base cap n:Nat} {A:Nat->Prop} {w:World}
theorem blk_self {j:Nat} {C:List Value} {e:TypeId} {u:Value} (h:Blk w b C e) (H:C[j]?=some u):w.setCell ⟨b,j,none⟩ u=w:=by
 have hg:w.heap[b]?=some (.cells C.toArray e (0,0)):=h;rw [setCell_eq_setRow w b j C.toArray e (0,0) u hg];have:C.toArray.setIfInBounds j u=C.toArray:=by
  apply Array.toList_inj.1;rw [Array.toList_setIfInBounds];show C.set j u=C;obtain ⟨c,a⟩:=List.getElem?_eq_some_iff.1 H;rw [<- a,List.set_getElem_self]
 rw [this];exact setRow_self w b C.toArray e (0,0) hg
theorem OwnD.blk (h:OwnD base A w (.slice (some ⟨b,0,none⟩) n cap) d):∃ C,Blk w b C 66:=by
 obtain ⟨l,⟨x,Q,f,q⟩,_,_⟩:=h;rcases q.2 with ⟨e,_⟩ | ⟨g,a,c,e,_,hg,_⟩
 ·simp at e
 ·simp at e;obtain ⟨rfl,_⟩:=e;exact ⟨c.toList,by simpa [Blk] using hg⟩
theorem OwnD.rowAttrs {w':World} {kv:Value} {l':List Att} (h:OwnD base A w (.slice (some ⟨b,0,none⟩) n cap) d) {i:Nat} (f:i<d.length) (c:w.cell? ⟨b,i*9+3,none⟩=some kv) (hg:w.grownBy w' kv.ownBlock)
 (r:qQb 2 qXc base 144 w' kv l') (H:b<w.heap.size) (k:kv.ownBlock≠some b):OwnD base A w' (.slice (some ⟨b,0,none⟩) n cap) (d.set i { d[i] with attrs:=l' }):=by
 obtain ⟨C,hC⟩:=h.blk;have a:Blk w' b C 66:=hC.of (hg.block b H (fun e=>k e.symm));have:=OwnD.setAttrs h rfl f c hg (kv':=kv) (l':=l') ⟨r,fun j g=>.inl g⟩ H;rw [blk_self a (by rw [<- hC.cell];exact c)] at this;exact this
theorem zXt (q g:Nat) (a:Att) (n:Txt) (w:World) (c:w.cell? ⟨q,0,none⟩=some (.pointer (some ⟨g,0,none⟩))) (e:w.cell? ⟨g,4,none⟩=some (.string ⟨n.toArray⟩)) :
 Calls Tryz.prog 120 #[.agg #[.string ⟨a.name.toArray⟩,.string ⟨a.value.toArray⟩],.pointer (some ⟨q,0,none⟩)] w (Rb (.bool (!bytesLess a.name n)) w):=by
 obtain ⟨W,H⟩:∃ W,W=w.alloc (.cells #[.string ⟨a.name.toArray⟩,.string ⟨a.value.toArray⟩] 144):=⟨_,rfl⟩;have h:Bel w W:=by rw [H];exact (Br w).alloc _
 have C:=(Bel.cells h q 0 (World.block_lt_of_cell? w _ c)).trans c;have f:=(Bel.cells h g 4 (World.block_lt_of_cell? w _ e)).trans e;have c3:W.cell? ⟨w.heap.size,0,none⟩=some (.string ⟨a.name.toArray⟩):=by rw [H];exact (Blk.new' w _ rfl _ _).cell 0
 have B:=lH h;clear c e h;go_enter Tryz.func120,Tryz.ntmps120
 go_upto_region 1 with fail
 rw [<- H];clear H;go_quiet (fail)
 go_wp2;go_ret;exact ⟨qJo (by first | rfl | simp),Bt B.o ((Br W).drewN _)⟩
theorem zXr (q g:Nat) (a:Att) (n:Txt) (w:World) (c:w.cell? ⟨q,0,none⟩=some (.pointer (some ⟨g,0,none⟩))) (e:w.cell? ⟨g,4,none⟩=some (.string ⟨n.toArray⟩)) :
 Calls Tryz.prog 89 #[.agg #[.string ⟨a.name.toArray⟩,.string ⟨a.value.toArray⟩],.pointer (some ⟨q,0,none⟩)] w (Rb (.bool (a.name==n)) w):=by
 obtain ⟨W,H⟩:∃ W,W=w.alloc (.cells #[.string ⟨a.name.toArray⟩,.string ⟨a.value.toArray⟩] 144):=⟨_,rfl⟩;have h:Bel w W:=by rw [H];exact (Br w).alloc _
 have C:=(Bel.cells h q 0 (World.block_lt_of_cell? w _ c)).trans c;have f:=(Bel.cells h g 4 (World.block_lt_of_cell? w _ e)).trans e;have c3:W.cell? ⟨w.heap.size,0,none⟩=some (.string ⟨a.name.toArray⟩):=by rw [H];exact (Blk.new' w _ rfl _ _).cell 0
 have B:=lH h;clear c e h;go_enter Tryz.func89,Tryz.ntmps89
 go_upto_region 1 with fail
 rw [<- H];clear H;go_quiet (fail)
 go_wp2;go_ret;exact ⟨qJo (by first | rfl | simp),Bt B.o ((Br W).drewN _)⟩
set_option maxRecDepth 100000
set_option maxHeartbeats 4000000
theorem qG4 (base c g:Nat) (d:Dc) (x:Chg) (w:World) (h:Ch base c w d x.node) (hX:qYd base g w x) (R:base<=w.heap.size) (aj:Good d) (hn:isM d x.node true=true) (bl:x.name.length<=9223372036854775807) (bw:x.value.length<=9223372036854775807) :
 Calls Tryz.prog 87 #[.pointer (some ⟨c,0,none⟩),.pointer (some ⟨g,0,none⟩)] w fun e w'=>e=.returned (.int .i64 (qK1 d x).1)/\Below base w w'/\((qK1 d x).1=0->Ch base c w' (qK1 d x).2.2 (qK1 d x).2.1):=by
 have bt:=aj.len;have au:=qZ0 hn;obtain ⟨c2,hK,an,hD⟩:=h;obtain ⟨i,hi,b1,-⟩:=qQy.1 au;have ab:NdOk d[i]:=by
  obtain ⟨c0,gr⟩:=aj.tree;have:=gr.ok (i:Int);rwa [qQ2 hi] at this
 obtain ⟨b,cap,av,kv,sv,rfl,z1,z2,ba,ag,b9,hN,ar,rA,_,_⟩:=hD.slots i hi;have hM:qK1 d x=if !name x.name then (7,0,[]) else if 60<x.value.length then (4,0,[]) else if 8<(zBl (nd d x.node).attrs x.name x.value).length then (5,0,[]) else (0,x.node,qZq d x.node.toNat { nd d x.node with attrs:=zBl (nd d x.node).attrs x.name x.value }):=rfl
 rw [b1,qQ2 hi,Int.toNat_natCast,qGj hi,zJm ab.rising,insA_idx ab.rising] at hM;have bs:=ab.few8;have M:=lH hM;obtain ⟨U,V,rfl,l1,l2⟩:=Rf rA.read;have aq:=hN.atts;have ah:=hK.lt;have bb:c≠b:=fun e=>b9 e.symm;obtain ⟨a,u⟩:∃ a,a=w.alloc (.cells #[.pointer (some ⟨g,0,none⟩)] 110):=⟨_,rfl⟩;have p:Bel w a:=by rw [u];exact (Br w).alloc _
 have hq:Blk a w.heap.size [.pointer (some ⟨g,0,none⟩)] 110:=by rw [u];exact Blk.new' w _ rfl _ _
 have aa:∀ W,Bel a W->qYd base g W x:=fun W H=>hX.below (Below.mono (Bt p H) R);have S:Hi (∀ W,Bel a W->W.cell? ⟨c,0,none⟩=some (.slice (some ⟨b,0,none⟩) d.length cap)/\W.cell? ⟨b,i*9+3,none⟩=some (.slice U d[i].attrs.length V)/\W.cell? ⟨w.heap.size,0,none⟩=some (.pointer (some ⟨g,0,none⟩))/\W.cell? ⟨g,1,none⟩=some (.int .i64 x.node)/\W.cell? ⟨g,4,none⟩=some (.string ⟨x.name.toArray⟩)/\W.cell? ⟨g,5,none⟩=some (.string ⟨x.value.toArray⟩)):=lH (fun W H=>⟨(hK.bel (Bt p H)).cell 0,(Bel.cells (Bt p H) b _ ag).trans aq,(hq.bel H).cell 0,(aa W H).1.cell 1,(aa W H).1.cell 4,(aa W H).1.cell 5⟩);have D:Hi (∀ W,Calls Tryz.prog 119 #[.string ⟨x.name.toArray⟩] W (Rv (.bool (name x.name)) W)):=lH (fun W=>zZo x.name W bl);have eG:=enters_of (P:=Tryz.prog) Tryz.func120 (by kernel_rfl) rfl;have a0:Hi (∀ W,Bel a W->Calls Tryz.prog 88 #[.slice U d[i].attrs.length V,.func (.func 120) #[] #[.pointer (some ⟨w.heap.size,0,none⟩)]] W (Rb (.int .i64 (if qVa x.name d[i].attrs<d[i].attrs.length then (qVa x.name d[i].attrs:Int) else -1)) W)):=lH (fun W H=>by
  have ah:=qX3 120 #[.pointer (some ⟨w.heap.size,0,none⟩)] (fun a5=>!bytesLess a5.name x.name) eG W.heap.size _ d[i].attrs W (qQa.mono (qQa.later rA.read qZg (Bt p H) (Zb _)) (fun _ h=>Zc h (Bt p H).size) (fun _ _ _ h=>h)) (Zb _) (fun W' am a5 _=>zXt w.heap.size g a5 x.name W' (S.o W' (Bt H am)).2.2.1 (S.o W' (Bt H am)).2.2.2.2.1);rw [zVl] at ah;simpa [qVa] using ah)
 have a8:Hi (∀ W,Bel a W->OwnD base (·=c) W (.slice (some ⟨b,0,none⟩) d.length cap) d/\Blk W c [.slice (some ⟨b,0,none⟩) d.length cap,.int .i64 x.node] 108/\RowO 2 qXc base 144 (fun k=>k≠b/\¬ k=c) W (.slice U d[i].attrs.length V) d[i].attrs/\Below base w W/\base<=W.heap.size/\b<W.heap.size/\W.frozen? ⟨b,i*9+3,none⟩=false):=lH (fun W H=>⟨hD.keep (Bt p H),hK.bel (Bt p H),rA.move qZg (fun k _ hl=>(Bt p H).block k hl) (fun _ h _=>h),Below.mono (Bt p H) R,Za R (Bt p H).size,Zc ag (Bt p H).size,(Bel.marks (Bt p H) b _ ag).trans (ar _)⟩);have a9:Hi (∀ (A N:Nat) W,Bel a W->A<=d[i].attrs.length->N=W.heap.size->Calls Tryz.prog 121 #[.slice U d[i].attrs.length V,.int .i64 A,.slice (some ⟨N,0,none⟩) 1 1] (W.alloc (.cells #[.string ⟨x.name.toArray⟩,.string ⟨x.value.toArray⟩] 144)).drew fun e w'=>∃ a1 n1 c1,e=.returned (.slice a1 n1 c1)/\w'.cell? ⟨b,i*9+3,none⟩=some (.slice U d[i].attrs.length V)/\w'.frozen? ⟨b,i*9+3,none⟩=false/\zKi base c g w x (d.set i { d[i] with attrs:=d[i].attrs.take A++[⟨x.name,x.value⟩]++d[i].attrs.drop A }) x.node (w'.setCell ⟨b,i*9+3,none⟩ (.slice a1 n1 c1))):=lH (fun A N W H hA b6=>by
  subst b6;obtain ⟨oD,oK,O,oB,oZ,a2,b2⟩:=a8.o W H;have t:Bel W (W.alloc (.cells #[.string ⟨x.name.toArray⟩,.string ⟨x.value.toArray⟩] 144)).drew:=((Br W).alloc _).drew;have az:=(O.move (w':=(W.alloc (.cells #[.string ⟨x.name.toArray⟩,.string ⟨x.value.toArray⟩] 144)).drew) qZg (fun b _ hl=>t.block b hl) (fun _ h _=>h));refine (zJ4 base _ d[i].attrs A W.heap.size ⟨x.name,x.value⟩ _ az.1 (Za oZ t.size) hA (by omega) (Blk.new' W _ rfl #[.string ⟨x.name.toArray⟩,.string ⟨x.value.toArray⟩] 144).drew (fun e=>by have:=(O.1.lt _ e).2;omega)).mono ?_;rintro e v ⟨c3,rfl,o2,G,f2⟩;obtain ⟨ya,yc,rfl,_,_⟩:=Rf o2.read;have aw:∀ j,(Value.slice U d[i].attrs.length V).ownBlock=some j->j≠b/\j≠c:=fun j E=>⟨(O.2 j E).1,(O.2 j E).2⟩;have ap:v.heap[b]?=W.heap[b]?:=(G.block b (Zc a2 t.size) (fun e=>(aw b e.symm).1 rfl)).trans (t.block b a2);have be:v.heap[c]?=W.heap[c]?:=(G.block c (Zc oK.lt t.size) (fun e=>(aw c e.symm).2 rfl)).trans (t.block c oK.lt);have bc:=(Bel.cells t b (i*9+3) a2).trans (S.o W H).2.1;have hb1:Below base w v:=Below.grown (Below.trans oB (Below.mono t oZ)) G (Za oZ t.size) (fun j E=>(az.1.lt j E).1);have bo:=OwnD.setAttrs (oD.keep t) rfl hi bc G (kv':=.slice ya (d[i].attrs.take A++[(⟨x.name,x.value⟩:Att)]++d[i].attrs.drop A).length yc) (l':=d[i].attrs.take A++[(⟨x.name,x.value⟩:Att)]++d[i].attrs.drop A) ⟨o2,fun j E=>by
   rcases f2 with e | ⟨bz,e,hq⟩
   ·rw [e] at E;exact .inl E
   ·rw [e] at E;cases E;exact .inr hq⟩ (Zc a2 t.size)
  have af:Below base w (v.setCell ⟨b,i*9+3,none⟩ (.slice ya (d[i].attrs.take A++[(⟨x.name,x.value⟩:Att)]++d[i].attrs.drop A).length yc)):=Below.setCell hb1 ba _;exact ⟨ya,_,yc,rfl,(World.cell?_of_block ap).trans (S.o W H).2.1,(World.frozen?_of_block ap).trans b2,⟨_,((oK.of be).other _ _ bb),an,bo⟩,af,hX.below af,Za R (by have:=af.size;simp at this ⊢;exact Za (Za (Bt p H).size t.size) G.size)⟩)
 have a3:Hi (∀ W k (q:k<d[i].attrs.length),Bel a W->∃ G,U=some ⟨G,0,none⟩/\W.cell? ⟨G,k*2,none⟩=some (.string ⟨d[i].attrs[k].name.toArray⟩)/\W.cell? ⟨G,k*2+1,none⟩=some (.string ⟨d[i].attrs[k].value.toArray⟩)/\W.frozen? ⟨G,k*2+1,none⟩=false/\zKi base c g w x (d.set i { d[i] with attrs:=d[i].attrs.set k ⟨d[i].attrs[k].name,x.value⟩ }) x.node (W.setCell ⟨G,k*2+1,none⟩ (.string ⟨x.value.toArray⟩)).drew):=lH (fun W k q H=>by
  obtain ⟨oD,oK,O,oB,oZ,a2,b2⟩:=a8.o W H;obtain ⟨G,bq,e2,hb2,_,_,br,bg⟩:=O.1.slots k q;simp at e2;obtain ⟨rfl,rfl⟩:=e2;obtain ⟨I,J⟩:=qD3 (m:=W.heap.size) O.read k q;simp only [Nat.zero_add] at I J;have b0:=O.2 G rfl;have bn:=qQb.setOne (rd':=qXc) (w':=W) (l':=d[i].attrs.set k (⟨d[i].attrs[k].name,x.value⟩:Att)) O.1 rfl rfl k q 1 (by omega) (.string ⟨x.value.toArray⟩) (by simp) (fun cs _ bd=>by
   cases bd;simp [qXc]) (fun bx hp bm ys bp=>by rw [List.getElem_set_ne (Ne.symm bm)];exact bp)
  have bh:W.grownBy (W.setCell ⟨G,k*2+1,none⟩ (.string ⟨x.value.toArray⟩)) (some G):=qFp W G _ _;have bk:=OwnD.rowAttrs oD hi (S.o W H).2.1 bh bn a2 (fun e=>b0.1 (Option.some.inj e));have ao:Below base w (W.setCell ⟨G,k*2+1,none⟩ (.string ⟨x.value.toArray⟩)):=Below.setCell oB hb2 _;exact ⟨G,rfl,I,J,bg _,⟨⟨_,(oK.other _ _ (fun e=>b0.2 e.symm)).drew,an,bk.keep (Br _).drew⟩,Below.drew' ao,hX.below (Below.drew' ao),by simpa using oZ⟩⟩)
 clear hM hD hK hX aa hN rA aq ab eG au hn ar hq;generalize qK1 d x=a4 at *
 obtain ⟨xk,xn,xd,xb,X,z⟩:=x;simp only at *
 subst b1;have a7:=lH p;obtain ⟨s,m,sq,K,f,l⟩:=S.o a (Br a);by_cases ai:name X=true
 ·rw [ai] at D;rw [ai] at M;simp only [Bool.not_true,Bool.false_eq_true,if_false] at M;by_cases ax:60<z.length
  ·have HR:Hi (a4=(4,0,[])):=lH (by rw [M.o,if_pos ax]);have hq:(60:Int)<(z.length:Int):=(by omega);go_enter Tryz.func87,Tryz.ntmps87
   go_upto_region 1 with fail
   rw [<- u];clear u;go_wp2_with (go_at_call 119;refine (D.o _).mono ?_;rintro e w1 ⟨rfl,rfl⟩)
   go_ret;rw [HR.o];exact ⟨rfl,Below.mono a7.o R,fun h=>by cases h⟩
  ·rw [if_neg ax] at M;have hq:¬ (60:Int)<(z.length:Int):=(by omega);obtain ⟨k,q⟩:∃ k,k=qVa X d[i].attrs:=⟨_,rfl⟩;by_cases T:k<d[i].attrs.length
   ·rw [<- q,if_pos T] at a0;have bu:decide ((k:Int)<0)=false:=decide_eq_false (by omega);have bj:decide ((k:Int)<(d[i].attrs.length:Int))=true:=decide_eq_true (by omega);have bv:(k:Int)<(d[i].attrs.length:Int):=(by omega);by_cases he:d[i].attrs[k].name=X
    ·
     have HR:Hi (a4=(0,(i:Int),d.set i { d[i] with attrs:=d[i].attrs.set k ⟨d[i].attrs[k].name,z⟩ })):=lH (by
      rw [M.o];simp only [<- q];rw [dif_pos T,if_pos he,if_neg (by simp;omega),he])
     clear q;go_enter Tryz.func87,Tryz.ntmps87
     go_upto_region 1 with fail
     rw [<- u];clear u;go_upto_region 5 with (go_at_call 119;refine (D.o _).mono ?_;rintro e w1 ⟨rfl,rfl⟩)
     go_quiet (fail)
     go_upto_region 6 with fail
     refine qQt (E:=fun W=>Bel a W) ((Br a).drewN _) ?_;intro W1 P;have y:=lH P;clear P s m sq K f l;obtain ⟨s,m,sq,K,f,l⟩:=S.o W1 y.o;go_upto_region 9 with (go_at_call 88;refine (a0.o _ y.o).mono ?_;rintro e v ⟨rfl,F⟩;have B:=lH (Bt y.o F);obtain ⟨s,m,sq,K,f,l⟩:=S.o _ B.o;clear F)
     obtain ⟨G,e2,I,J,cf,_⟩:=a3.o v k T B.o;subst e2;have bf:(d[i].attrs[k].name==X)=true:=(by simpa using he);go_quiet (fail)
     go_upto_region 10 with fail
     refine qQt (E:=fun W=>Bel a W) (Bt B.o ((Br v).drewN _)) ?_;intro o Q;have r:=lH Q;clear Q s m sq K f l I J cf;obtain ⟨s,m,sq,K,f,l⟩:=S.o o r.o;obtain ⟨g3,e3,I,J,cf,Y⟩:=a3.o o k T r.o;simp at e3;subst e3;have Z:=lH Y;clear Y;go_region
     refine qKh (E:=zKi base c g w ⟨xk,(i:Int),xd,xb,X,z⟩ (d.set i { d[i] with attrs:=d[i].attrs.set k ⟨d[i].attrs[k].name,z⟩ }) (i:Int)) Z.o ?_;rintro W5 ⟨al,ak,b7,b8⟩;have b4:=lH al;have b3:=lH ak;clear al ak b7 b8 s m sq K f l I J cf;go_wp2;go_ret;rw [HR.o];exact ⟨rfl,b3.o,fun _=>b4.o⟩
    ·
     have C:Hi (a4=if 8<d[i].attrs.length+1 then (5,0,[]) else (0,(i:Int),d.set i { d[i] with attrs:=d[i].attrs.take k++[⟨X,z⟩]++d[i].attrs.drop k })):=lH (by
      rw [M.o];simp only [<- q];rw [dif_pos T,if_neg he,show (d[i].attrs.take k++[(⟨X,z⟩:Att)]++d[i].attrs.drop k).length=d[i].attrs.length+1 from by simp;omega])
     clear q;go_enter Tryz.func87,Tryz.ntmps87
     go_upto_region 1 with fail
     rw [<- u];clear u;go_upto_region 5 with (go_at_call 119;refine (D.o _).mono ?_;rintro e w1 ⟨rfl,rfl⟩)
     go_quiet (fail)
     go_upto_region 6 with fail
     refine qQt (E:=fun W=>Bel a W) ((Br a).drewN _) ?_;intro W1 P;have y:=lH P;clear P s m sq K f l;obtain ⟨s,m,sq,K,f,l⟩:=S.o W1 y.o;go_upto_region 9 with (go_at_call 88;refine (a0.o _ y.o).mono ?_;rintro e v ⟨rfl,F⟩;have B:=lH (Bt y.o F);obtain ⟨s,m,sq,K,f,l⟩:=S.o _ B.o;clear F)
     obtain ⟨G,e2,I,J,cf,_⟩:=a3.o v k T B.o;subst e2;have bf:(d[i].attrs[k].name==X)=false:=(by simpa using he);go_quiet (fail)
     obtain ⟨A,hA⟩:∃ A,A=k:=⟨_,rfl⟩;rw [<- hA] at C;have b5:A<=d[i].attrs.length:=(by omega);have a6:=lH (fun W N H hN=>a9.o A N W H b5 hN);subst hA;clear I J cf;go_upto_region 12 with fail
     refine qQt (E:=fun W=>Bel a W) (Bt B.o ((Br v).drewN _)) ?_;intro o Q;have r:=lH Q;clear Q s m sq K f l;obtain ⟨s,m,sq,K,f,l⟩:=S.o o r.o;by_cases h8:8<d[i].attrs.length+1
     ·have ae:(8:Int)<=(d[i].attrs.length:Int):=(by omega);rw [if_pos h8] at C;go_wp2;go_ret;rw [C.o];exact ⟨rfl,Below.mono (Bt a7.o r.o) R,fun h=>by cases h⟩
     ·have ae:¬ (8:Int)<=(d[i].attrs.length:Int):=(by omega);rw [if_neg h8] at C;go_upto_region 14 with fail
      have ac:=lH (a6.o o _ r.o rfl);obtain ⟨t0,t3,tq,u1,u4,u5⟩:=S.o (o.alloc (.cells #[.string ⟨X.toArray⟩,.string ⟨z.toArray⟩] 144)) (Bt r.o ((Br o).alloc _));clear a6 a9 a0 D a3 a8 S M t0 tq u1;have ad:=lH (enters_of (P:=Tryz.prog) Tryz.func121 (by kernel_rfl) rfl);go_region_law (refine qZ6 rfl 121 ad.o #[.tmp 78,.tmp 79,.tmp 89] _ rfl (vs:=#[.slice (some ⟨G,0,none⟩) d[i].attrs.length V,.int .i64 (A:Nat),.slice (some ⟨o.heap.size,0,none⟩) 1 1]) ?hv ac.o ?_;(case hv=>simp [Act.eval]);rintro e w6 ⟨ya,yn,yc,rfl,x6,f6,Y⟩;refine ⟨_,rfl,?_⟩;have Z:=lH Y;clear Y)
      all_goals
       go_wp2
       go_ret
       rw [C.o]
       exact ⟨rfl,Z.o.2.1,fun _=>Z.o.1⟩
   ·have bi:qVa X d[i].attrs=d[i].attrs.length:=by
     have:=List.findIdx_le_length (p:=fun a5:Att=>!bytesLess a5.name X) (xs:=d[i].attrs);have h2:k<=d[i].attrs.length:=(by rw [q];exact this);omega
    rw [<- q,if_neg T] at a0;have bj:¬ ((d[i].attrs.length:Int)<(d[i].attrs.length:Int)):=(by omega);have C:Hi (a4=if 8<d[i].attrs.length+1 then (5,0,[]) else (0,(i:Int),d.set i { d[i] with attrs:=d[i].attrs.take d[i].attrs.length++[⟨X,z⟩]++d[i].attrs.drop d[i].attrs.length })):=lH (by
     rw [M.o];simp only [<- q];rw [dif_neg T,List.take_length,List.drop_length,List.append_nil,Zj];rfl)
    clear q bi;go_enter Tryz.func87,Tryz.ntmps87
    go_upto_region 1 with fail
    rw [<- u];clear u;go_upto_region 5 with (go_at_call 119;refine (D.o _).mono ?_;rintro e w1 ⟨rfl,rfl⟩)
    go_quiet (fail)
    go_upto_region 6 with fail
    refine qQt (E:=fun W=>Bel a W) ((Br a).drewN _) ?_;intro W1 P;have y:=lH P;clear P s m sq K f l;obtain ⟨s,m,sq,K,f,l⟩:=S.o W1 y.o;go_upto_region 9 with (go_at_call 88;refine (a0.o _ y.o).mono ?_;rintro e v ⟨rfl,F⟩;have B:=lH (Bt y.o F);obtain ⟨s,m,sq,K,f,l⟩:=S.o _ B.o;clear F)
    go_quiet (fail)
    have a6:=lH (fun W N H hN=>a9.o d[i].attrs.length N W H (Zb _) hN);go_upto_region 12 with fail
    refine qQt (E:=fun W=>Bel a W) (Bt B.o ((Br v).drewN _)) ?_;intro o Q;have r:=lH Q;clear Q s m sq K f l;obtain ⟨s,m,sq,K,f,l⟩:=S.o o r.o;by_cases h8:8<d[i].attrs.length+1
    ·have ae:(8:Int)<=(d[i].attrs.length:Int):=(by omega);rw [if_pos h8] at C;go_wp2;go_ret;rw [C.o];exact ⟨rfl,Below.mono (Bt a7.o r.o) R,fun h=>by cases h⟩
    ·have ae:¬ (8:Int)<=(d[i].attrs.length:Int):=(by omega);rw [if_neg h8] at C;go_upto_region 14 with fail
     have ac:=lH (a6.o o _ r.o rfl);obtain ⟨t0,t3,tq,u1,u4,u5⟩:=S.o (o.alloc (.cells #[.string ⟨X.toArray⟩,.string ⟨z.toArray⟩] 144)) (Bt r.o ((Br o).alloc _));clear a6 a9 a0 D a3 a8 S M t0 tq u1;have ad:=lH (enters_of (P:=Tryz.prog) Tryz.func121 (by kernel_rfl) rfl);go_region_law (refine qZ6 rfl 121 ad.o #[.tmp 78,.tmp 79,.tmp 89] _ rfl (vs:=#[.slice U d[i].attrs.length V,.int .i64 (d[i].attrs.length:Nat),.slice (some ⟨o.heap.size,0,none⟩) 1 1]) ?hv ac.o ?_;(case hv=>simp [Act.eval]);rintro e w6 ⟨ya,yn,yc,rfl,x6,f6,Y⟩;refine ⟨_,rfl,?_⟩;have Z:=lH Y;clear Y)
     all_goals
      go_wp2
      go_ret
      rw [C.o]
      exact ⟨rfl,Z.o.2.1,fun _=>Z.o.1⟩
 ·have ay:name X=false:=by simpa using ai
  rw [ay] at D;have HR:Hi (a4=(7,0,[])):=lH (by rw [M.o,ay];rfl);go_enter Tryz.func87,Tryz.ntmps87
  go_upto_region 1 with fail
  rw [<- u];clear u;go_wp2_with (go_at_call 119;refine (D.o _).mono ?_;rintro e w1 ⟨rfl,rfl⟩)
  go_ret;rw [HR.o];exact ⟨rfl,Below.mono a7.o R,fun h=>by cases h⟩

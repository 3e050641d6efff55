/- A change in place, whole. -/
import Derived.Test.YtkhkbifdakikcaaGreatDoorDomSetR
set_option maxRecDepth 100000
set_option maxHeartbeats 4000000
namespace Go.Proofs.YtkhkbifdakikcaaGreatDoor
open Go.RowKit Op
def oneM (d:Dc) (x:Chg):Int×Int×Dc:=if x.kind=5 then qK1 d x else if x.kind=6 then qGq d x else if x.kind=8 then qHz d x else qXk d x
theorem zK4 (base c g:Nat) (d:Dc) (x:Chg) (w:World) (h:Ch base c w d x.node) (hX:qYd base g w x) (q:base<=w.heap.size) (a4:Good d) (hn:isM d x.node true=true) (ao:x.name.length<=9223372036854775807) (ap:x.value.length<=9223372036854775807) :
 Calls Tryz.prog 48 #[.pointer (some ⟨c,0,none⟩),.pointer (some ⟨g,0,none⟩)] w fun e w'=>e=.returned (.int .i64 (oneM d x).1)/\Below base w w'/\((oneM d x).1=0->Ch base c w' (oneM d x).2.2 (oneM d x).2.1):=by
 have am:=qZ0 hn;obtain ⟨f,m⟩:∃ f,f=w.alloc (.cells #[.pointer (some ⟨g,0,none⟩)] 110):=⟨_,rfl⟩;have l:Bel w f:=by rw [m];exact (Br w).alloc _
 have hq:Blk f w.heap.size [.pointer (some ⟨g,0,none⟩)] 110:=by rw [m];exact Blk.new' w _ rfl _ _
 have I:∀ W,Bel f W->qYd base g W x:=fun W H=>hX.below (Below.mono (Bt l H) q);have Q:=lH (Below.mono l q);have cA:=lH (qG4 base c g d x f (h.bel l) (I f (Br f)) (Za q l.size) a4 hn ao ap);have cI:=lH (qD8 base c g d x f (h.bel l) (I f (Br f)) (Za q l.size) a4 hn ao ap);obtain ⟨v,hK,ah,hD⟩:=h;obtain ⟨i,u,a3,-⟩:=qQy.1 am;have a8:NdOk d[i]:=by
  obtain ⟨r,gr⟩:=a4.tree;have:=gr.ok (i:Int);rwa [qQ2 u] at this
 obtain ⟨b,b0,av,kv,sv,rfl,z1,z2,ag,J,b4,hN,a6,rA,_,_⟩:=hD.slots i u;have ak:c≠b:=fun e=>b4 e.symm;obtain ⟨la,lc,rfl,l1,l2⟩:=Rf rA.read;have b9:=a8.few8;have ae:qKr d x.node x.name=qJc d[i].attrs x.name:=by unfold qKr;rw [if_pos hn,a3,qQ2 u]
 have hO:oneM d x=if x.kind=5 then qK1 d x else if x.kind=6 then qGq d x else if x.kind=8 then qHz d x else qXk d x:=rfl
 have ab:qGq d x=if d[i].attrs.findIdx (fun a=>a.name==x.name)<d[i].attrs.length then (0,x.node,d.set i { d[i] with attrs:=d[i].attrs.eraseIdx (d[i].attrs.findIdx (fun a=>a.name==x.name)) }) else (6,0,[]):=by
  unfold qGq;rw [ae,zB8];by_cases F:d[i].attrs.findIdx (fun a=>a.name==x.name)<d[i].attrs.length
  ·rw [if_pos F,if_neg (by simpa using F),a3,qQ2 u,Int.toNat_natCast,qGj u,zHz a8.rising F]
  ·rw [if_neg F,if_pos (by simpa using F)]
 have ac:qHz d x=if x.node=0||d[i].hasS||d[i].tag==qJr then (8,0,[]) else (0,x.node,d.set i { d[i] with hasS:=true }):=by
  unfold qHz;rw [a3,qQ2 u,Int.toNat_natCast,qGj u]
 rw [ab,ac] at hO;have O:=lH hO;have S:Hi (∀ W,Bel f W->W.cell? ⟨c,0,none⟩=some (.slice (some ⟨b,0,none⟩) d.length b0)/\W.cell? ⟨b,i*9+3,none⟩=some (.slice la d[i].attrs.length lc)/\W.cell? ⟨b,i*9+6,none⟩=some (.bool d[i].hasS)/\W.cell? ⟨b,i*9+1,none⟩=some (.string ⟨d[i].tag.toArray⟩)/\W.cell? ⟨w.heap.size,0,none⟩=some (.pointer (some ⟨g,0,none⟩))/\W.cell? ⟨g,0,none⟩=some (.int .i64 x.kind)/\W.cell? ⟨g,1,none⟩=some (.int .i64 x.node)/\W.cell? ⟨g,4,none⟩=some (.string ⟨x.name.toArray⟩)):=lH (fun W H=>⟨(hK.bel (Bt l H)).cell 0,(Bel.cells (Bt l H) b _ J).trans hN.atts,(Bel.cells (Bt l H) b _ J).trans hN.hasS,(Bel.cells (Bt l H) b _ J).trans hN.tag,(hq.bel H).cell 0,(I W H).1.cell 0,(I W H).1.cell 1,(I W H).1.cell 4⟩);have eG:=enters_of (P:=Tryz.prog) Tryz.func89 (by kernel_rfl) rfl;have U:Hi (∀ W,Bel f W->Calls Tryz.prog 88 #[.slice la d[i].attrs.length lc,.func (.func 89) #[] #[.pointer (some ⟨w.heap.size,0,none⟩)]] W (Rb (.int .i64 (if d[i].attrs.findIdx (fun a=>a.name==x.name)<d[i].attrs.length then (d[i].attrs.findIdx (fun a=>a.name==x.name):Int) else -1)) W)):=lH (fun W H=>by
  have al:=qX3 89 #[.pointer (some ⟨w.heap.size,0,none⟩)] (fun a=>a.name==x.name) eG W.heap.size _ d[i].attrs W (qQa.mono (qQa.later rA.read qZg (Bt l H) (Zb _)) (fun _ h=>Zc h (Bt l H).size) (fun _ _ _ h=>h)) (Zb _) (fun W' ad a _=>zXr w.heap.size g a x.name W' (S.o W' (Bt H ad)).2.2.2.2.1 (S.o W' (Bt H ad)).2.2.2.2.2.2.2);rw [zVl] at al;simpa using al)
 have az:Hi (∀ k W,Bel f W->k<d[i].attrs.length->Calls Tryz.prog 90 #[.slice la d[i].attrs.length lc,.int .i64 (k:Nat),.int .i64 ((k:Int)+1)] W fun e w'=>∃ a1 n1 c1,e=.returned (.slice a1 n1 c1)/\w'.cell? ⟨b,i*9+3,none⟩=some (.slice la d[i].attrs.length lc)/\w'.frozen? ⟨b,i*9+3,none⟩=false/\zKi base c g w x (d.set i { d[i] with attrs:=d[i].attrs.eraseIdx k }) x.node (w'.setCell ⟨b,i*9+3,none⟩ (.slice a1 n1 c1))):=lH (fun k W H Y=>by
  have p:=Bt l H;have oZ:=Za q p.size;have oR:=rA.move (w':=W) qZg (fun k _ F=>p.block k F) (fun _ h _=>h);refine (zJd base _ d[i].attrs k W oR.1 Y (by omega)).mono ?_;rintro e P ⟨bc,rfl,o2,V,f2⟩;obtain ⟨ya,yc,rfl,_,_⟩:=Rf o2.read;have an:∀ j,(Value.slice la d[i].attrs.length lc).ownBlock=some j->j≠b/\j≠c:=fun j N=>⟨(oR.2 j N).1,(oR.2 j N).2⟩;have aq:=Zc J p.size;have oK:=hK.bel p;have aj:P.heap[b]?=W.heap[b]?:=V.block b aq (fun e=>(an b e.symm).1 rfl);have b5:P.heap[c]?=W.heap[c]?:=V.block c oK.lt (fun e=>(an c e.symm).2 rfl);have hb1:Below base w P:=Below.grown (Below.mono p q) V oZ (fun j N=>(oR.1.lt j N).1);have b6:=OwnD.setAttrs (hD.keep p) rfl u (S.o W H).2.1 V (kv':=.slice ya (d[i].attrs.eraseIdx k).length yc) (l':=d[i].attrs.eraseIdx k) ⟨o2,fun j N=>.inl (by rw [<- f2];exact N)⟩ aq;have af:Below base w (P.setCell ⟨b,i*9+3,none⟩ (.slice ya (d[i].attrs.eraseIdx k).length yc)):=Below.setCell hb1 ag _;exact ⟨ya,_,yc,rfl,(World.cell?_of_block aj).trans (S.o W H).2.1,(World.frozen?_of_block aj).trans ((Bel.marks p b _ J).trans (a6 _)),⟨_,((oK.of b5).other _ _ ak),ah,b6⟩,af,hX.below af,by simpa using Za oZ V.size⟩)
 have ay:Hi (∀ W,Bel f W->W.frozen? ⟨b,i*9+6,none⟩=false/\zKi base c g w x (d.set i { d[i] with hasS:=true }) x.node (W.setCell ⟨b,i*9+6,none⟩ (.bool true)).drew):=lH (fun W H=>by
  have p:=Bt l H;have E:=OwnD.field (hD.keep p) rfl u { d[i] with hasS:=true } 6 (by omega) (u:=.bool true) (fun _ _ _=>rfl) ⟨rfl,rfl,rfl⟩;have ai:Below base w (W.setCell ⟨b,i*9+6,none⟩ (.bool true)).drew:=Below.drew' (Below.setCell (Below.mono p q) ag _);exact ⟨(Bel.marks p b _ J).trans (a6 _),⟨_,((hK.bel p).other _ _ ak).drew,ah,E.keep (Br _).drew⟩,ai,hX.below ai,by simpa using Za q p.size⟩)
 clear hO hD hK hX I hN rA a8 eG am hn a6 hq ab ac ae;generalize oneM d x=M at *
 generalize qK1 d x=MA at *
 generalize qXk d x=MI at *
 obtain ⟨X,xn,xd,xb,au,xv⟩:=x;simp only at *
 subst a3;obtain ⟨D,y,s,z,sq,B,K,C⟩:=S.o f (Br f);by_cases h5:X=5
 ·subst h5;have R:Hi (M=MA):=lH (by rw [O.o,if_pos rfl]);go_enter Tryz.func48,Tryz.ntmps48
  go_upto_region 1 with fail
  rw [<- m];clear m;go_wp2_with (go_at_call 87;refine cA.o.mono ?_;rintro e w1 ⟨rfl,T,E⟩;have o:=lH (Below.trans Q.o T);have a5:=lH E;clear T E)
  go_ret;rw [R.o];exact ⟨rfl,o.o,a5.o⟩
 ·have e5:(X==5)=false:=by simpa using h5
  by_cases h6:X=6
  ·subst h6;obtain ⟨k,Y⟩:∃ k,k=d[i].attrs.findIdx (fun a=>a.name==au):=⟨_,rfl⟩;rw [<- Y] at U O;by_cases Z:k<d[i].attrs.length
   ·rw [if_pos Z] at U;have R:Hi (M=(0,(i:Int),d.set i { d[i] with attrs:=d[i].attrs.eraseIdx k })):=lH (by rw [O.o,if_neg (by decide),if_pos rfl,if_pos Z]);clear Y;have ba:decide ((k:Int)<0)=false:=decide_eq_false (by omega);go_enter Tryz.func48,Tryz.ntmps48
    go_upto_region 1 with fail
    rw [<- m];clear m;go_upto_region 5 with fail
    go_quiet (fail)
    go_upto_region 6 with fail
    refine qQt (E:=fun W=>Bel f W) ((Br f).drewN _) ?_;intro G t;have o:=lH t;clear t D y s z sq B K C;obtain ⟨D,y,s,z,sq,B,K,C⟩:=S.o G o.o;have bb:IntKind.i64.wrap ((k:Int)+1)=(k:Int)+1:=(by rw [IntKind.wrap_i64];omega);go_wp2_with (first
 | (go_at_call 88;refine (U.o _ o.o).mono ?_;rintro e P ⟨rfl,b2⟩;have a0:=lH (Bt o.o b2);obtain ⟨D,y,s,z,sq,B,K,C⟩:=S.o _ a0.o;clear b2)
 | (go_at_call 90;refine (az.o k _ a0.o Z).mono ?_;rintro e w6 ⟨ya,yn,yc,rfl,x6,f6,ar⟩;have a2:=lH ar;clear ar))
    go_ret
    rw [R.o]
    exact ⟨rfl,a2.o.2.1,fun _=>a2.o.1⟩
   ·rw [if_neg Z] at U
    have R:Hi (M=(6,0,[])):=lH (by rw [O.o,if_neg (by decide),if_pos rfl,if_neg Z])
    clear Y
    go_enter Tryz.func48,Tryz.ntmps48
    go_upto_region 1 with fail
    rw [<- m]
    clear m
    go_upto_region 5 with fail
    go_quiet (fail)
    go_upto_region 6 with fail
    refine qQt (E:=fun W=>Bel f W) ((Br f).drewN _) ?_
    intro G t
    have o:=lH t
    have b8:=lH (Below.mono t (Za q l.size))
    clear t D y s z sq B K C
    obtain ⟨D,y,s,z,sq,B,K,C⟩:=S.o G o.o
    go_wp2_with (go_at_call 88;refine qQe (U.o _ o.o) o fun P a0=>?_)
    go_ret
    rw [R.o]
    exact ⟨rfl,Below.mono (Bt l a0.o) q,fun h=>by cases h⟩
  ·have e6:(X==6)=false:=by simpa using h6
   by_cases h8:X=8
   ·subst h8
    by_cases a7:i=0
    ·subst a7
     have R:Hi (M=(8,0,[])):=lH (by rw [O.o,if_neg (by decide),if_neg (by decide),if_pos rfl,if_pos (by simp)])
     simp at K y s z
     go_enter Tryz.func48,Tryz.ntmps48
     go_upto_region 1 with fail
     rw [<- m]
     clear m
     go_upto_region 12 with fail
     go_quiet (fail)
     go_wp2
     go_ret
     rw [R.o]
     exact ⟨rfl,Below.trans Q.o (Below.mono ((Br f).drewN _) (Za q l.size)),fun h=>by cases h⟩
    ·have e0:((i:Int)==0)=false:=by simpa using a7
     cases hs:d[i].hasS with
     | true=>
       rw [hs] at s;have R:Hi (M=(8,0,[])):=lH (by rw [O.o,if_neg (by decide),if_neg (by decide),if_pos rfl,if_pos (by rw [hs];simp)]);go_enter Tryz.func48,Tryz.ntmps48
       go_upto_region 1 with fail
       rw [<- m];clear m;go_upto_region 12 with fail
       go_quiet (fail)
       go_wp2;go_ret;rw [R.o];exact ⟨rfl,Below.trans Q.o (Below.mono ((Br f).drewN _) (Za q l.size)),fun h=>by cases h⟩
     | false=>
       rw [hs] at s;cases ht:d[i].tag==qJr with
       | true=>
         have R:Hi (M=(8,0,[])):=lH (by rw [O.o,if_neg (by decide),if_neg (by decide),if_pos rfl,if_pos (by rw [ht];simp)]);have b7:(d[i].tag==[115,108,111,116])=true:=ht;go_enter Tryz.func48,Tryz.ntmps48
         go_upto_region 1 with fail
         rw [<- m];clear m;go_upto_region 12 with fail
         go_quiet (fail)
         go_wp2;go_ret;rw [R.o];exact ⟨rfl,Below.trans Q.o (Below.mono ((Br f).drewN _) (Za q l.size)),fun h=>by cases h⟩
       | false=>
         have R:Hi (M=(0,(i:Int),d.set i { d[i] with hasS:=true })):=lH (by rw [O.o,if_neg (by decide),if_neg (by decide),if_pos rfl,if_neg (by rw [ht,hs];simpa using a7)]);have b7:(d[i].tag==[115,108,111,116])=false:=ht;go_enter Tryz.func48,Tryz.ntmps48
         go_upto_region 1 with fail
         rw [<- m];clear m;go_upto_region 12 with fail
         go_quiet (fail)
         go_upto_region 14 with fail
         refine qQt (E:=fun W=>Bel f W) ((Br f).drewN _) ?_;intro G t;have o:=lH t;clear t D y s z sq B K C;obtain ⟨D,y,s,z,sq,B,K,C⟩:=S.o G o.o;obtain ⟨fz,hst⟩:=ay.o G o.o;have a2:=lH hst;clear hst;go_region
         refine qKh (E:=zKi base c g w ⟨8,(i:Int),xd,xb,au,xv⟩ (d.set i { d[i] with hasS:=true }) (i:Int)) a2.o ?_;rintro W5 ⟨aa,a9,b1,b3⟩;have ax:=lH aa;have aw:=lH a9;clear aa a9 b1 b3 D y s z sq B K C fz;go_wp2;go_ret;rw [R.o];exact ⟨rfl,aw.o,fun _=>ax.o⟩
   ·have e8:(X==8)=false:=by simpa using h8
    have R:Hi (M=MI):=lH (by rw [O.o,if_neg h5,if_neg h6,if_neg h8])
    go_enter Tryz.func48,Tryz.ntmps48
    go_upto_region 1 with fail
    rw [<- m]
    clear m
    go_wp2_with (go_at_call 91;refine cI.o.mono ?_;rintro e w1 ⟨rfl,T,E⟩;have o:=lH (Below.trans Q.o T);have a5:=lH E;clear T E)
    go_ret
    rw [R.o]
    exact ⟨rfl,o.o,a5.o⟩
end Go.Proofs.YtkhkbifdakikcaaGreatDoor
namespace Go.Proofs.YtkhkbifdakikcaaGreatDoor
open Go.RowKit
variable {d:Dc} {r:Int×Int×Dc} {base k n:Nat} {A:Nat->Prop} {v:Value} {w w':World}
theorem zWu (d:Dc) (x:Chg):qQ8 d x=if x.kind=3 then qD4 d x else if x.kind=4 then removeM d x else if x.kind=7 then sayM d x else if (nd d x.node).tag.isEmpty then (8,0,[]) else oneM d x:=by
 unfold qQ8 oneM;rfl
def lenC (c:Nat) (w:World):Nat:=match w.cell? ⟨c,0,none⟩ with | some v=>lenV v | none=>0
theorem Ch.cut {c:Nat} {n:Int} {a:Option Addr} {C:Nat} (H:Blk w c [.slice a (k+1) C,.int .i64 n] 108) (b:base<=c) (h:OwnD base (·=c) w (.slice a (k+1) C) d):Ch base c (w.setCell ⟨c,0,none⟩ (.slice a k C)) (d.take k) n:=
 ⟨_,H.set 0 _,b,h.cut.other rfl _ _⟩
theorem qFy {K:Exit->Act->World->Prop} {x:Exit} {a:Act} {W:World} {E:World->Prop} (hE:E W) (h:∀ w,E w->Exit.inBlock n K x a w):Exit.inBlock n K x a W:=h W hE
theorem OwnD.also {q:Nat} (h:OwnD base A w v d) (B:Bel w w') (i:w.heap.size<=q) (j:q<w'.heap.size):OwnD base (fun k=>A k∨k=q) w' v d:=by
 obtain ⟨m,a,⟨b,e,E,f⟩,c,g⟩:=h.open;have o:=(a.lt b e).2;refine ⟨m,a.change (fun k H=>B.block k (a.lt k H).2) (fun C x l=>l.move (fun k H _ _=>⟨B.block k H,rfl⟩)),⟨b,e,E,?_⟩,fun k H=>?_⟩
 ·rintro (h | h)
  ·exact f h
  ·omega
 ·rcases H with H | rfl
  ·exact ⟨(c k H).1,Zc (c k H).2 B.size⟩
  ·exact ⟨g _ i,j⟩
def RemE (base c q:Nat) (C:List Value) (w0:World) (d:Dc) (n:Int) (W:World):Prop:=ChQ base c q W d n/\Blk W q C 3/\Bel w0 W/\base<=W.heap.size
theorem zBz:(d.take (k+1)).take k=d.take k:=by rw [List.take_take,Nat.min_eq_left (Nat.le_succ k)]
theorem OwnD.docIn (h:OwnD base A w v d) (a:n<=base):qKc (fun b=>n<=b/\b<w.heap.size) w v d:=by
 obtain ⟨l,g,_,_⟩:=h;have c:qQa 9 (qYp l base) (fun b=>n<=b/\b<w.heap.size) w v d.zipIdx:=g.row.mono (fun _ H=>⟨Za a H.1,H.2.1⟩) (fun _ _ _ h=>h);have:=qQa.map (rd':=qDj (fun b=>n<=b/\b<w.heap.size)) (·.1) c (fun C x _ c=>by
  obtain ⟨f,K,s,e,R,i,j⟩:=c;exact ⟨f,K,s,e,R.1.row.mono (fun _ H=>⟨Za a H.1,H.2.1⟩) (fun _ _ _ h=>h),i.1.row.mono (fun _ H=>⟨Za a H.1,H.2.1⟩) (fun _ _ _ h=>h),j.1.row.mono (fun _ H=>⟨Za a H.1,H.2.1⟩) (fun _ _ _ h=>h)⟩)
 rw [zYe] at this;exact this
abbrev qKp (w:World) (r:Int×Int×Dc):Ending->World->Prop:=Rn w fun w' y=>∃ u,y=.tuple #[u,.int .i64 r.2.1,.int .i64 r.1]/\qKc (fun b=>w.heap.size<=b/\b<w'.heap.size) w' u r.2.2
theorem qKp.no {e:Int} (h:r=(e,0,[])) (H:Bel w w'):qKp w r (.returned (.tuple #[.slice none 0 0,.int .i64 0,.int .i64 e])) w':=by
 subst h;exact ⟨H,_,rfl,_,rfl,qQa.nil⟩
theorem qKp.yes {u:Value} {n:Int} (h:r=(0,n,d)) (H:Bel w w') (hd:qKc (fun b=>w.heap.size<=b/\b<w'.heap.size) w' u d):qKp w r (.returned (.tuple #[u,.int .i64 n,.int .i64 0])) w':=by
 subst h;exact ⟨H,_,rfl,_,rfl,hd⟩
theorem zX1 (m:Nat) (v:Value) (d:Dc) (x:Chg) (w:World) (hv:qZh m w v d) (hm:m<=w.heap.size) (af:Good d) (db:x.name.length<=9223372036854775807) (df:x.value.length<=9223372036854775807) :
 Calls Tryz.prog 18 #[v,chgV x] w (qKp w (qQ7 d x)):=by
 obtain ⟨va,vc,rfl,v1,v2⟩:=Rf hv;have dn:=af.len;have dc:0<d.length:=by obtain ⟨r,Q⟩:=af.tree;exact Q.pos
 obtain ⟨a,G⟩:∃ a,a=w.alloc (.cells #[.int .i64 x.kind,.int .i64 x.node,.int .i64 x.dest,.int .i64 x.before,.string ⟨x.name.toArray⟩,.string ⟨x.value.toArray⟩] 36):=⟨_,rfl⟩;have bi:Bel w a:=by rw [G];exact (Br w).alloc _
 have hq:Blk a w.heap.size (zWh x) 36:=by rw [G];exact Blk.new' w _ rfl _ _
 have d6:w.heap.size<a.heap.size:=hq.lt;have HV:=lH hv;have J:=lH bi;have Z:=lH af;have a8:Hi (∀ W,Bel a W->qYd a.heap.size w.heap.size W x):=lH (fun W f=>⟨hq.bel f,d6⟩);have ac:Hi (∀ W,qYd a.heap.size w.heap.size W x->W.cell? ⟨w.heap.size,0,none⟩=some (.int .i64 x.kind)/\W.cell? ⟨w.heap.size,1,none⟩=some (.int .i64 x.node)/\W.cell? ⟨w.heap.size,5,none⟩=some (.string ⟨x.value.toArray⟩)):=lH (fun W h=>⟨h.1.cell 0,h.1.cell 1,h.1.cell 5⟩);obtain ⟨k0,k1,k5⟩:=ac.o a (a8.o a (Br a));have cI:=lH (qQ5 m _ d x.node false a (hv.later bi hm));clear hq hv;by_cases O:x.kind<1
 ·have H:Hi (qQ7 d x=(1,0,[])):=lH (by unfold qQ7;rw [if_pos (by simp [O])]);have hd:decide (x.kind<1)=true:=decide_eq_true O;unfold chgV;go_enter Tryz.func18,Tryz.ntmps18
  go_upto_region 1 with fail
  rw [<- G];clear G;go_wp2;go_ret3;exact qKp.no H.o J.o
 by_cases c2:10<x.kind
 ·have H:Hi (qQ7 d x=(1,0,[])):=lH (by unfold qQ7;rw [if_pos (by simp [c2])]);have hd:decide (x.kind<1)=false:=decide_eq_false O;have d4:decide (x.kind > 10)=true:=decide_eq_true c2;unfold chgV;go_enter Tryz.func18,Tryz.ntmps18
  go_upto_region 1 with fail
  rw [<- G];clear G;go_wp2;go_ret3;exact qKp.no H.o J.o
 have hd:decide (x.kind<1)=false:=decide_eq_false O;have d4:decide (x.kind > 10)=false:=decide_eq_false c2;cases hi:isM d x.node false with
 | false=>
   have H:Hi (qQ7 d x=(6,0,[])):=lH (by unfold qQ7;rw [if_neg (by simp [O,c2]),if_pos (by simp [hi])]);rw [hi] at cI;unfold chgV;go_enter Tryz.func18,Tryz.ntmps18
   go_upto_region 1 with fail
   rw [<- G];clear G;go_wp2_with (go_at_call 13;refine cI.o.mono ?_;rintro e w1 ⟨rfl,rfl⟩)
   go_ret3;exact qKp.no H.o J.o
 | true=>
   have N:=lH hi;rw [hi] at cI;have bh:qQ7 d x=if (qQ8 d x).1=0 then (0,(qQ8 d x).2.1,qYz (qQ8 d x).2.2) else ((qQ8 d x).1,0,[]):=by unfold qQ7;rw [if_neg (by simp [O,c2]),if_neg (by simp [hi])]
   have ag:=lH bh;have bt:=lH (fun he=>qBo Z.o hi he);have a3:=lH (zWu d x);clear bh;have cO:Hi (∀ W,Bel a W->Calls Tryz.prog 44 #[.slice va d.length vc] W (fun e w'=>∃ a1 n1 O,e=.returned (.slice a1 n1 O)/\Below a.heap.size W w'/\OwnD a.heap.size (fun _=>False) w' (.slice a1 n1 O) d/\w'.cell? ⟨w.heap.size,1,none⟩=some (.int .i64 x.node)/\Bel a w')):=lH (fun W f=>by
    refine (qGe m _ d W (HV.o.later (Bt J.o f) hm) (Za hm (Bt J.o f).size) (by omega) (fun y I=>by
     obtain ⟨k,hk,rfl⟩:=List.getElem_of_mem I;have:=qK9 Z.o (k:Int);rw [qQ2 hk] at this;omega)).mono ?_
    rintro e w' ⟨b1,y,rfl,o1⟩;have o2:=OwnD.of_P o1 (List.ne_nil_of_length_pos dc);obtain ⟨dj,l,z,h3⟩:=o2;have o3:OwnD a.heap.size (fun _=>False) w' y d:=⟨dj,(l.base_le f.size).change (fun _ _=>rfl) (fun cs p hr=>by
     obtain ⟨av,kv,sv,e,r1,r2,r3⟩:=hr;exact ⟨av,kv,sv,e,r1.base_le f.size (fun _ h=>h),r2.base_le f.size (fun _ h=>h),r3.base_le f.size (fun _ h=>h)⟩),z,h3⟩
    obtain ⟨ya,yc,rfl,_,_⟩:=Rf o3.doc;exact ⟨ya,_,yc,rfl,Below.mono b1 f.size,o3,((a8.o _ (Bt f b1)).1).cell 1,Bt f b1⟩)
   unfold chgV;go_enter Tryz.func18,Tryz.ntmps18
   go_upto_region 1 with fail
   rw [<- G];clear G;go_upto_region 5 with (go_at_call 13;refine cI.o.mono ?_;rintro e w1 ⟨rfl,rfl⟩)
   go_cut [7] from 25 to 30 (fun p w2=>∃ c,p=.pointer (some ⟨c,0,none⟩)/\Ch a.heap.size c w2 d x.node/\qYd a.heap.size w.heap.size w2 x/\Bel a w2)
   case first=>
    go_region_with (first | (go_at_call 44;refine (cO.o _ (Br a).drew).mono ?_;rintro e w1 ⟨ya,yn,yc,rfl,b1,o1,k1,b2⟩;have ah:=lH b2;have cn:=lH o1;clear b1 o1 b2))
    all_goals
     go_wp2_with fail
     go_meet
     exact ⟨w1.heap.size,rfl,⟨_,Blk.new' w1 _ rfl _ _,ah.o.size,(cn.o.box _).less (fun _ h=>.inr h)⟩,a8.o _ (ah.o.alloc _),ah.o.alloc _⟩
   case rest=>
    obtain ⟨c,rfl,bp,bx,bj⟩:=hcut;have a6:=lH bp;have a9:=lH bx;have o:=lH bj;clear bp bx bj k0 k1 k5 cO;obtain ⟨k0,k1,k5⟩:=ac.o _ a9.o;have aa:=lH o.o.size;obtain ⟨i,a2,aw,-⟩:=qQy.1 N.o;obtain ⟨vb,dz,dy,_,_,_,e1,-,-,_,U⟩:=(HV.o.later (Bt J.o o.o) hm).node i a2;simp at e1;obtain ⟨rfl,rfl⟩:=e1;have tg:=U.tag;have c7:(nd d x.node).tag=d[i].tag:=(by rw [aw,qQ2 a2]);have a4:=lH c7;clear U c7;have ak:=lH aw;clear aw;have ki:(0:Int)<=x.node/\x.node<(d.length:Int)/\x.node.toNat=i:=(by rw [ak.o];omega);obtain ⟨dh,di,cc⟩:=ki;go_upto_block 0 with fail
    go_cut [8,9,11] from 31 to 117 (fun e _ _ w3=>e=.int .i64 (qQ8 d x).1/\Bel a w3/\((qQ8 d x).1=0->Ch a.heap.size c w3 (qQ8 d x).2.2 (qQ8 d x).2.1))
    case first=>
     by_cases E:x.kind=3
     ·have H:Hi (qQ8 d x=qD4 d x):=lH (by rw [a3.o,if_pos E]);have b3:(x.kind==3)=true:=(by simpa using E);have E3:=lH E;clear E;have cM:=lH (zJg a.heap.size c w.heap.size d x _ a6.o a9.o aa.o Z.o N.o);go_wp2_with (go_at_call 45;refine cM.o.mono ?_;rintro e w3 ⟨rfl,b4,h4⟩;have ab:=lH (Below.trans o.o b4);have cf:=lH h4;clear b4 h4)
      go_meet
      rw [H.o];exact ⟨rfl,ab.o,cf.o⟩
     ·have b3:(x.kind==3)=false:=(by simpa using E);by_cases s:x.kind=4
      ·have b4:(x.kind==4)=true:=(by simpa using s);have a5:Hi (qQ8 d x=removeM d x):=lH (by rw [a3.o,if_neg E,if_pos s]);have E4:=lH s;clear s E;by_cases n0:x.node=0
       ·have bn:(x.node==0)=true:=(by simpa using n0);have H:Hi (qQ8 d x=(8,0,[])):=lH (by rw [a5.o,removeM,if_pos n0]);have N0:=lH n0;clear n0;go_wp2;go_meet
        rw [H.o];exact ⟨rfl,o.o,fun h=>by cases h⟩
       ·have bn:(x.node==0)=false:=(by simpa using n0);have H:Hi (qQ8 d x=(0,x.node,qZn (qZ5 d x.node) (allM d x.node))):=lH (by rw [a5.o,removeM,if_neg n0]);have cb:=zZ2 Z.o N.o n0;have d5:=qK9 Z.o (nd d x.node).up;obtain ⟨r,Q⟩:=Z.o.tree;have dm:=zJb Q N.o;have al:Hi (∀ y∈allM d x.node,isM d y false=true):=lH (fun y I=>qBq Q N.o I);have cz:allM d x.node≠[]:=by
         intro e;have l:=(qXx Q 100 x.node x.node N.o (by omega)).2 (.here N.o);have z:x.node∈allM d x.node:=l;rw [e] at z;simp at z
        have bu:=(ends Q N.o (f:=100) (by omega));have au:(qZ5 d x.node).length=d.length:=take_length cb;obtain ⟨v2,K2,a0,X⟩:=a6.o;obtain ⟨b,C,_,_,_,rfl,_,_,an,_,am,_⟩:=X.slots i a2;have bd:=lH K2;have ba:=lH X;have HS:Hi (∀ W,Bel wc W->W.cell? ⟨c,0,none⟩=some (.slice (some ⟨b,0,none⟩) d.length C)/\W.cell? ⟨w.heap.size,1,none⟩=some (.int .i64 x.node)):=lH (fun W f=>⟨(bd.o.bel f).cell 0,(a9.o.1.bel f).cell 1⟩);have cr:Hi (∀ W,Bel wc W->Calls Tryz.prog 46 #[.slice (some ⟨b,0,none⟩) d.length C,.int .i64 x.node] W (Rn W fun w' y=>qQb 1 qQf W.heap.size 3 w' y (allM d x.node))):=lH (fun W f=>qVy 100 wc.heap.size _ d x.node W (ba.o.doc.later f (Zb _)) f.size bu (by show (allM d x.node).length<=_;omega));have cv:Hi (∀ q W,Bel wc W->wc.heap.size<=q->q<W.heap.size->Calls Tryz.prog 47 #[.pointer (some ⟨c,0,none⟩),.int .i64 x.node] W fun e w'=>(∃ y,e=.returned y)/\Below a.heap.size W w'/\ChQ a.heap.size c q w' (qZ5 d x.node) x.node/\(q<W.heap.size->w'.heap[q]?=W.heap[q]?)):=lH (fun q W f l z=>qBf a.heap.size c q d x.node x.node W ⟨_,bd.o.bel f,a0,ba.o.also f l z⟩ (Za aa.o f.size) N.o cb (by omega));generalize hL:allM d x.node=L at *
        clear hL K2 X Q bu d5;go_upto_region 13 with fail
        obtain ⟨S,s1⟩:=HS.o wc (Br wc);go_region_held (fun w'=>w'.cell? ⟨c,0,none⟩=some (.slice (some ⟨b,0,none⟩) d.length C)/\w'.cell? ⟨w.heap.size,1,none⟩=some (.int .i64 x.node)) (first | exact HS.o _ (Br wc).drew | exact HS.o _ K.o) (first | (go_at_call 46;refine (cr.o _ (Br wc).drew).mono ?_;rintro e w5 ⟨b5,y5,rfl,o5⟩;obtain ⟨q,qc,ae,rfl,c8,c9,dt,du,dv,ca⟩:=zZ6 o5 cz;have K:=lH (Bt (Br wc).drew b5);have aj:=lH c9;have a7:=lH ca;have de:wc.heap.size<=q:=c8;clear b5 o5 c8 c9 ca))
        all_goals
         have bo:∀ p (h:p<L.length),ae[p]?=some (.int .i64 L[p]):=by
          intro p h;have:=congrArg (fun dl=>dl[p]?) a7.o;simp only [List.getElem?_take,h,if_true,List.getElem?_map,Zi h,Option.map_some] at this;exact this
         have ce:=lH bo
         clear bo S s1 k0 k1 k5
         obtain ⟨k0,k1,k5⟩:=ac.o _ (a8.o _ (Bt o.o K.o))
         have cu:=lH (cv.o q _ K.o de aj.o.lt)
         go_upto_region 15 with (go_at_call 47;refine cu.o.mono ?_;rintro e w6 ⟨⟨y6,rfl⟩,b6,h6,q6⟩;have M:=lH (Below.trans (Bt o.o K.o) b6);have cg:=lH h6;have co:=lH (aj.o.of (q6 aj.o.lt));have cp:Hi (a.heap.size<=w6.heap.size):=lH (Za (Za aa.o K.o.size) b6.size);clear b6 h6 q6)
         go_wp2
         go_loopw [65,11] (fun ay _ wr=>∃ j:Nat,j<=L.length/\ay=.int .i64 j/\RemE a.heap.size c q ae a (qZn (qZ5 d x.node) (L.take j)) x.node wr) (fun ay _ _=>L.length - (intOf ay).toNat)
         case atStart=>exact ⟨0,by omega,rfl,cg.o,co.o,M.o,cp.o⟩
         case round=>
          obtain ⟨j,hj,rfl,hC,hQ,hB,hZ⟩:=hrel;have b0:=lH hB;have bf:=lH hQ;have bg:=lH hZ;by_cases aq:j<L.length
          ·have cj:=(hQ.cell j).trans (ce.o j aq);obtain ⟨k,d8,bw,-⟩:=qQy.1 (al.o _ (Zl aq));rw [bw] at cj;have ao:∀ ad:List Int,(∀ y∈ad,y∈L)->(qZn (qZ5 d x.node) ad).length=d.length:=fun ad V=>by
            rw [zGv ad (fun y I=>by have:=qJq (al.o y (V y I));have h0:=(qQh.1 (al.o y (V y I))).1;omega),au]
           have ap:k<(qZn (qZ5 d x.node) (L.take j)).length:=(by rw [ao _ (fun y I=>List.mem_of_mem_take I)];exact d8);have da:Hi (qZn (qZ5 d x.node) (L.take (j+1))=(qZn (qZ5 d x.node) (L.take j)).set k {}):=lH (by
            rw [Zk aq,zW3,bw,Int.toNat_natCast,qGj ap])
           obtain ⟨v8,T,_,Y⟩:=hC;obtain ⟨b8,cw,_,_,_,rfl,_,_,d1,_,bz,B,F,_⟩:=Y.slots k ap;rw [ao _ (fun y I=>List.mem_of_mem_take I)] at T Y;have S:wr.cell? ⟨c,0,none⟩=some (.slice (some ⟨b8,0,none⟩) d.length cw):=T.cell 0;have y0:=B.live;have y1:=B.tag;have y2:=B.text;have y3:=B.atts;have y4:=B.up;have y5:=B.kids;have y6:=B.hasS;have y7:=B.shadow;have y8:=B.inS;have f0:=F (k*9);have f1:=F (k*9+1);have f2:=F (k*9+2);have f3:=F (k*9+3);have f4:=F (k*9+4);have f5:=F (k*9+5);have f6:=F (k*9+6);have f7:=F (k*9+7);have f8:=F (k*9+8);have d0:Hi (RemE a.heap.size c q ae a (qZn (qZ5 d x.node) (L.take (j+1))) x.node (storeAll wr b8 (k*9) [.bool false,.string ⟨#[]⟩,.string ⟨#[]⟩,.slice none 0 0,.int .i64 0,.slice none 0 0,.bool false,.slice none 0 0,.bool false])):=lH (by
            obtain ⟨o1,o2⟩:=OwnD.whole Y rfl ap ({}:Nd) ⟨rfl,rfl,rfl⟩;rw [<- da.o] at o1;exact ⟨⟨_,T.of (o2.block c T.lt (fun e=>bz (.inl (Option.some.inj e).symm))),a0,o1⟩,bf.o.of (o2.block q bf.o.lt (fun e=>bz (.inr (Option.some.inj e).symm))),Below.grown b0.o o2 bg.o (fun j hj=>by cases hj;exact d1),Za bg.o o2.size⟩)
           clear B F T Y hB hQ hZ ao;go_wp2;go_roundw;case rel=>exact ⟨j+1,by omega,by go_num,d0.o⟩
           case measure=>simp [intOf];omega
          ·have hT:L.take j=L:=Zn (by omega);rw [hT] at hC;obtain ⟨v8,T,d2,Y⟩:=hC;have ci:Hi (Ch a.heap.size c wr (qZn (qZ5 d x.node) L) x.node):=lH ⟨v8,T,d2,Y.less (fun _ h=>.inl h)⟩;clear T Y hB hQ hZ;go_wp2;go_meet
           rw [H.o];exact ⟨rfl,b0.o,fun _=>ci.o⟩
      ·have b4:(x.kind==4)=false:=(by simpa using s);by_cases P:x.kind=7
       ·have b7:(x.kind==7)=true:=(by simpa using P);have a5:Hi (qQ8 d x=sayM d x):=lH (by rw [a3.o,if_neg E,if_neg s,if_pos P]);have E7:=lH P;clear P s E;cases t:d[i].tag.isEmpty with
        | false=>
          have dw:(d[i].tag==[])=false:=(by cases h:d[i].tag <;> simp [h] at t ⊢);have d9:(⟨d[i].tag.toArray⟩:ByteArray)≠⟨#[]⟩:=by
           intro e;have:=congrArg (fun b:ByteArray=>b.data.toList) e;simp at this;rw [this] at t;simp at t
          have H:Hi (qQ8 d x=(8,0,[])):=lH (by rw [a5.o,sayM,a4.o,if_pos (by rw [t];rfl)]);go_wp2;go_meet
          rw [H.o];exact ⟨rfl,o.o,fun h=>by cases h⟩
        | true=>
          have ar:d[i].tag=[]:=(by simpa using t);rw [ar] at tg;by_cases c6:60<x.value.length
          ·have hq:(60:Int)<(x.value.length:Int):=(by omega);have H:Hi (qQ8 d x=(8,0,[])):=lH (by rw [a5.o,sayM,if_pos (by rw [decide_eq_true c6];simp)]);go_wp2;go_meet
           rw [H.o];exact ⟨rfl,o.o,fun h=>by cases h⟩
          ·have hq:¬ (60:Int)<(x.value.length:Int):=(by omega);have H:Hi (qQ8 d x=(0,x.node,d.set i { d[i] with text:=x.value })):=lH (by
            rw [a5.o,sayM,a4.o,if_neg (by rw [t,decide_eq_false c6];simp),cc,qGj a2,ak.o,qQ2 a2])
           go_upto_region 23 with fail
           obtain ⟨v2,K2,a0,X⟩:=a6.o;obtain ⟨b,C,_,_,_,rfl,_,_,an,_,am,U,c4,_⟩:=X.slots i a2;have S:wc.cell? ⟨c,0,none⟩=some (.slice (some ⟨b,0,none⟩) d.length C):=K2.cell 0;have y2:=U.text;have f2:=c4 (i*9+2);have d3:c≠b:=fun e=>am e.symm;have HE:Hi (Bel a (wc.setCell ⟨b,i*9+2,none⟩ (.string ⟨x.value.toArray⟩)).drew/\Ch a.heap.size c (wc.setCell ⟨b,i*9+2,none⟩ (.string ⟨x.value.toArray⟩)).drew (d.set i { d[i] with text:=x.value }) x.node):=lH (by
            have l:=OwnD.field X rfl a2 { d[i] with text:=x.value } 2 (by omega) (u:=.string ⟨x.value.toArray⟩) (fun _ _ _=>rfl) ⟨rfl,rfl,rfl⟩;exact ⟨Below.drew' (Below.setCell o.o an _),_,(K2.other _ _ d3).drew,a0,l.keep (Br _).drew⟩)
           clear K2 X U c4;go_region
           refine qFy (E:=fun W=>Bel a W/\Ch a.heap.size c W (d.set i { d[i] with text:=x.value }) x.node) HE.o ?_;rintro W5 ⟨bl,br⟩;have K:=lH bl;have a7:=lH br;clear bl br S y2 f2;go_wp2;go_meet
           rw [H.o];exact ⟨rfl,K.o,fun _=>a7.o⟩
       ·have b7:(x.kind==7)=false:=(by simpa using P);cases t:d[i].tag.isEmpty with
        | true=>
          have ar:d[i].tag=[]:=(by simpa using t);rw [ar] at tg;have H:Hi (qQ8 d x=(8,0,[])):=lH (by rw [a3.o,if_neg E,if_neg s,if_neg P,a4.o,if_pos t]);clear E s P;go_wp2;go_meet
          rw [H.o];exact ⟨rfl,o.o,fun h=>by cases h⟩
        | false=>
          have H:Hi (qQ8 d x=oneM d x):=lH (by rw [a3.o,if_neg E,if_neg s,if_neg P,a4.o,if_neg (by rw [t];simp)]);have c1:isM d x.node true=true:=qJe.2 ⟨N.o,by rw [a4.o];intro h;rw [h] at t;simp at t⟩;have ct:=lH (zK4 a.heap.size c w.heap.size d x _ a6.o a9.o aa.o Z.o c1 db df);clear E s P c1;go_wp2_with (go_at_call 48;refine ct.o.mono ?_;rintro e w3 ⟨rfl,b5,h5⟩;have K:=lH (Below.trans o.o b5);have a7:=lH h5;clear b5 h5)
          go_meet
          rw [H.o];exact ⟨rfl,K.o,a7.o⟩
    case rest=>
     obtain ⟨rfl,bk,bq⟩:=hcut;have az:=lH bk;have b9:=lH bq;clear bk bq k0 k1 k5 tg dh di cc a9 a6 o ac a8 a3 a4 ak aa;generalize qQ8 d x=cq at *
     obtain ⟨e,n,D⟩:=cq;simp only at *
     by_cases he:e=0
     ·subst he;have H:Hi (qQ7 d x=(0,n,qYz D)):=lH (by rw [ag.o,if_pos rfl]);obtain ⟨cy,dr⟩:=bt.o rfl;have ds:0<D.length:=(by obtain ⟨r,Q⟩:=cy;exact Q.pos);have HC:=lH (b9.o rfl);clear ag bt b9;go_wp2;go_loopw [] (fun wr=>∃ j:Nat,j+1<=D.length/\Ch a.heap.size c wr (D.take (j+1)) n/\(∀ q (h:q<D.length),j+1<=q->D[q].live=false)/\Bel a wr) (fun wr=>lenC c wr)
      case atStart=>exact ⟨D.length - 1,by omega,by rw [show D.length - 1+1=D.length by omega,List.take_length];exact HC.o,fun q h z=>by omega,az.o⟩
      case round=>
       obtain ⟨j,hj,hC,c0,hB⟩:=hrel;obtain ⟨v4,K4,a0,D4⟩:=hC;have au:(D.take (j+1)).length=j+1:=(by rw [List.length_take];omega);obtain ⟨b,C,_,_,_,rfl,dg,dx,an,_,am,U,_,_⟩:=D4.slots j (by omega);rw [au] at K4 D4 dg;have S:wr.cell? ⟨c,0,none⟩=some (.slice (some ⟨b,0,none⟩) (j+1) C):=K4.cell 0;have sn:wr.cell? ⟨c,1,none⟩=some (.int .i64 n):=K4.cell 1;have fc:=K4.frozen 0;have y0:=U.live;rw [List.getElem_take] at y0;have R:=lH K4;have bb:=lH D4;have ai:=lH c0;have ab:=lH hB;clear K4 D4 U c0 hB;have c3:∀ W,Bel wr W->qYz D=D.take (j+1)->qKp w (qQ7 d x) (.returned (.tuple #[.slice (some ⟨b,0,none⟩) (j+1) C,.int .i64 n,.int .i64 0])) W:=fun W f t=>by
        have l:=(bb.o.keep f).docIn (n:=w.heap.size) (by first | exact Zb _ | omega | (have:=J.o.size;omega));rw [<- t] at l;exact qKp.yes H.o (Bt J.o (Bt ab.o f)) l
       have bc:=lH c3;clear c3;by_cases d7:j=0
       ·subst d7;have t:Hi (qYz D=D.take (0+1)):=lH (zGn (by omega) (by omega) ai.o (.inl rfl));simp at S;go_upto_region 28 with fail
        go_quiet (fail)
        go_upto_region 30 with fail
        refine qQt (E:=fun W=>Bel wr W) ((Br wr).drewN _) ?_;intro u g;have M:=lH g;have ax:u.cell? ⟨c,0,none⟩=some (.slice (some ⟨b,0,none⟩) 1 C):=(R.o.bel g).cell 0;have dk:u.cell? ⟨c,1,none⟩=some (.int .i64 n):=(R.o.bel g).cell 1;clear g S sn fc;go_quiet (fail)
        go_wp2;go_ret3;exact bc.o _ (Bt M.o ((Br u).drewN _)) t.o
       ·have dp:decide (((j:Int)+1) > 1)=true:=decide_eq_true (by omega);have dq:(1:Int)<(j:Int)+1:=(by omega);cases V:D[j].live with
        | true=>
          rw [V] at y0;have t:Hi (qYz D=D.take (j+1)):=lH (zGn (by omega) (by omega) ai.o (.inr ⟨by simpa using (by omega:j<D.length),by simpa using V⟩));go_upto_region 28 with fail
          go_quiet (fail)
          go_upto_region 30 with fail
          refine qQt (E:=fun W=>Bel wr W) ((Br wr).drewN _) ?_;intro u g;have M:=lH g;have ax:u.cell? ⟨c,0,none⟩=some (.slice (some ⟨b,0,none⟩) (j+1) C):=(R.o.bel g).cell 0;have dk:u.cell? ⟨c,1,none⟩=some (.int .i64 n):=(R.o.bel g).cell 1;clear g S sn fc y0;go_quiet (fail)
          go_wp2;go_ret3;exact bc.o _ (Bt M.o ((Br u).drewN _)) t.o
        | false=>
          rw [V] at y0;go_upto_region 28 with fail
          go_quiet (fail)
          go_upto_region 29 with fail
          refine qQt (E:=fun W=>Bel wr W) ((Br wr).drewN _) ?_;intro u g;have M:=lH g;have ax:u.cell? ⟨c,0,none⟩=some (.slice (some ⟨b,0,none⟩) (j+1) C):=(R.o.bel g).cell 0;have cx:=(R.o.bel g).frozen 0;clear g S sn fc y0;obtain ⟨k,rfl⟩:∃ k,j=k+1:=⟨j - 1,by omega⟩;have be:=lH (R.o.bel M.o);have ck:=lH (bb.o.keep M.o);have c5:lenC c wr=k+1+1:=(by unfold lenC;rw [R.o.cell 0];rfl);have cm:=lH c5;have HL:=lH V;clear c5 V;go_region
          refine qFy (E:=fun W=>Bel a W/\Ch a.heap.size c W (D.take (k+1)) n/\lenC c W=k+1) ?hE ?_;case hE=>
           have l:=Ch.cut (k:=k+1) be.o a0 ck.o;rw [zBz] at l;refine ⟨Below.drew' (Below.setCell (Bt ab.o M.o) a0 _),l.bel (Br _).drew,?_⟩;unfold lenC;have z:(u.setCell ⟨c,0,none⟩ (.slice (some ⟨b,0,none⟩) (k+1) C)).drew.cell? ⟨c,0,none⟩=some (.slice (some ⟨b,0,none⟩) (k+1) C):=(be.o.set 0 _).drew.cell 0;rw [z];rfl
          rintro W7 ⟨bm,bs,bv⟩;have cd:=lH bm;have ch:=lH bs;have cl:=lH bv;clear bm bs bv ax cx;go_roundw;case rel=>
           iterate 36 apply Exists.intro
           refine ⟨⟨k,by omega,ch.o,fun q h z=>?_,cd.o⟩,rfl⟩;by_cases dd:q=k+1
           ·subst dd;exact HL.o
           ·exact ai.o q h (by omega)
          case measure=>rw [cm.o,cl.o];omega
     ·have H:Hi (qQ7 d x=(e,0,[])):=lH (by rw [ag.o,if_neg he]);have d9:(e != 0)=true:=(by simpa using he);go_wp2;go_ret3;exact qKp.no H.o (Bt J.o az.o)

/- A plain change: what comes of it is the same document but for a text, or attributes that are only told. -/
import Derived.Test.YtklbmkaomojciaaGreatDocLaws
namespace Go.Proofs.YtklbmkaomojciaaGreat
def qKk (x:Chg):Bool:=x.kind==7||((x.kind==5||x.kind==6)&&qYx.contains x.name)
theorem qYe {d:Dc} {a b:Int} (h:a.toNat=b.toNat):nd d a=nd d b:=by unfold nd;rw [h]
theorem zWs {n v s:Txt} (hs:s≠n):∀ l:List Att,qZ9 (insA n v l) s=qZ9 l s:=by
 have hn:((⟨n,v⟩:Att).name==s)=false:=by simpa using fun e:n=s=>hs e.symm
 intro l
 induction l with
 | nil=>
   unfold insA qZ9
   rw [List.find?_cons,hn]
 | cons a l ih=>
   unfold insA
   split
   ·rename_i h
    have ha:(a.name==s)=false:=by simpa using fun e:a.name=s=>hs (e.symm.trans h)
    unfold qZ9
    rw [List.find?_cons,List.find?_cons,hn,ha]
   ·split
    ·unfold qZ9 at ih ⊢
     rw [List.find?_cons,List.find?_cons]
     cases h:(a.name==s) with
     | true=>rfl
     | false=>exact ih
    ·unfold qZ9
     rw [List.find?_cons,hn]
theorem zXt {n s:Txt} (hs:s≠n):∀ l:List Att,qZ9 (l.filter (fun a=>a.name != n)) s=qZ9 l s:=by
 intro l
 induction l with
 | nil=>rfl
 | cons a l ih=>
   unfold qZ9 at ih ⊢
   rw [List.filter_cons]
   split
   ·rw [List.find?_cons,List.find?_cons]
    cases h:(a.name==s) with
    | true=>rfl
    | false=>exact ih
   ·rename_i h
    have h:a.name=n:=by simpa using h
    have ha:(a.name==s)=false:=by simpa using fun e:a.name=s=>hs (e.symm.trans h)
    rw [List.find?_cons,ha]
    exact ih
theorem zX1 {d y:Dc} {k:Int} {X:Nd} (g:Good d) (gy:Good y) (hk:isM d k false=true) (hy:∀ n,nd y n=nd (qZm d k.toNat X) n)
 (hl:X.live=(nd d k).live) (ht:X.tag=(nd d k).tag) (hu:X.up=(nd d k).up) (hkd:X.kids=(nd d k).kids) (hh:X.hasS=(nd d k).hasS) (hsh:X.shadow=(nd d k).shadow) (hi:X.inS=(nd d k).inS)
 (ha:∀ s,s∉qYx->qZ9 X.attrs s=qZ9 (nd d k).attrs s):SameBut d y k:=by
 have hkl:=qJo hk
 have hw:∀ n,nd y n=if n.toNat=k.toNat then X else nd d n:=fun n=>by rw [hy,qBl (by omega)]
 have live:∀ n,(nd y n).live=(nd d n).live:=fun n=>by
  rw [hw];split
  ·rename_i h;rw [hl,qYe h]
  ·rfl
 have tag:∀ n,(nd y n).tag=(nd d n).tag:=fun n=>by
  rw [hw];split
  ·rename_i h;rw [ht,qYe h]
  ·rfl
 have len:y.length=d.length:=by
  have key:∀ {a b:Dc},Good a->(∃ r,G0 qQk 16 r b)->(∀ n,(nd a n).live=(nd b n).live)->a.length<=b.length:=by
   intro a b ga hb H
   obtain ⟨r,h0⟩:=hb
   rcases ga.last with h1 | h1
   ·have:=h0.pos;omega
   ·have h2:=qQh.1 h1
    rw [H] at h2
    have:=(qJo (qQh.2 h2)).1
    omega
  exact Nat.le_antisymm (key gy g.tree live) (key g gy.tree (fun n=>(live n).symm))
 refine ⟨len,live,tag,?_,?_,?_,?_,?_,?_,?_⟩
 ·intro n;rw [hw];split
  ·rename_i h;rw [hu,qYe h]
  ·rfl
 ·intro n;rw [hw];split
  ·rename_i h;rw [hkd,qYe h]
  ·rfl
 ·intro n;rw [hw];split
  ·rename_i h;rw [hh,qYe h]
  ·rfl
 ·intro n;rw [hw];split
  ·rename_i h;rw [hsh,qYe h]
  ·rfl
 ·intro n;rw [hw];split
  ·rename_i h;rw [hi,qYe h]
  ·rfl
 ·intro n s hs
  have e:isM y n true=isM d n true:=by
   unfold isM
   rw [len,live,tag]
  unfold qKo
  rw [e]
  split
  ·rw [hw];split
   ·rename_i h;rw [ha s hs,qYe h]
   ·rfl
  ·rfl
 ·intro n h0 hn
  rw [hw,if_neg (by omega)]
theorem zV0 {d:Dc} {x:Chg} (g:Good d) (he:(qQ4 d x).1=0) (hp:qKk x=true):SameBut d (qQ4 d x).2.2 x.node/\isM d x.node false=true/\(qQ4 d x).2.1=x.node:=by
 have gy:=qHs g he
 revert he gy
 unfold qQ4
 split
 ·intro he;simp at he
 ·rename_i c1
  split
  ·intro he;simp at he
  ·rename_i c2
   have hk:isM d x.node false=true:=by simpa using c2
   split
   ·rename_i c3
    intro _ gy
    dsimp only at gy ⊢
    obtain ⟨⟨r,g1⟩,_⟩:=qBb g hk c3
    have ht:=g1.trim.1
    have hin:qYx.contains x.name=true->∀ s,s∉qYx->s≠x.name:=fun h s hs e=>hs (by rw [e];simpa using h)
    generalize hD:qYu (qQ7 d x).2.2=D at *
    unfold qQ7 at c3 ht ⊢
    unfold qKk at hp
    simp only [Bool.or_eq_true,Bool.and_eq_true,beq_iff_eq] at hp
    rcases hp with h7 | ⟨h5 | h6,hn⟩
    ·simp only [h7,show ¬ ((7:Int)=3) by decide,show ¬ ((7:Int)=4) by decide,if_false,if_true] at c3 ht ⊢
     unfold sayM at c3 ht ⊢
     split at c3
     ·simp at c3
     ·rename_i c4
      rw [if_neg c4] at ht ⊢
      exact ⟨zX1 g gy hk ht rfl rfl rfl rfl rfl rfl rfl (fun _ _=>rfl),hk,rfl⟩
    ·simp only [h5,show ¬ ((5:Int)=3) by decide,show ¬ ((5:Int)=4) by decide,show ¬ ((5:Int)=7) by decide,if_false,if_true] at c3 ht ⊢
     split at c3
     ·simp at c3
     ·rename_i c4
      rw [if_neg c4] at ht ⊢
      unfold qKu at c3 ht ⊢
      split at c3
      ·simp at c3
      ·rename_i c5
       rw [if_neg c5] at ht ⊢
       split at c3
       ·simp at c3
       ·rename_i c6
        rw [if_neg c6] at ht ⊢
        split at c3
        ·simp at c3
        ·rename_i c7
         rw [if_neg c7] at ht ⊢
         obtain ⟨r0,g0⟩:=g.tree
         refine ⟨zX1 g gy hk ht rfl rfl rfl rfl rfl rfl rfl (fun s hs=>?_),hk,rfl⟩
         rw [zZl (g0.ok x.node).rising]
         exact zWs (hin hn s hs) _
    ·simp only [h6,show ¬ ((6:Int)=3) by decide,show ¬ ((6:Int)=4) by decide,show ¬ ((6:Int)=7) by decide,show ¬ ((6:Int)=5) by decide,if_false,if_true] at c3 ht ⊢
     split at c3
     ·simp at c3
     ·rename_i c4
      rw [if_neg c4] at ht ⊢
      unfold qH0 at c3 ht ⊢
      split at c3
      ·simp at c3
      ·rename_i c5
       rw [if_neg c5] at ht ⊢
       exact ⟨zX1 g gy hk ht rfl rfl rfl rfl rfl rfl rfl (fun s hs=>zXt (hin hn s hs) _),hk,rfl⟩
   ·intro he;exact absurd he (by assumption)
end Go.Proofs.YtklbmkaomojciaaGreat
set_option maxRecDepth 100000
set_option maxHeartbeats 1000000
namespace Go.Proofs.YtklbmkaomojciaaGreat
open Go.RowKit
structure Me where
 node:Int
 name:Txt
 about:Txt
 uses:List Int
def meOf (n:Int) (m:Mm):Me:=⟨n,m.name,m.about,m.uses⟩
def qHk (m:Me) (v:Value):List Value:=[.int .i64 m.node,.string ⟨m.name.toArray⟩,.string ⟨m.about.toArray⟩,v]
def rdMe (B:Nat->Prop):World->List Value->Me->Prop:=fun w cs m=>∃ v,cs=qHk m v/\qQa 1 qQf B w v m.uses
abbrev qJ3 (B:Nat->Prop) (w:World) (v:Value) (l:List Me):Prop:=qQa 4 (rdMe B) B w v l
theorem rdMe.agree {B:Nat->Prop} {w w':World} (ha:qZs B w w') {cs:List Value} {m:Me} (h:rdMe B w cs m):rdMe B w' cs m:=by
 obtain ⟨v,h1,h2⟩:=h
 exact ⟨v,h1,h2.agree ha (fun _ _ _ h=>h)⟩
theorem rdMe.mono {B C:Nat->Prop} {w:World} (hc:∀ b,B b->C b) {cs:List Value} {m:Me} (h:rdMe B w cs m):rdMe C w cs m:=by
 obtain ⟨v,h1,h2⟩:=h
 exact ⟨v,h1,h2.mono hc (fun _ _ _ h=>h)⟩
theorem qJ3.agree {B:Nat->Prop} {w w':World} {v:Value} {l:List Me} (h:qJ3 B w v l) (ha:qZs B w w'):qJ3 B w' v l:=qQa.agree h ha (fun _ _ _ hr=>hr.agree ha)
theorem qJ3.mono {B C:Nat->Prop} {w:World} {v:Value} {l:List Me} (h:qJ3 B w v l) (hc:∀ b,B b->C b):qJ3 C w v l:=qQa.mono h hc (fun _ _ _ hr=>hr.mono hc)
theorem qJ3.later {n m:Nat} {w w':World} {v:Value} {l:List Me} (h:qJ3 (·<n) w v l) (hb:Below m w w') (hn:n<=m):qJ3 (·<n) w' v l:=
 h.agree (qZs.mono (qZs.below hb) (fun _ hb=>Zc hb hn))
theorem qJ3.up {n:Nat} {w w':World} {v:Value} {l:List Me} (h:qJ3 (·<n) w v l) (hb:Bel w w') (hn:n<=w.heap.size):qJ3 (·<w'.heap.size) w' v l:=
 (h.later hb hn).mono (fun _ h=>Zc (Zc h hn) hb.size)
structure MeC (B:Nat->Prop) (w:World) (b o:Nat) (m:Me) (uv:Value):Prop where
 node:w.cell? ⟨b,o,none⟩=some (.int .i64 m.node)
 name:w.cell? ⟨b,o+1,none⟩=some (.string ⟨m.name.toArray⟩)
 about:w.cell? ⟨b,o+2,none⟩=some (.string ⟨m.about.toArray⟩)
 uses:w.cell? ⟨b,o+3,none⟩=some uv
 usesAt:qQa 1 qQf B w uv m.uses
theorem qJ3.item {B:Nat->Prop} {w:World} {v:Value} {l:List Me} (h:qJ3 B w v l) (i:Nat) (hi:i<l.length) :
 ∃ b off cap uv,v=.slice (some ⟨b,off,none⟩) l.length cap/\l.length<=cap/\cap<=9223372036854775807/\B b/\MeC B w b (off+i*4) l[i] uv:=by
 obtain ⟨a,cap0,e0,e1,e2⟩:=Rf h
 obtain ⟨b,off,cap,cs,h1,h2,h3,h4,uv,rfl,h6⟩:=qQa.elem h i hi
 rw [h1] at e0
 simp at e0
 obtain ⟨_,rfl⟩:=e0
 exact ⟨b,off,cap,uv,h1,e1,e2,h2,by simpa using h4 0 _ rfl,h4 1 _ rfl,h4 2 _ rfl,h4 3 _ rfl,h6⟩
def idxMe (x:Int):List Me->Nat->Int
 | [],_=>-1
 | m::l,i=>if m.node==x then (i:Int) else idxMe x l (i+1)
theorem zWd {x:Int} {l:List Me} {j:Nat} (hj:j<l.length):idxMe x (l.drop j) j=if l[j].node==x then (j:Int) else idxMe x (l.drop (j+1)) (j+1):=by
 rw [List.drop_eq_getElem_cons hj]
 rfl
theorem zZ6 {g1:Nat} {w:World} {x:Int} (h1:w.cell? ⟨g1,0,none⟩=some (.int .i64 x)) (n:Int) (a b:Txt) (ua:Option Addr) (un uc:Nat) :
 Calls Tryz.prog 87 #[.agg #[.int .i64 n,.string ⟨a.toArray⟩,.string ⟨b.toArray⟩,.slice ua un uc],.pointer (some ⟨g1,0,none⟩)] w (Rb (.bool (n==x)) w):=by
 have hl:=World.block_lt_of_cell? w _ h1
 obtain ⟨w1,hw1⟩:∃ w1,w1=w.alloc (.cells #[.int .i64 n,.string ⟨a.toArray⟩,.string ⟨b.toArray⟩,.slice ua un uc] 31):=⟨_,rfl⟩
 have hB:Bel w w1:=by rw [hw1];exact (Br w).alloc _
 have hK:Blk w1 w.heap.size [.int .i64 n,.string ⟨a.toArray⟩,.string ⟨b.toArray⟩,.slice ua un uc] 31:=by rw [hw1];exact Blk.new' w _ rfl _ _
 have c0:=hK.cell 0
 have c1:=(hB.cells g1 0 hl).trans h1
 simp only [Zd] at c0
 have HB:=lH hB
 clear hB hK h1 hl
 go_enter Tryz.func87,Tryz.ntmps87
 go_upto_region 1 with fail
 rw [<- hw1]
 clear hw1
 go_wp2
 go_ret
 exact ⟨rfl,HB.o⟩
theorem qGt {m g1:Nat} {v:Value} {l:List Me} {w:World} {x:Int} (hv:qJ3 (·<m) w v l) (hm:m<=w.heap.size) (h1:w.cell? ⟨g1,0,none⟩=some (.int .i64 x)) :
 Calls Tryz.prog 86 #[v,.func (.func 87) #[] #[.pointer (some ⟨g1,0,none⟩)]] w (Rb (.int .i64 (idxMe x l 0)) w):=by
 have hl1:=World.block_lt_of_cell? w _ h1
 obtain ⟨va,vc,rfl,_,_⟩:=Rf hv
 have HV:=lH hv
 have H1:=lH (fun (W:World) (hW:Bel w W)=>(hW.cells g1 0 hl1).trans h1)
 clear hv h1 hl1
 go_enter Tryz.func86,Tryz.ntmps86
 go_wp2
 go_loopw [8] (fun z wr=>∃ j:Nat,j<=l.length/\z=.int .i64 j/\idxMe x (l.drop j) j=idxMe x l 0/\Bel w wr) (fun z _=>l.length - (intOf z).toNat)
 case atStart=>exact ⟨0,by omega,rfl,rfl,Br _⟩
 case round=>
  obtain ⟨j,hj,rfl,hF,hB⟩:=hrel
  have HF:=lH hF
  have HB:=lH hB
  by_cases hlt:j<l.length
  ·obtain ⟨b,off,cap,uv,e1,_,_,hb,hI⟩:=(HV.o.later hB hm).item j hlt
   simp at e1
   obtain ⟨rfl,rfl⟩:=e1
   have c0:=hI.node
   have c1:=hI.name
   have c2:=hI.about
   have c3:=hI.uses
   obtain ⟨ua,uc,rfl,_,_⟩:=Rf hI.usesAt
   have HI:=lH (zWd (x:=x) hlt)
   have cc:=H1.o _ hB
   clear hF hB hI
   generalize l[j]=M at *
   obtain ⟨mn,mm,mb,mu⟩:=M
   simp only at c0 c1 c2 c3 HI
   have cP:=lH (zZ6 cc mn mm mb ua mu.length uc)
   cases hq:mn==x with
   | true=>
     rw [hq] at cP
     have HR:Hi (idxMe x l 0=(j:Int)):=lH (by rw [<- HF.o,HI.o,hq];rfl)
     clear hq cc
     go_wp2_with (go_at_call 87;(with_reducible refine qQe cP.o HB fun w3 HB3=>?_))
     go_ret
     exact ⟨qQr HR.o.symm,HB3.o⟩
   | false=>
     rw [hq] at cP
     have HR:Hi (idxMe x (l.drop (j+1)) (j+1)=idxMe x l 0):=lH (by rw [<- HF.o,HI.o,hq];rfl)
     clear hq cc
     go_wp2_with (go_at_call 87;(with_reducible refine qQe cP.o HB fun w3 HB3=>?_))
     go_roundw
     case rel=>exact ⟨j+1,by omega,by go_num,HR.o,HB3.o⟩
     case measure=>simp [intOf];omega
  ·have HR:Hi (idxMe x l 0 = -1):=lH (by rw [<- HF.o,List.drop_of_length_le (by omega)];rfl)
   clear hF hB
   go_wp2
   go_ret
   exact ⟨qQr HR.o.symm,HB.o⟩
def qYt (m:Me) (dirty:List Int):Bool:=!m.uses.any dirty.contains
theorem zJv {m:Nat} {nv:Value} {NB:List Int} {g:Nat} {w:World} (hn:qKf m w nv NB) (hg:w.cell? ⟨g,0,none⟩=some nv) (x:Int) :
 Calls Tryz.prog 129 #[.int .i64 x,.pointer (some ⟨g,0,none⟩)] w (Rb (.bool (NB.contains x)) w):=by
 have cC:=lH (qJf m nv NB x w hn)
 obtain ⟨va,vc,rfl,_,_⟩:=Rf hn
 clear hn
 go_enter Tryz.func129,Tryz.ntmps129
 go_wp2_with (go_at_call 91;(with_reducible refine cC.o.mono ?_);rintro e w1 ⟨rfl,rfl⟩)
 go_ret
 exact ⟨qJj (by simp),Br _⟩
theorem zBd (args:Array Value) (w:World):(callFunc 129 args).run Tryz.prog w=.ok (.enter 129 args) w:=by kernel_rfl
theorem qYw {m b o:Nat} {dv uv:Value} {DL:List Int} {M:Me} {B:Nat->Prop} {w:World} (hM:MeC B w b o M uv) (hBl:∀ x,B x->x<w.heap.size) (hd:qKf m w dv DL) (hm:m<=w.heap.size) :
 Calls Tryz.prog 88 #[.pointer (some ⟨b,o,none⟩),dv] w (Rb (.bool (qYt M DL)) w):=by
 have hbl:=World.block_lt_of_cell? w _ hM.node
 obtain ⟨ua,uc,rfl,_,_⟩:=Rf hM.usesAt
 obtain ⟨da,dc,rfl,_,_⟩:=Rf hd
 obtain ⟨w1,hw1⟩:∃ w1,w1=w.alloc (.cells #[.slice da DL.length dc] 29):=⟨_,rfl⟩
 have hB:Bel w w1:=by rw [hw1];exact (Br w).alloc _
 have hK:Blk w1 w.heap.size [.slice da DL.length dc] 29:=by rw [hw1];exact Blk.new' w _ rfl _ _
 have c3:=(hB.cells b _ hbl).trans hM.uses
 have hU:qKf w1.heap.size w1 (.slice ua M.uses.length uc) M.uses:=(qQa.agree hM.usesAt (fun x hx=>hB.block x (hBl x hx)) (fun _ _ _ h=>h)).mono (fun x hx=>Zc (hBl x hx) hB.size) (fun _ _ _ h=>h)
 have hD:=qQa.later hd qQc hB hm
 have cF:Hi (Calls Tryz.prog 128 #[.slice ua M.uses.length uc,.func (.func 129) #[] #[.pointer (some ⟨w.heap.size,0,none⟩)]] w1 (Rb (.bool (M.uses.any DL.contains)) w1)):=lH (qKp 129 #[.pointer (some ⟨w.heap.size,0,none⟩)] DL.contains zBd w1.heap.size _ M.uses w1 hU (Zb _) (fun W hW x=>zJv (qQa.later hD qQc hW (Za hm hB.size)) ((hK.bel hW).cell 0) x))
 have HB:=lH hB
 unfold qYt
 generalize M.uses.any DL.contains=r at *
 clear hM hB hK hU hD hd
 go_enter Tryz.func88,Tryz.ntmps88
 go_upto_region 1 with fail
 rw [<- hw1]
 clear hw1
 go_wp2_with (go_at_call 128;(with_reducible refine qQe cF.o HB fun w2 HB2=>?_))
 go_ret
 exact ⟨rfl,HB2.o⟩
end Go.Proofs.YtklbmkaomojciaaGreat
namespace Go.Proofs.YtklbmkaomojciaaGreat
theorem zQ2 {l:List Clm} {k:Int} (h:0<=ownerM l k):∃ c∈l,c.kid=k/\c.owner=ownerM l k:=by
 unfold ownerM at h ⊢
 cases hf:l.find? (fun c=>c.kid==k) with
 | none=>rw [hf] at h;simp at h
 | some c=>
   have h1:=List.find?_some hf
   have h2:=List.mem_of_find?_eq_some hf
   simp at h1
   exact ⟨c,h2,h1,by simp⟩
theorem once_eq {l:List Clm} (h:(l.map (·.kid)).Nodup) {c e:Clm} (hc:c∈l) (he:e∈l) (hk:c.kid=e.kid):c=e:=by
 induction l with
 | nil=>simp at hc
 | cons a l ih=>
   rw [List.map_cons,List.nodup_cons] at h
   rcases List.mem_cons.1 hc with hc | hc
   ·rcases List.mem_cons.1 he with he | he
    ·rw [hc,he]
    ·exact absurd (List.mem_map.2 ⟨e,he,by rw [<- hk,hc]⟩) h.1
   ·rcases List.mem_cons.1 he with he | he
    ·exact absurd (List.mem_map.2 ⟨c,hc,by rw [hk,he]⟩) h.1
    ·exact ih h.2 hc he
section
variable {d:Dc}
theorem zVl {l:List Clm} (g:Good d) (h:ClmOk d l) {c:Clm} (hc:c∈l):ownerM l c.kid=c.owner:=by
 have h0:0<=ownerM l c.kid:=by
  rcases Int.lt_or_le (ownerM l c.kid) 0 with h1 | h1
  ·exact absurd rfl ((qHh (h.owner_ge g)).1 h1 c hc)
  ·exact h1
 obtain ⟨e,he,hk,ho⟩:=zQ2 h0
 rw [<- ho,once_eq h.once he hc hk]
theorem zXh {l:List Clm} (g:Good d) (h:ClmOk d l) {n k:Int} (hn:0<=n):k∈qQs d l n↔k∈qQs d l n/\inM d l k=n:=by
 refine ⟨fun hk=>⟨hk,?_⟩,fun h=>h.1⟩
 unfold qQs at hk
 rcases List.mem_append.1 hk with hk | hk
 ·obtain ⟨h1,h2⟩:=List.mem_filter.1 hk
  simp at h2
  obtain ⟨r,gr⟩:=g.tree
  unfold inM
  rw [if_neg (by omega),qGa gr]
  exact ((qJq gr).1 h1).2
 ·obtain ⟨c,hc,rfl⟩:=List.mem_map.1 hk
  obtain ⟨h1,h2⟩:=List.mem_filter.1 hc
  simp at h2
  have:=zVl g h h1
  unfold inM
  rw [this,h2,if_pos hn]
theorem zVt {l:List Clm} (g:Good d) (h:ClmOk d l) {k:Int} (hk:k∈shownR d) (h0:k≠0):k∈qQs d l (inM d l k)/\inM d l k∈shownR d:=by
 unfold inM
 split
 ·rename_i ho
  obtain ⟨c,hc,e1,e2⟩:=zQ2 ho
  refine ⟨?_,by rw [<- e2];exact h.owner c hc⟩
  unfold qQs
  refine List.mem_append.2 (.inr (List.mem_map.2 ⟨c,List.mem_filter.2 ⟨hc,by simp [e2]⟩,e1⟩))
 ·rename_i ho
  obtain ⟨j,hj,e⟩:=List.getElem_of_mem hk
  have:=zYp g hj (by rw [e];exact h0)
  rw [e] at this
  exact ⟨List.mem_append.2 (.inl (List.mem_filter.2 ⟨this.1,by simp;omega⟩)),List.mem_of_mem_take this.2⟩
theorem zZq {l:List Clm} (g:Good d) (h:ClmOk d l) (n:Int):(qQs d l n).Nodup:=by
 obtain ⟨r,gr⟩:=g.tree
 refine List.nodup_append.2 ⟨(qFt gr n).sublist List.filter_sublist,h.once.sublist ((List.filter_sublist).map _),?_⟩
 intro a ha b hb e
 subst e
 obtain ⟨_,h2⟩:=List.mem_filter.1 ha
 obtain ⟨c,hc,rfl⟩:=List.mem_map.1 hb
 have h3:=zVl g h (List.mem_filter.1 hc).1
 have h4:=h.owner_ge g c (List.mem_filter.1 hc).1
 simp at h2
 omega
theorem zH6 {l:List Clm} (g:Good d) (h:ClmOk d l) {n:Int}:(0:Int)∉qQs d l n:=by
 intro hk
 obtain ⟨r,gr⟩:=g.tree
 unfold qQs at hk
 rcases List.mem_append.1 hk with hk | hk
 ·exact (qWu gr (List.mem_filter.1 hk).1).2.2 rfl
 ·obtain ⟨c,hc,e⟩:=List.mem_map.1 hk
  have:=(h.kid c (List.mem_filter.1 hc).1).2
  omega
end
theorem zXk {d:Dc} {l:List Clm} (g:Good d) (h:ClmOk d l):∃ μ:Int->Nat,(∀ n,μ n<=d.length)/\∀ n∈shownR d,n≠0->inM d l n∈shownR d/\μ (inM d l n)<μ n:=by
 obtain ⟨μ,R⟩:=h.rises
 obtain ⟨μ',R',hl⟩:=R.tight d.length (fun n _ _=>inM_lt g h n)
 exact ⟨μ',hl,fun n hn h0=>by
  have h2:=(zVt g h hn h0).2
  exact ⟨h2,R'.up n (qHb g hn) (qHb g h2)⟩⟩
def h1T:Txt:=[104,49]
def h3T:Txt:=[104,51]
def zB5:Txt:=[109,105,120,101,100]
def qDa (d:Dc) (C:List Clm) (n:Int):Int:=
 if (kOf (qQd d n)).level=false then 0
 else if 1<=num (said d n alvlT)/\num (said d n alvlT)<=9 then num (said d n alvlT)
 else if qQd d n=4 then (if (nd d n).tag=h1T then 1 else if (nd d n).tag=h3T then 3 else 2)
 else (((qZ6 (inM d C) 100 n).countP (fun a=>qQd d a==qQd d n):Nat):Int)
def qVd (d:Dc) (n:Int):Int:=
 if qQd d n≠9 then 0
 else if qJ5 (sq d n qVc)=qGk then 2
 else if qJ5 (sq d n qVc)=zB5 then 3
 else if hasA d n chkT then 2 else 1
def qB7 (d:Dc) (n:Int):Bool:=(kOf (qQd d n)).leaf
def zW2 (d:Dc) (C:List Clm) (memo:Int->Mm) (n:Int):Hd:=
 { node:=n,role:=if qQd d n=0∨qQd d n=18 then 2 else qQd d n,
   name:=if (kOf (qQd d n)).named then (memo n).name else [],about:=if (kOf (qQd d n)).named then (memo n).about else [],
   level:=qDa d C n,checked:=qVd d n,off:=decide (qJ5 (sq d n qVo)=qGk) }
def itemsF (d:Dc) (C:List Clm) (memo:Int->Mm):Nat->Int->List It
 | 0,_=>[]
 | f+1,n=>
   if qZd d n then []
   else if qQd d n=10 then (if qQm (nd d n).text=[] then [] else [.mk { node:=n,role:=10,name:=qQm (nd d n).text } []])
   else if (qQd d n=0∨qQd d n=18)/\n≠0 then (if qB7 d n then [] else (qQs d C n).flatMap (itemsF d C memo f))
   else [.mk (zW2 d C memo n) (if qB7 d n then [] else (qQs d C n).flatMap (itemsF d C memo f))]
theorem qWq (d:Dc) (C:List Clm) (memo:Int->Mm) (f:Nat) (n:Int):itemsF d C memo (f+1) n =
 if qZd d n then []
 else if qQd d n=10 then (if qQm (nd d n).text=[] then [] else [.mk { node:=n,role:=10,name:=qQm (nd d n).text } []])
 else if (qQd d n=0∨qQd d n=18)/\n≠0 then (if qB7 d n then [] else (qQs d C n).flatMap (itemsF d C memo f))
 else [.mk (zW2 d C memo n) (if qB7 d n then [] else (qQs d C n).flatMap (itemsF d C memo f))]:=rfl
def qXl (d:Dc):List It:=itemsF d (qZ0 d) (qKv d (qZ0 d)) 100 0
theorem qWl {α:Type} (f:α->List It) (l:List α):nodesL (l.flatMap f)=l.flatMap (fun x=>nodesL (f x)):=by
 induction l with
 | nil=>rfl
 | cons x l ih=>rw [List.flatMap_cons,List.flatMap_cons,qZi,List.flatMap_append,<- qZi,<- qZi,ih]
theorem zY1 {α:Type} {f g:α->List Int}:∀ {l:List α},(∀ x∈l,(f x).Sublist (g x))->(l.flatMap f).Sublist (l.flatMap g):=by
 intro l
 induction l with
 | nil=>intro _;exact List.Sublist.refl _
 | cons x l ih=>
   intro h
   rw [List.flatMap_cons,List.flatMap_cons]
   exact (h x List.mem_cons_self).append (ih (fun y hy=>h y (List.mem_cons_of_mem _ hy)))
section
variable {d:Dc} {C:List Clm}
def qY2 (d:Dc) (C:List Clm) (n:Int):List Int:=if n∈shownR d then qQs d C n else []
theorem zZ7 {n:Int} (h:n∈shownR d):qY2 d C n=qQs d C n:=if_pos h
theorem qX6 (g:Good d) (h:ClmOk d C) {n k:Int} (hn:n∈shownR d) (hk:k∈qQs d C n):k∈shownR d:=by
 obtain ⟨r,g0⟩:=g.tree
 obtain ⟨μ,F⟩:=qJ6 g0
 unfold qQs at hk
 rcases List.mem_append.1 hk with hk | hk
 ·have hk:=(List.mem_filter.1 hk).1
  have hl:=g.len
  unfold shownR at hn ⊢
  have e:=(qKw F 100 0 n (by omega)).1 hn
  exact (qKw F 100 0 k (by omega)).2 (.step e hk)
 ·obtain ⟨c,hc,rfl⟩:=List.mem_map.1 hk
  exact (h.kid c (List.mem_filter.1 hc).1).1
theorem qDz (g:Good d) (h:ClmOk d C) {n k:Int} (hk:k∈qY2 d C n):n∈shownR d/\k∈shownR d/\inM d C k=n/\k≠0:=by
 unfold qY2 at hk
 split at hk
 ·rename_i hn
  refine ⟨hn,qX6 g h hn hk,((zXh g h (qHb g hn)).1 hk).2,fun e=>?_⟩
  subst e
  exact zH6 g h hk
 ·simp at hk
theorem qF2 (g:Good d) (h:ClmOk d C):∃ μ,Falls (qY2 d C) μ d.length:=by
 obtain ⟨μ,h1,h2⟩:=zXk g h
 refine ⟨μ,fun n k hk=>?_,h1⟩
 obtain ⟨a,b,c,e⟩:=qDz g h hk
 have:=(h2 k b e).2
 rwa [c] at this
theorem qFu (g:Good d) (h:ClmOk d C):Alone (qY2 d C) (inM d C):=by
 refine ⟨fun n k hk=>(qDz g h hk).2.2.1,fun n=>?_⟩
 unfold qY2
 split
 ·exact zZq g h n
 ·simp
theorem qHj (g:Good d):(0:Int)∈shownR d:=by
 obtain ⟨r,g0⟩:=g.tree
 obtain ⟨μ,F⟩:=qJ6 g0
 have hl:=g.len
 exact (qKw F 100 0 0 (by omega)).2 .here
theorem qFw (g:Good d) (h:ClmOk d C) {a b:Int} (hr:Reach (qY2 d C) a b) (ha:a∈shownR d):b∈shownR d:=by
 induction hr with
 | here=>exact ha
 | step _ hy _=>exact (qDz g h hy).2.1
theorem zKo (g:Good d) (h:ClmOk d C) (memo:Int->Mm):∀ (f:Nat) (n:Int),n∈shownR d->(nodesL (itemsF d C memo f n)).Sublist (preF (qY2 d C) f n):=by
 intro f
 induction f with
 | zero=>intro n _;exact List.Sublist.refl _
 | succ f ih=>
   intro n hn
   have hk:(nodesL (if qB7 d n then [] else (qQs d C n).flatMap (itemsF d C memo f))).Sublist ((qY2 d C n).flatMap (preF (qY2 d C) f)):=by
    split
    ·exact List.nil_sublist _
    ·rw [qWl,zZ7 hn]
     exact zY1 (fun k hk=>ih k (qX6 g h hn hk))
   rw [qWq,preF]
   split
   ·exact List.nil_sublist _
   ·split
    ·split
     ·exact List.nil_sublist _
     ·simp only [nodesL,nodesI,List.append_nil]
      exact (List.nil_sublist _).cons_cons _
    ·split
     ·exact hk.cons _
     ·rw [nodesL,nodesI,nodesL,List.append_nil]
      exact hk.cons_cons _
theorem zK9 (memo:Int->Mm):∀ (f:Nat) (n x:Int),x∈nodesL (itemsF d C memo f n)->qZd d x=false:=by
 intro f
 induction f with
 | zero=>intro n x hx;simp [itemsF,nodesL] at hx
 | succ f ih=>
   intro n x hx
   rw [qWq] at hx
   split at hx
   ·simp [nodesL] at hx
   ·rename_i hh
    have hh:qZd d n=false:=by simpa using hh
    have hk:x∈nodesL (if qB7 d n then [] else (qQs d C n).flatMap (itemsF d C memo f))->qZd d x=false:=fun hx=>by
     split at hx
     ·simp [nodesL] at hx
     ·rw [qWl] at hx
      obtain ⟨k,_,hk⟩:=List.mem_flatMap.1 hx
      exact ih k x hk
    split at hx
    ·split at hx
     ·simp [nodesL] at hx
     ·simp only [nodesL,nodesI,List.append_nil,List.mem_singleton] at hx
      rw [hx];exact hh
    ·split at hx
     ·exact hk hx
     ·rw [nodesL,nodesI,nodesL,List.append_nil] at hx
      rcases List.mem_cons.1 hx with hx | hx
      ·rw [hx];exact hh
      ·exact hk hx
theorem zKe (g:Good d):(nodesL (qXl d)).Nodup/\∀ n∈nodesL (qXl d),qZd d n=false/\n∈shownR d:=by
 have h:=zJh g
 obtain ⟨μ,F⟩:=qF2 g h
 have hl:=g.len
 have hs:=zKo g h (qKv d (qZ0 d)) 100 0 (qHj g)
 refine ⟨hs.nodup (qX3 F (qFu g h) 100 0 (by omega)),fun n hn=>⟨zK9 _ _ _ _ hn,?_⟩⟩
 exact qFw g h ((qKw F 100 0 n (by omega)).1 (hs.subset hn)) (qHj g)
theorem zG9 (g:Good d) {t:Int} (ht:isM d t false=true) (h:(nd d t).tag=[]):qQd d t=10:=by
 have h0:=(qQh.1 ht).1
 rw [(zXg g t h0).1,if_neg (by simp [ht]),if_pos (by simp [h])]
end
mutual
def bareI:It->Bool
 | .mk h k=>!(kOf h.role).name.isEmpty&&decide (h.role≠18)&&(!(kOf h.role).leaf||k.isEmpty)&&bareL k
def bareL:List It->Bool
 | []=>true
 | x::l=>bareI x&&bareL l
end
section
variable {d:Dc} {C:List Clm}
end
end Go.Proofs.YtklbmkaomojciaaGreat

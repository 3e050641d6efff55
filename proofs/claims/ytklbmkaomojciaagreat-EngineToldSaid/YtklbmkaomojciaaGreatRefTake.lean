/- The document's answer about documents: walks. -/
import Derived.Test.YtklbmkaomojciaaGreatMem
import Derived.Test.YtklbmkaomojciaaGreatPlains
import Derived.Test.YtklbmkaomojciaaGreatProg
import Derived.WalkLawsBesides
import Derived.WalkSpells
import Derived.BigQuiet
import Derived.RegionTactic
import Derived.Deep.RegionWith
import Derived.Deep.Cut
import Derived.Deep.DeepCutAuto
namespace Go.Proofs.YtklbmkaomojciaaGreat
open Go.RowKit
def qK5:World->List Value->Att->Prop:=fun _ cs a=>cs=[.string ⟨a.name.toArray⟩,.string ⟨a.value.toArray⟩]
theorem qZc:qBk qK5:=fun _ _ _ _ h=>h
abbrev qDt (n:Nat) (w:World) (v:Value) (l:List Att):Prop:=qQa 2 qK5 (·<n) w v l
abbrev qKf (n:Nat) (w:World) (v:Value) (l:List Int):Prop:=qQa 1 qQf (·<n) w v l
def qF7 (B:Nat->Prop):World->List Value->Nd->Prop:=fun w cs x=>∃ av kv sv,
 cs=[.bool x.live,.string ⟨x.tag.toArray⟩,.string ⟨x.text.toArray⟩,av,.int .i64 x.up,kv,.bool x.hasS,sv,.bool x.inS]/\qQa 2 qK5 B w av x.attrs/\qQa 1 qQf B w kv x.kids/\qQa 1 qQf B w sv x.shadow
abbrev rdNd (n:Nat):World->List Value->Nd->Prop:=qF7 (·<n)
def qJ4 (B:Nat->Prop) (w:World) (v:Value) (d:Dc):Prop:=qQa 9 (qF7 B) B w v d
theorem qF7.agree {B:Nat->Prop} {w w':World} {cs:List Value} {x:Nd} (h:qF7 B w cs x) (ha:qZs B w w'):qF7 B w' cs x:=by
 obtain ⟨av,kv,sv,h1,h2,h3,h4⟩:=h
 exact ⟨av,kv,sv,h1,h2.agree ha (fun _ _ _ h=>h),h3.agree ha (fun _ _ _ h=>h),h4.agree ha (fun _ _ _ h=>h)⟩
theorem qF7.mono {B C:Nat->Prop} {w:World} {cs:List Value} {x:Nd} (h:qF7 B w cs x) (hc:∀ b,B b->C b):qF7 C w cs x:=by
 obtain ⟨av,kv,sv,h1,h2,h3,h4⟩:=h
 exact ⟨av,kv,sv,h1,h2.mono hc (fun _ _ _ h=>h),h3.mono hc (fun _ _ _ h=>h),h4.mono hc (fun _ _ _ h=>h)⟩
theorem qJ4.agree {B:Nat->Prop} {w w':World} {v:Value} {d:Dc} (h:qJ4 B w v d) (ha:qZs B w w'):qJ4 B w' v d:=qQa.agree h ha (fun _ _ _ hr=>hr.agree ha)
theorem qJ4.mono {B C:Nat->Prop} {w:World} {v:Value} {d:Dc} (h:qJ4 B w v d) (hc:∀ b,B b->C b):qJ4 C w v d:=qQa.mono h hc (fun _ _ _ hr=>hr.mono hc)
def qZb (n:Nat) (w:World) (v:Value) (d:Dc):Prop:=qQa 9 (rdNd n) (·<n) w v d
theorem rdNd.later {n m:Nat} {w w':World} {cs:List Value} {x:Nd} (h:rdNd n w cs x) (hb:Below m w w') (hn:n<=m):rdNd n w' cs x:=by
 obtain ⟨av,kv,sv,h1,h2,h3,h4⟩:=h
 exact ⟨av,kv,sv,h1,h2.later qZc hb hn,h3.later qQc hb hn,h4.later qQc hb hn⟩
theorem rdNd.raise {n m:Nat} {w:World} {cs:List Value} {x:Nd} (h:rdNd n w cs x) (hn:n<=m):rdNd m w cs x:=by
 obtain ⟨av,kv,sv,h1,h2,h3,h4⟩:=h
 have hh:∀ b:Nat,b<n->b<m:=fun b h=>Zc h hn
 exact ⟨av,kv,sv,h1,h2.mono hh (fun _ _ _ h=>h),h3.mono hh (fun _ _ _ h=>h),h4.mono hh (fun _ _ _ h=>h)⟩
theorem qZb.later {n m:Nat} {w w':World} {v:Value} {d:Dc} (h:qZb n w v d) (hb:Below m w w') (hn:n<=m):qZb n w' v d:=
 qQa.agree h (qZs.mono (qZs.below hb) (fun _ hb=>Zc hb hn)) (fun _ _ _ hr=>hr.later hb hn)
theorem qZb.raise {n m:Nat} {w:World} {v:Value} {d:Dc} (h:qZb n w v d) (hn:n<=m):qZb m w v d:=
 qQa.mono h (fun _ h=>Zc h hn) (fun _ _ _ hr=>hr.raise hn)
def lenV:Value->Nat | .slice _ n _=>n | _=>0
structure NdCells (n:Nat) (w:World) (b o:Nat) (x:Nd) (av kv sv:Value):Prop where
 live:w.cell? ⟨b,o,none⟩=some (.bool x.live)
 tag:w.cell? ⟨b,o+1,none⟩=some (.string ⟨x.tag.toArray⟩)
 text:w.cell? ⟨b,o+2,none⟩=some (.string ⟨x.text.toArray⟩)
 atts:w.cell? ⟨b,o+3,none⟩=some av
 up:w.cell? ⟨b,o+4,none⟩=some (.int .i64 x.up)
 kids:w.cell? ⟨b,o+5,none⟩=some kv
 hasS:w.cell? ⟨b,o+6,none⟩=some (.bool x.hasS)
 shadow:w.cell? ⟨b,o+7,none⟩=some sv
 inS:w.cell? ⟨b,o+8,none⟩=some (.bool x.inS)
 attsAt:qDt n w av x.attrs
 kidsAt:qKf n w kv x.kids
 shadowAt:qKf n w sv x.shadow
theorem zQu {n:Nat} {w:World} {b o:Nat} {x:Nd} {cs:List Value} (h:Cells w b o cs) (hr:rdNd n w cs x):∃ av kv sv,NdCells n w b o x av kv sv:=by
 obtain ⟨av,kv,sv,rfl,h2,h3,h4⟩:=hr
 exact ⟨av,kv,sv,by simpa using h 0 _ rfl,h 1 _ rfl,h 2 _ rfl,h 3 _ rfl,h 4 _ rfl,h 5 _ rfl,h 6 _ rfl,h 7 _ rfl,h 8 _ rfl,h2,h3,h4⟩
theorem qZb.node {n:Nat} {w:World} {v:Value} {d:Dc} (h:qZb n w v d) (i:Nat) (hi:i<d.length) :
 ∃ b off cap av kv sv,v=.slice (some ⟨b,off,none⟩) d.length cap/\d.length<=cap/\cap<=9223372036854775807/\b<n/\NdCells n w b (off+i*9) d[i] av kv sv:=by
 obtain ⟨a,cap0,e0,e1,e2⟩:=Rf h
 obtain ⟨b,off,cap,cs,h1,h2,h3,h4,h5⟩:=qQa.elem h i hi
 obtain ⟨av,kv,sv,hN⟩:=zQu h4 h5
 rw [h1] at e0
 simp at e0
 obtain ⟨_,rfl⟩:=e0
 exact ⟨b,off,cap,av,kv,sv,h1,e1,e2,h2,hN⟩
theorem qJ4.node {B:Nat->Prop} {w:World} {v:Value} {d:Dc} (h:qJ4 B w v d) (hBl:∀ b,B b->b<w.heap.size) (i:Nat) (hi:i<d.length) :
 ∃ b off cap av kv sv,v=.slice (some ⟨b,off,none⟩) d.length cap/\d.length<=cap/\cap<=9223372036854775807/\b<w.heap.size/\NdCells w.heap.size w b (off+i*9) d[i] av kv sv/\qQa 2 qK5 B w av d[i].attrs:=by
 obtain ⟨a,cap0,e0,e1,e2⟩:=Rf h
 obtain ⟨b,off,cap,cs,h1,h2,h3,h4,h5⟩:=qQa.elem h i hi
 have h5':=h5
 obtain ⟨av,kv,sv,rfl,q2,q3,q4⟩:=h5'
 have g0:=h4
 obtain ⟨av',kv',sv',hN⟩:=zQu h4 (h5.mono hBl)
 have e3:av'=av:=by
  have a1:=hN.atts
  have a2:=g0 3 av rfl
  rw [a2] at a1
  exact (Option.some.inj a1).symm
 rw [e3] at hN
 rw [h1] at e0
 simp at e0
 obtain ⟨_,rfl⟩:=e0
 exact ⟨b,off,cap,av,kv',sv',h1,e1,e2,hBl _ h2,hN,q2⟩
theorem qDp {m:Nat} {w:World} {b o len cap:Nat} {l:List Att} (h:qDt m w (.slice (some ⟨b,o,none⟩) len cap) l) (i:Nat) (hi:i<l.length) :
 w.cell? ⟨b,o+i*2,none⟩=some (.string ⟨l[i].name.toArray⟩)/\w.cell? ⟨b,o+i*2+1,none⟩=some (.string ⟨l[i].value.toArray⟩):=by
 obtain ⟨b',off',cap',cs,h1,_,h2,h3,h4⟩:=qQa.elem h i hi
 simp at h1
 obtain ⟨⟨rfl,rfl⟩,_,_⟩:=h1
 cases h4
 exact ⟨by simpa using h3.at 0 (by simp),by simpa using h3.at 1 (by simp)⟩
theorem qJm:SlT Tryz.prog 29 3 1 8:=by
 refine ⟨by kernel_rfl,?_⟩
 obtain ⟨i,h1,h2,h3,h4⟩:=info_parts (by kernel_rfl:(Tryz.prog.info? 3).map (fun i=>(i.zero,i.size,i.bytes))=some (some (.int .i64 0),1,8))
 exact ⟨i,_,h1,h2,h3,h4,rfl⟩
theorem qDj {l:List Int} {p:Int->Bool} {j:Nat} (h:(l.take j).find? p=none) (hj:j<l.length) (hx:p l[j]=false):(l.take (j+1)).find? p=none:=by
 rw [Zk hj,List.find?_append,h]
 simp [hx]
theorem zZ4 {l:List Int} {p:Int->Bool} {j:Nat} (h:(l.take j).find? p=none) (hj:j<l.length) (hx:p l[j]=true):l.find? p=some l[j]:=by
 have e:(l.take (j+1)++l.drop (j+1)).find? p=some l[j]:=by
  rw [List.find?_append,Zk hj,List.find?_append,h]
  simp [hx]
 rwa [List.take_append_drop] at e
theorem zYr (w:World) (base:Nat) (n:Int) (hb:base<=w.heap.size):qQb 1 qQf base 3 (w.alloc (.cells #[.int .i64 n] 3)) (.slice (some ⟨w.heap.size,0,none⟩) 1 1) [n]:=
 ⟨[[.int .i64 n]],rfl,by intro i h h';simp at h;subst h;exact ⟨rfl,rfl⟩,rfl,.inr ⟨w.heap.size,1,_,rfl,hb,heap_alloc_new w _,Zb _,by decide,rfl,rfl⟩⟩
def storeAll:World->Nat->Nat->List Value->World
 | w,_,_,[]=>w
 | w,g,o,c::cs=>storeAll (w.setCell ⟨g,o,none⟩ c) g (o+1) cs
def setAll:List Value->Nat->List Value->List Value
 | xs,_,[]=>xs
 | xs,o,c::cs=>setAll (xs.set o c) (o+1) cs
theorem zZe:∀ (cs xs:List Value) (o:Nat),(setAll xs o cs).length=xs.length:=by
 intro cs
 induction cs with
 | nil=>intro xs o;rfl
 | cons c cs ih=>intro xs o;rw [setAll,ih];simp
theorem qGh:∀ (cs xs:List Value) (o j:Nat),j<o∨o+cs.length<=j->(setAll xs o cs)[j]?=xs[j]?:=by
 intro cs
 induction cs with
 | nil=>intro xs o j _;rfl
 | cons c cs ih=>
   intro xs o j h
   simp only [Zm] at h
   rw [setAll,ih _ _ _ (by omega),List.getElem?_set_ne (by omega)]
theorem zGy:∀ (cs xs:List Value) (o j:Nat),o+cs.length<=xs.length->j<cs.length->(setAll xs o cs)[o+j]?=cs[j]?:=by
 intro cs
 induction cs with
 | nil=>intro xs o j _ h;simp at h
 | cons c cs ih=>
   intro xs o j h1 h2
   simp only [Zm] at h1 h2
   rw [setAll]
   cases j with
   | zero=>
     have:=qGh cs (xs.set o c) (o+1) o (by omega)
     rw [List.getElem?_set_self (by omega)] at this
     exact this
   | succ j=>
     have:=ih (xs.set o c) (o+1) j (by simp;omega) (by omega)
     rw [show o+(j+1)=o+1+j by omega,this]
     simp
theorem qH9 {base:Nat} {e:TypeId} {size g n cap:Nat}:∀ (cs:List Value) (w:World) (xs:List Value) (o:Nat),w.ownsRow base e size (.slice (some ⟨g,0,none⟩) n cap) n xs ->
 (storeAll w g o cs).ownsRow base e size (.slice (some ⟨g,0,none⟩) n cap) n (setAll xs o cs)/\w.grownBy (storeAll w g o cs) (some g):=by
 intro cs
 induction cs with
 | nil=>intro w xs o h;exact ⟨h,World.grownBy.refl _ _⟩
 | cons c cs ih=>
   intro w xs o h
   obtain ⟨h1,h2⟩:=h.stored o c
   obtain ⟨h3,h4⟩:=ih _ _ (o+1) h1
   exact ⟨h3,qQj h2 h4⟩
theorem zQa:∀ (xss:List (List Value)) (i:Nat) (cs:List Value) (sz:Nat),(∀ x∈xss,x.length=sz)->cs.length=sz->i<xss.length->setAll xss.flatten (i*sz) cs=(xss.set i cs).flatten:=by
 intro xss i cs sz hx hc hi
 have hset:∀ x∈xss.set i cs,x.length=sz:=fun x h=>by
  rcases List.mem_or_eq_of_mem_set h with h | rfl
  ·exact hx x h
  ·exact hc
 apply List.ext_getElem?
 intro j
 have hl1:(setAll xss.flatten (i*sz) cs).length=xss.length*sz:=by rw [zZe,qJ2 hx]
 have hl2:(xss.set i cs).flatten.length=xss.length*sz:=by rw [qJ2 hset];simp
 by_cases hj:j<xss.length*sz
 ·have hsz:0<sz:=Nat.pos_of_ne_zero (by rintro rfl;simp at hj)
  have hq:j / sz<xss.length:=Nat.div_lt_of_lt_mul (by rw [Nat.mul_comm];exact hj)
  have hr:j % sz<sz:=Nat.mod_lt _ hsz
  have hj2:j=j / sz*sz+j % sz:=by rw [Nat.mul_comm];exact (Nat.div_add_mod j sz).symm
  have hbound:i*sz+sz<=xss.length*sz:=by rw [<- Nat.succ_mul];exact Nat.mul_le_mul_right _ hi
  by_cases hqi:j / sz=i
  ·have h1:=zGy cs xss.flatten (i*sz) (j % sz) (by rw [qJ2 hx,hc];exact hbound) (by omega)
   have h2:=qJ9 hset i (by simpa using hi) (j % sz) _ (by rw [List.getElem_set_self];exact Zi (by omega))
   rw [hj2,hqi,h1,h2]
   exact Zi (by omega)
  ·have h1:(setAll xss.flatten (i*sz) cs)[j]?=xss.flatten[j]?:=qGh _ _ _ _ (by
    rcases Nat.lt_or_gt_of_ne hqi with h | h
    ·left
     have:(j / sz+1)*sz<=i*sz:=Nat.mul_le_mul_right _ h
     rw [Nat.succ_mul] at this;omega
    ·right
     have:(i+1)*sz<=j / sz*sz:=Nat.mul_le_mul_right _ h
     rw [Nat.succ_mul] at this;omega)
   have h3:=qJ9 hx (j / sz) hq (j % sz) _ (Zi (by rw [hx _ (Zl hq)];exact hr))
   have h2:=qJ9 hset (j / sz) (by simpa using hq) (j % sz) (xss[j / sz][j % sz]'(by rw [hx _ (Zl hq)];exact hr)) (by
    rw [List.getElem_set_ne (fun h=>hqi h.symm)]
    exact Zi _)
   rw [h1]
   rw [<- hj2] at h2 h3
   rw [h2,h3]
 ·rw [List.getElem?_eq_none (by omega),List.getElem?_eq_none (by omega)]
theorem qQb.stored {α:Type} {sz:Nat} {rd:World->List Value->α->Prop} {base:Nat} {e:TypeId} {w:World} {g n cap:Nat} {l:List α} (h:qQb sz rd base e w (.slice (some ⟨g,0,none⟩) n cap) l) (i:Nat) (hi:i<l.length) (cs:List Value) (x:α)
 (hn:n=l.length) (hc:cs.length=sz) (hr:rd (storeAll w g (i*sz) cs) cs x) (hk:∀ ys y,y∈l->rd w ys y->rd (storeAll w g (i*sz) cs) ys y) :
 qQb sz rd base e (storeAll w g (i*sz) cs) (.slice (some ⟨g,0,none⟩) n cap) (l.set i x)/\w.grownBy (storeAll w g (i*sz) cs) (some g):=by
 subst hn
 obtain ⟨xss,q1,q2,q3⟩:=h
 obtain ⟨h1,h2⟩:=qH9 cs w _ (i*sz) q3
 have hx:∀ x∈xss,x.length=sz:=by
  intro x hx
  obtain ⟨k,hk,rfl⟩:=List.getElem_of_mem hx
  exact (q2 k (by omega) hk).1
 rw [zQa xss i cs sz hx hc (by omega)] at h1
 refine ⟨⟨xss.set i cs,by simpa using q1,?_,by simpa using h1⟩,h2⟩
 intro k hk1 hk2
 by_cases hki:i=k
 ·subst hki
  simp only [List.getElem_set_self]
  exact ⟨hc,hr⟩
 ·rw [List.getElem_set_ne hki,List.getElem_set_ne hki]
  have:=q2 k (by simpa using hk1) (by simpa using hk2)
  exact ⟨this.1,hk _ _ (Zl _) this.2⟩
def ndV (x:Nd) (av kv sv:Value):Value:=.agg #[.bool x.live,.string ⟨x.tag.toArray⟩,.string ⟨x.text.toArray⟩,av,.int .i64 x.up,kv,.bool x.hasS,sv,.bool x.inS]
theorem zBi:SlT Tryz.prog 24 65 9 136:=by
 refine ⟨by kernel_rfl,?_⟩
 obtain ⟨i,h1,h2,h3,h4⟩:=info_parts (by kernel_rfl:(Tryz.prog.info? 65).map (fun i=>(i.zero,i.size,i.bytes))=some (some (.agg #[.bool false,.string ⟨#[]⟩,.string ⟨#[]⟩,.slice none 0 0,.int .i64 0,.slice none 0 0,.bool false,.slice none 0 0,.bool false]),9,136))
 exact ⟨i,_,h1,h2,h3,h4,rfl⟩
theorem zZi {α:Type} {sz:Nat} {rd:World->List Value->α->Prop} {B:Nat->Prop} {w:World} {v:Value} {l:List α} (h:qQa sz rd B w v l):v.oneCell'=true:=by
 obtain ⟨a,c,rfl,_,_⟩:=Rf h
 rfl
theorem zHk {α:Type} {sz:Nat} {rd:World->List Value->α->Prop} (w:World) (base g:Nat) (e:TypeId) (hg:g=w.heap.size) (hb:base<=g):qQb sz rd base e (w.alloc (.cells #[] e)) (.slice (some ⟨g,0,none⟩) 0 0) ([]:List α):=by
 subst hg
 exact ⟨[],rfl,by intro i h;simp at h,World.ownsRow_lit w #[] 0 hb (by decide) (by simp)⟩
theorem qGi {P:Program} {w:World} {ops:Array Oper} {rest:List Oper} {o:Oper} {a:Act} {Q:Exit->Act->World->Prop} (hg:o.guard=none)
 (s x:Operand) (t:TypeId) (ho:o.op=.call { callee:=.builtin .append,args:=#[s,x],argTypes:=#[t,t] })
 {e:TypeId} {sz bytes:Nat} (S:SlT P t e sz bytes) (hsz:0<sz) {α:Type} {rd:World->List Value->α->Prop} {n0:Nat} (hn0:n0<=w.heap.size) (hst:∀ w w' cs y,Below n0 w w'->rd w cs y->rd w' cs y) (h1c:∀ w cs y,rd w cs y->∀ u∈cs,u.oneCell'=true)
 {base:Nat} (hnb:n0<=base) {v:Value} {l:List α} (hs:a.eval s=v) (hown:qQb sz rd base e w v l) {C:Array Value} {e':TypeId} {g:Nat} (hx:a.eval x=.slice (some ⟨g,0,none⟩) 1 1) (hgs:g=w.heap.size) (y:α)
 (hC:C.size=sz/\rd w C.toList y) (hbytes:(l.length+1)*bytes<=140737488355328) (hmax:l.length+1<=9223372036854775807) (hbase:base<=w.heap.size)
 (h:∀ v' w',qQb sz rd base e w' v' (l++[y])->w.grownBy w' v.ownBlock->qZe w v v'->wpList P ops Q rest (a.put o.dst v') w'):wpList P ops Q (o::rest) a (w.alloc (.cells C e')):=by
 subst hgs
 have hal:∀ cs y',rd w cs y'->rd (w.alloc (.cells C e')) cs y':=fun cs y' h=>hst _ _ _ _ (Below.alloc (Below.refl _ _) hn0 _) h
 have hrow:=qJs (rd:=rd) (sz:=sz) w C.toList e' y (by simpa using hC.1) (by simp only [Array.toArray_toList];exact hal _ _ hC.2)
 simp only [Array.toArray_toList] at hrow
 have hown2:qQb sz rd base e (w.alloc (.cells C e')) v l:=hown.agree (fun b hb=>Below.heap_alloc w _ b (hown.lt b hb).2) (fun _ _ _ hr=>hal _ _ hr)
 refine qZa hg s x t ho S hsz hs hown2 hx hrow (fun cs y' _ hr=>h1c _ _ _ hr) (by simpa using hbytes) (by simpa using hmax) (by simp;omega)
  (fun w' hgr cs y' _ hr=>hst _ _ _ _ (Below.grown (Below.refl n0 _) hgr (by simp;omega) (fun k hk=>Za hnb (hown.lt k hk).1)) hr) ?_
 intro v' w' h1 h2 _ h3
 refine h v' w' h1 (qQj (World.grownBy_alloc w _ _) h2) ?_
 rcases h3 with h3 | ⟨k,h3,hk⟩
 ·exact .inl h3
 ·exact .inr ⟨k,h3,by simp at hk;omega⟩
theorem qQb.slots {α:Type} {sz:Nat} {rd:World->List Value->α->Prop} {base:Nat} {e:TypeId} {w:World} {v:Value} {l:List α} (h:qQb sz rd base e w v l) (i:Nat) (hi:i<l.length) :
 ∃ g cap,v=.slice (some ⟨g,0,none⟩) l.length cap/\base<=g/\l.length<=cap/\cap<=9223372036854775807/\(∀ j,j<sz->∃ u,w.cell? ⟨g,i*sz+j,none⟩=some u)/\∀ j,w.frozen? ⟨g,j,none⟩=false:=by
 obtain ⟨xss,q1,q2,q3⟩:=h
 rcases q3.2 with ⟨rfl,h0⟩ | ⟨g,cap,cur,rfl,hb,hg,hnc,hcm,hcs,htake⟩
 ·omega
 ·refine ⟨g,cap,rfl,hb,hnc,by simpa [maxLen] using hcm,fun j hj=>?_,fun j=>q3.frozenAt j⟩
  have hlt:i*sz+j<l.length*sz:=Zc (by rw [Nat.succ_mul];omega:i*sz+j<(i+1)*sz) (Nat.mul_le_mul_right _ hi)
  exact ⟨_,(q3.cellAt _ hlt).trans (Zi (by rw [q3.1];exact hlt))⟩
def Blk (w:World) (g:Nat) (C:List Value) (e:TypeId):Prop:=w.heap[g]?=some (.cells C.toArray e (0,0))
section
variable {w w':World} {g:Nat} {C:List Value} {e:TypeId}
theorem Blk.cell (h:Blk w g C e) (j:Nat):w.cell? ⟨g,j,none⟩=C[j]?:=by
 rw [cell_of_row w g j _ e (0,0) h];simp
theorem Blk.frozen (h:Blk w g C e) (j:Nat):w.frozen? ⟨g,j,none⟩=false:=frozen_of_row w g j _ e h
theorem Blk.lt (h:Blk w g C e):g<w.heap.size:=by
 have h':w.heap[g]?=_:=h
 exact (Array.getElem?_eq_some_iff.1 h').1
theorem Blk.new (w:World) (g:Nat) (hg:g=w.heap.size) (C:List Value) (e:TypeId):Blk (w.alloc (.cells C.toArray e)) g C e:=by
 subst hg;exact heap_alloc_new w _
theorem Blk.new' (w:World) (g:Nat) (hg:g=w.heap.size) (C:Array Value) (e:TypeId):Blk (w.alloc (.cells C e)) g C.toList e:=by
 have:=Blk.new w g hg C.toList e
 rwa [Array.toArray_toList] at this
theorem Blk.of (h:Blk w g C e) (ha:w'.heap[g]?=w.heap[g]?):Blk w' g C e:=ha.trans h
theorem Blk.below (h:Blk w g C e) {n:Nat} (hb:Below n w w') (hg:g<n):Blk w' g C e:=h.of (hb.block g hg)
theorem Blk.bel (h:Blk w g C e) (hb:Bel w w'):Blk w' g C e:=h.below hb h.lt
theorem Blk.drew (h:Blk w g C e):Blk w.drew g C e:=h
theorem Blk.set (h:Blk w g C e) (j:Nat) (v:Value):Blk (w.setCell ⟨g,j,none⟩ v) g (C.set j v) e:=by
 have h':w.heap[g]?=_:=h
 unfold Blk
 simp [World.setCell,Array.getElem?_modify,h']
theorem Blk.other (h:Blk w g C e) (a:Addr) (v:Value) (ha:g≠a.block):Blk (w.setCell a v) g C e:=h.of (Below.heap_setCell w a v g ha)
end
theorem qJg {K:Act->World->Prop} {Q:Exit->Act->World->Prop} {x:Exit} {a:Act} {W:World} {E:World->Prop} (hE:E W) (h:∀ w,E w->Exit.then K Q x a w):Exit.then K Q x a W:=h W hE
theorem Bel.drew {a w:World} (h:Bel a w):Bel a w.drew:=⟨h.os,h.tape,h.output,h.size,h.block⟩
theorem Bel.setCell {a w:World} (h:Bel a w) (g j:Nat) (v:Value) (hg:a.heap.size<=g):Bel a (w.setCell ⟨g,j,none⟩ v):=Below.setCell h hg v
def qWy (w W:World) (C:List Value):Prop:=Bel w W/\Blk W w.heap.size C 65
theorem qWy.bel {w W W':World} {C:List Value} (h:qWy w W C) (b:Bel W W'):qWy w W' C:=⟨Bt h.1 b,h.2.bel b⟩
theorem qWy.drew {w W:World} {C:List Value} (h:qWy w W C):qWy w W.drew C:=⟨h.1.drew,h.2.drew⟩
def zVu (g n:Nat) (w:World) (v:Value) (l:List Int):Prop:=qQa 1 qQf (fun b=>g<b/\b<n) w v l
theorem zVu.bel {g:Nat} {w w':World} {v:Value} {l:List Int} (h:zVu g w.heap.size w v l) (b:Bel w w'):zVu g w'.heap.size w' v l:=
 (qQa.agree h (qZs.mono (qZs.below b) (fun _ h=>h.2)) (fun _ _ _ h=>h)).mono (fun _ h=>⟨h.1,Zc h.2 b.size⟩) (fun _ _ _ h=>h)
theorem zVu.set {g n:Nat} {w:World} {v:Value} {l:List Int} (h:zVu g n w v l) (j:Nat) (u:Value):zVu g n (w.setCell ⟨g,j,none⟩ u) v l:=
 qQa.agree h (qZs.setCell _ _ (fun h=>Nat.lt_irrefl _ h.1)) (fun _ _ _ h=>h)
theorem size_setCell (w:World) (a:Addr) (v:Value):(w.setCell a v).heap.size=w.heap.size:=by simp [World.setCell]
end Go.Proofs.YtklbmkaomojciaaGreat

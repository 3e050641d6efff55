/- The document's answer about documents: walks. -/
import Derived.Test.YtklbmkaomojciaaGreatMem
import Derived.Test.YtklbmkaomojciaaGreatPlains
import Derived.Test.YtklbmkaomojciaaGreatProg
import Derived.WalkLawsBesides
import Derived.WalkSpells
import Derived.BigQuiet
import Derived.RegionTactic
set_option maxRecDepth 100000
set_option maxHeartbeats 2000000
namespace Go.Proofs.YtklbmkaomojciaaGreat
open Go.RowKit
def qX4:World->List Value->Att->Prop:=fun _ cs a=>cs=[.string ⟨a.name.toArray⟩,.string ⟨a.value.toArray⟩]
theorem qQh:qHs qX4:=fun _ _ _ _ h=>h
abbrev qZy (n:Nat) (w:World) (v:Value) (l:List Att):Prop:=qQb 2 qX4 (·<n) w v l
abbrev qQ6 (n:Nat) (w:World) (v:Value) (l:List Int):Prop:=qQb 1 qQ3 (·<n) w v l
def qJ7 (B:Nat->Prop):World->List Value->Nd->Prop:=fun w cs x=>∃ av kv sv,
 cs=[.bool x.live,.string ⟨x.tag.toArray⟩,.string ⟨x.text.toArray⟩,av,.int .i64 x.up,kv,.bool x.hasS,sv,.bool x.inS]/\qQb 2 qX4 B w av x.attrs/\qQb 1 qQ3 B w kv x.kids/\qQb 1 qQ3 B w sv x.shadow
abbrev rdNd (n:Nat):World->List Value->Nd->Prop:=qJ7 (·<n)
def qKf (B:Nat->Prop) (w:World) (v:Value) (d:Dc):Prop:=qQb 9 (qJ7 B) B w v d
theorem qJ7.agree {B:Nat->Prop} {w w':World} {cs:List Value} {x:Nd} (h:qJ7 B w cs x) (ha:qQi B w w'):qJ7 B w' cs x:=by
 obtain ⟨av,kv,sv,h1,h2,h3,h4⟩:=h
 exact ⟨av,kv,sv,h1,h2.agree ha (fun _ _ _ h=>h),h3.agree ha (fun _ _ _ h=>h),h4.agree ha (fun _ _ _ h=>h)⟩
theorem qJ7.mono {B C:Nat->Prop} {w:World} {cs:List Value} {x:Nd} (h:qJ7 B w cs x) (hc:∀ b,B b->C b):qJ7 C w cs x:=by
 obtain ⟨av,kv,sv,h1,h2,h3,h4⟩:=h
 exact ⟨av,kv,sv,h1,h2.mono hc (fun _ _ _ h=>h),h3.mono hc (fun _ _ _ h=>h),h4.mono hc (fun _ _ _ h=>h)⟩
theorem qKf.agree {B:Nat->Prop} {w w':World} {v:Value} {d:Dc} (h:qKf B w v d) (ha:qQi B w w'):qKf B w' v d:=qQb.agree h ha (fun _ _ _ hr=>hr.agree ha)
theorem qKf.mono {B C:Nat->Prop} {w:World} {v:Value} {d:Dc} (h:qKf B w v d) (hc:∀ b,B b->C b):qKf C w v d:=qQb.mono h hc (fun _ _ _ hr=>hr.mono hc)
def qQq (n:Nat) (w:World) (v:Value) (d:Dc):Prop:=qQb 9 (rdNd n) (·<n) w v d
theorem rdNd.later {n m:Nat} {w w':World} {cs:List Value} {x:Nd} (h:rdNd n w cs x) (hb:Below m w w') (hn:n<=m):rdNd n w' cs x:=by
 obtain ⟨av,kv,sv,h1,h2,h3,h4⟩:=h
 exact ⟨av,kv,sv,h1,h2.later qQh hb hn,h3.later qQd hb hn,h4.later qQd hb hn⟩
theorem rdNd.raise {n m:Nat} {w:World} {cs:List Value} {x:Nd} (h:rdNd n w cs x) (hn:n<=m):rdNd m w cs x:=by
 obtain ⟨av,kv,sv,h1,h2,h3,h4⟩:=h
 have hh:∀ b:Nat,b<n->b<m:=fun b h=>Zc h hn
 exact ⟨av,kv,sv,h1,h2.mono hh (fun _ _ _ h=>h),h3.mono hh (fun _ _ _ h=>h),h4.mono hh (fun _ _ _ h=>h)⟩
theorem qQq.later {n m:Nat} {w w':World} {v:Value} {d:Dc} (h:qQq n w v d) (hb:Below m w w') (hn:n<=m):qQq n w' v d:=
 qQb.agree h (qQi.mono (qQi.below hb) (fun _ hb=>Zc hb hn)) (fun _ _ _ hr=>hr.later hb hn)
theorem qQq.raise {n m:Nat} {w:World} {v:Value} {d:Dc} (h:qQq n w v d) (hn:n<=m):qQq m w v d:=
 qQb.mono h (fun _ h=>Zc h hn) (fun _ _ _ hr=>hr.raise hn)
def lenV:Value->Nat | .slice _ n _=>n | _=>0
structure NdCells (n:Nat) (w:World) (b o:Nat) (x:Nd) (av kv sv:Value):Prop where
 live:w.cell? ⟨b,o,none⟩=some (.bool x.live)
 tag:w.cell? ⟨b,o+1,none⟩=some (.string ⟨x.tag.toArray⟩)
 text:w.cell? ⟨b,o+2,none⟩=some (.string ⟨x.text.toArray⟩)
 atts:w.cell? ⟨b,o+3,none⟩=some av
 up:w.cell? ⟨b,o+4,none⟩=some (.int .i64 x.up)
 kids:w.cell? ⟨b,o+5,none⟩=some kv
 hasS:w.cell? ⟨b,o+6,none⟩=some (.bool x.hasS)
 shadow:w.cell? ⟨b,o+7,none⟩=some sv
 inS:w.cell? ⟨b,o+8,none⟩=some (.bool x.inS)
 attsAt:qZy n w av x.attrs
 kidsAt:qQ6 n w kv x.kids
 shadowAt:qQ6 n w sv x.shadow
theorem qWm {n:Nat} {w:World} {b o:Nat} {x:Nd} {cs:List Value} (h:Cells w b o cs) (hr:rdNd n w cs x):∃ av kv sv,NdCells n w b o x av kv sv:=by
 obtain ⟨av,kv,sv,rfl,h2,h3,h4⟩:=hr
 exact ⟨av,kv,sv,by simpa using h 0 _ rfl,h 1 _ rfl,h 2 _ rfl,h 3 _ rfl,h 4 _ rfl,h 5 _ rfl,h 6 _ rfl,h 7 _ rfl,h 8 _ rfl,h2,h3,h4⟩
theorem qQq.node {n:Nat} {w:World} {v:Value} {d:Dc} (h:qQq n w v d) (i:Nat) (hi:i<d.length) :
 ∃ b off cap av kv sv,v=.slice (some ⟨b,off,none⟩) d.length cap/\d.length<=cap/\cap<=9223372036854775807/\b<n/\NdCells n w b (off+i*9) d[i] av kv sv:=by
 obtain ⟨a,cap0,e0,e1,e2⟩:=Rf h
 obtain ⟨b,off,cap,cs,h1,h2,h3,h4,h5⟩:=qQb.elem h i hi
 obtain ⟨av,kv,sv,hN⟩:=qWm h4 h5
 rw [h1] at e0
 simp at e0
 obtain ⟨_,rfl⟩:=e0
 exact ⟨b,off,cap,av,kv,sv,h1,e1,e2,h2,hN⟩
theorem qKf.node {B:Nat->Prop} {w:World} {v:Value} {d:Dc} (h:qKf B w v d) (hBl:∀ b,B b->b<w.heap.size) (i:Nat) (hi:i<d.length) :
 ∃ b off cap av kv sv,v=.slice (some ⟨b,off,none⟩) d.length cap/\d.length<=cap/\cap<=9223372036854775807/\b<w.heap.size/\NdCells w.heap.size w b (off+i*9) d[i] av kv sv/\qQb 2 qX4 B w av d[i].attrs:=by
 obtain ⟨a,cap0,e0,e1,e2⟩:=Rf h
 obtain ⟨b,off,cap,cs,h1,h2,h3,h4,h5⟩:=qQb.elem h i hi
 have h5':=h5
 obtain ⟨av,kv,sv,rfl,q2,q3,q4⟩:=h5'
 have g0:=h4
 obtain ⟨av',kv',sv',hN⟩:=qWm h4 (h5.mono hBl)
 have e3:av'=av:=by
  have a1:=hN.atts
  have a2:=g0 3 av rfl
  rw [a2] at a1
  exact (Option.some.inj a1).symm
 rw [e3] at hN
 rw [h1] at e0
 simp at e0
 obtain ⟨_,rfl⟩:=e0
 exact ⟨b,off,cap,av,kv',sv',h1,e1,e2,hBl _ h2,hN,q2⟩
theorem qZb (m:Nat) (v:Value) (d:Dc) (n:Int) (el:Bool) (w:World) (hv:qQq m w v d) :
 Calls Tryz.prog 28 #[v,.int .i64 n,.bool el] w (Rv (.bool (isM d n el)) w):=by
 obtain ⟨a,cap,e0,h1,h2⟩:=Rf hv
 by_cases hn:0<=n
 ·by_cases hl:n<(d.length:Int)
  ·obtain ⟨k,rfl⟩:=Int.eq_ofNat_of_zero_le hn
   have hk:k<d.length:=by omega
   obtain ⟨b,off,cap',av,kv,sv,rfl,-,-,-,hN⟩:=hv.node k hk
   have c1:=hN.live
   have c2:=hN.tag
   have hi:isM d k el=(d[k].live&&(!el||!d[k].tag.isEmpty)):=by simp [isM,qQv hk,hk]
   rw [hi]
   clear hi hN e0 hv
   generalize d[k].live=lv at *
   generalize d[k].tag=tg at *
   go_enter Tryz.func28,Tryz.ntmps28
   rcases lv with - | -
   ·go_wp2
    go_ret
    exact ⟨rfl,rfl⟩
   ·rcases el with - | -
    ·go_wp2
     go_ret
     exact ⟨rfl,rfl⟩
    ·go_wp2
     go_ret
     exact ⟨qJx (by simp),rfl⟩
  ·subst e0
   have hi:isM d n el=false:=by simp [isM];omega
   rw [hi]
   go_enter Tryz.func28,Tryz.ntmps28
   go_wp2
   go_ret
   exact ⟨rfl,rfl⟩
 ·subst e0
  have hi:isM d n el=false:=by simp [isM];omega
  rw [hi]
  go_enter Tryz.func28,Tryz.ntmps28
  go_wp2
  go_ret
  exact ⟨rfl,rfl⟩
theorem qVe {m:Nat} {w:World} {b o len cap:Nat} {l:List Att} (h:qZy m w (.slice (some ⟨b,o,none⟩) len cap) l) (i:Nat) (hi:i<l.length) :
 w.cell? ⟨b,o+i*2,none⟩=some (.string ⟨l[i].name.toArray⟩)/\w.cell? ⟨b,o+i*2+1,none⟩=some (.string ⟨l[i].value.toArray⟩):=by
 obtain ⟨b',off',cap',cs,h1,_,h2,h3,h4⟩:=qQb.elem h i hi
 simp at h1
 obtain ⟨⟨rfl,rfl⟩,_,_⟩:=h1
 cases h4
 exact ⟨by simpa using h3.at 0 (by simp),by simpa using h3.at 1 (by simp)⟩
theorem qXs (m:Nat) (v:Value) (d:Dc) (n:Int) (s:Txt) (w:World) (hv:qQq m w v d) (hm:m<=w.heap.size) :
 Calls Tryz.prog 27 #[v,.int .i64 n,.string ⟨s.toArray⟩] w (Rb (.tuple #[.string ⟨((qKr d n s).getD []).toArray⟩,.bool (qKr d n s).isSome]) w):=by
 by_cases hi:isM d n true=true
 ·obtain ⟨k,hk,rfl,-⟩:=qZg.1 (qQ2 hi)
  obtain ⟨b,off,cap',av,kv,sv,rfl,-,-,-,hN⟩:=hv.node k hk
  have c1:=hN.atts
  have hA:=hN.attsAt
  have hI:=qZb m _ d k true w hv
  rw [hi] at hI
  have hr:qKr d k s=qZk d[k].attrs s:=by simp [qKr,hi,qQv hk]
  rw [hr]
  clear hr hN hi
  generalize d[k].attrs=l at *
  obtain ⟨a,cap,rfl,l1,l2⟩:=Rf hA
  clear hv
  go_enter Tryz.func27,Tryz.ntmps27
  go_wp2_with fail
  (with_reducible refine hI.mono ?_)
  rintro e w1 ⟨rfl,rfl⟩
  go_wp2
  go_loopw [19] (fun i wr=>∃ j:Nat,j<=l.length/\i=.int .i64 j/\qZk (l.drop j) s=qZk l s/\Below w.heap.size w wr) (fun i _=>l.length - (intOf i).toNat)
  case atStart=>exact ⟨0,by omega,rfl,rfl,Below.refl _ _⟩
  case round=>
   obtain ⟨j,hj,rfl,hF,hB⟩:=hrel
   have HB:=lH hB
   have HF:=lH hF
   have hA':=qQb.later hA qQh hB hm
   clear hB hF
   by_cases hlt:j<l.length
   ·obtain ⟨bb,oo,_,_,e1,_,_,_,_⟩:=qQb.elem hA' j hlt
    simp at e1
    obtain ⟨rfl,rfl⟩:=e1
    obtain ⟨d1,d2⟩:=qVe hA' j hlt
    have hd:l.drop j=l[j]::l.drop (j+1):=List.drop_eq_getElem_cons hlt
    rw [hd] at HF
    generalize l[j]=x at *
    clear hA hA' hd
    by_cases hx:x.name=s
    ·have hr:qZk l s=some x.value:=by rw [<- HF.o];simp [qZk,hx]
     have hb:(x.name==s)=true:=by simpa using hx
     rw [hr]
     clear hr hx
     go_wp2
     go_ret2
     refine ⟨rfl,?_⟩
     exact Bel.alloc HB.o _
    ·have hr:qZk (l.drop (j+1)) s=qZk l s:=by rw [<- HF.o];simp [qZk,hx]
     have hb:(x.name==s)=false:=by simpa using hx
     have HF:=lH hr
     clear hr hx
     go_wp2
     go_roundw
     case rel=>exact ⟨j+1,by omega,by go_num,HF.o,Bel.alloc HB.o _⟩
     case measure=>simp [intOf];omega
   ·have hr:qZk l s=none:=by rw [<- HF.o,List.drop_eq_nil_of_le (by omega)];rfl
    have HR:=lH hr
    clear hA hA' hr
    go_wp2
    go_ret2
    exact ⟨by simp [HR.o],HB.o⟩
 ·have hI:=qZb m _ d n true w hv
  have hi:isM d n true=false:=by simpa using hi
  rw [hi] at hI
  have hr:qKr d n s=none:=by simp [qKr,hi]
  rw [hr]
  clear hr
  go_enter Tryz.func27,Tryz.ntmps27
  go_wp2_with fail
  (with_reducible refine hI.mono ?_)
  rintro e w1 ⟨rfl,rfl⟩
  go_wp2
  go_ret2
  exact ⟨by simp,Below.refl _ _⟩
theorem qZl:SlT Tryz.prog 29 3 1 8:=by
 refine ⟨by kernel_rfl,?_⟩
 obtain ⟨i,h1,h2,h3,h4⟩:=info_parts (by kernel_rfl:(Tryz.prog.info? 3).map (fun i=>(i.zero,i.size,i.bytes))=some (some (.int .i64 0),1,8))
 exact ⟨i,_,h1,h2,h3,h4,rfl⟩
theorem qJm (m:Nat) (u v:Value) (a b:List Int) (w:World) (hu:qQ6 m w u a) (hv:qQ6 m w v b) (hm:m<=w.heap.size) :
 Calls Tryz.prog 33 #[u,v] w (Rb (.bool (decide (a=b))) w):=by
 obtain ⟨a1,cap1,rfl,h1,h2⟩:=Rf hu
 obtain ⟨b1,cap2,rfl,h3,h4⟩:=Rf hv
 go_enter Tryz.func33,Tryz.ntmps33
 by_cases hl:a.length=b.length
 ·have hb:((a.length:Int) != (b.length:Int))=false:=by rw [bne_eq_false_iff_eq];omega
  have hL:(a.length:Int)=(b.length:Int):=by omega
  go_wp2
  go_loopw [13] (fun i wr=>∃ j:Nat,j<=a.length/\i=.int .i64 j/\a.take j=b.take j/\Drew w wr) (fun i _=>a.length - (intOf i).toNat)
  case atStart=>exact ⟨0,by omega,rfl,rfl,Drew.refl _⟩
  case round=>
   obtain ⟨j,hj,rfl,hF,hD⟩:=hrel
   have HF:=lH hF
   have HD:=lH hD
   have hu':=qQb.later hu qQd (hD.below _) hm
   have hv':=qQb.later hv qQd (hD.below _) hm
   clear hF hD
   by_cases hlt:j<a.length
   ·have hlt':j<b.length:=by omega
    obtain ⟨_,_,_,_,e1,_,_,_,_⟩:=qQb.elem hu' j hlt
    obtain ⟨_,_,_,_,e2,_,_,_,_⟩:=qQb.elem hv' j hlt'
    simp at e1 e2
    obtain ⟨rfl,rfl⟩:=e1
    obtain ⟨rfl,rfl⟩:=e2
    have c1:=hu'.int_cell j hlt
    have c2:=hv'.int_cell j hlt'
    have ta:=Zk hlt
    have tb:=Zk hlt'
    by_cases hx:a[j]=b[j]
    ·have HF2:Hi (a.take (j+1)=b.take (j+1)):=lH (by rw [ta,tb,HF.o,hx])
     have HN:=lH hb
     rw [hx] at c1
     generalize b[j]=z at *
     have hz:(z != z)=false:=by simp
     clear hu hv hu' hv' ta tb hx
     go_wp2
     go_quiet (fail)
     go_wp2
     go_roundw
     case rel=>exact ⟨j+1,by omega,by go_num,HF2.o,HD.o.more _⟩
     case measure=>simp [intOf];omega
    ·have hr:decide (a=b)=false:=by rw [decide_eq_false_iff_not];rintro rfl;exact hx rfl
     rw [hr]
     generalize a[j]=y at *
     generalize b[j]=z at *
     have hz:(y != z)=true:=by simpa using hx
     clear hu hv hu' hv' ta tb hr
     go_wp2
     go_quiet (fail)
     go_wp2
     go_ret
     exact ⟨rfl,HD.o.more _ |>.below _⟩
   ·have hr:a=b:=by have:=HF.o;rwa [Zn (by omega),Zn (by omega)] at this
    have HR:=lH hr
    clear hu' hv' hr hu hv
    go_wp2
    go_ret
    exact ⟨qJx (by simp [HR.o]),HD.o.below _⟩
 ·have hb:((a.length:Int) != (b.length:Int))=true:=by rw [bne_iff_ne];omega
  have hr:decide (a=b)=false:=by rw [decide_eq_false_iff_not];rintro rfl;exact hl rfl
  rw [hr]
  go_wp2
  go_ret
  exact ⟨rfl,Below.refl _ _⟩
theorem qDf (d:Dc) (L:Nat) (out:List Int) (n:Int) (hL:out.length<=L) (hi:isM d n false=true):out++pathF d (L+1 - out.length) n=(out++[n])++pathF d (L+1 - (out++[n]).length) (nd d n).up:=by
 obtain ⟨j,hj⟩:∃ j,L+1 - out.length=j+1:=⟨L - out.length,by omega⟩
 rw [hj,pathF,if_pos hi,show L+1 - (out++[n]).length=j by simp;omega]
 simp
theorem qXz (m:Nat) (v:Value) (d:Dc) (n:Int) (w:World) (hv:qQq m w v d) (hm:m<=w.heap.size) (hd:d.length<=1000000000) :
 Calls Tryz.prog 144 #[v,.int .i64 n] w (Rn w fun w' x=>qQg 1 qQ3 w.heap.size 3 w' x (qJ3 d n)):=by
 obtain ⟨a1,cap1,rfl,h1,h2⟩:=Rf hv
 have HV:=lH hv
 clear hv
 go_enter Tryz.func144,Tryz.ntmps144
 go_wp2
 go_loopw [1,5] (fun i o wr=>∃ (k:Int) (out:List Int),i=.int .i64 k/\out.length<=d.length+1/\out++pathF d (d.length+1 - out.length) k=qJ3 d n/\qQg 1 qQ3 w.heap.size 3 wr o out/\Below w.heap.size w wr) (fun _ o _=>d.length+1 - lenV o)
 case atStart=>exact ⟨n,[],rfl,by simp,rfl,qQg.nil _ _ _,Below.refl _ _⟩
 case round=>
  obtain ⟨k,out,rfl,ho,hp,hO,hB⟩:=hrel
  have HP:=lH hp
  have HO:=lH hO
  have HB:=lH hB
  have hv:=HV.o.later hB hm
  obtain ⟨oa,ocap,rfl,o1,o2⟩:=Rf hO.read
  clear hp hO hB
  have HI:=lH (qZb m _ d k false wr hv)
  have S0:=HB.o.size
  cases hi:isM d k false with
  | false=>
    rw [hi] at HI
    have HR:Hi (out=qJ3 d n):=lH (by
     have:=HP.o
     cases hq:d.length+1 - out.length with
 | zero=>rw [hq,pathF] at this;simpa using this
 | succ q=>rw [hq,pathF,hi] at this;simpa using this)
    clear hv
    go_wp2_with (go_at_call 28;refine HI.o.mono ?_;rintro e w1 ⟨rfl,rfl⟩)
    go_ret
    exact ⟨HB.o,_,rfl,by rw [<- HR.o];exact HO.o⟩
  | true=>
    rw [hi] at HI
    by_cases hl:out.length<=d.length
    ·have HQ:=lH (qDf d d.length out k hl hi)
     obtain ⟨kk,hkk,rfl,-⟩:=qZg.1 hi
     obtain ⟨b,off,cap',av,kv,sv,e1,-,-,hbb,hN⟩:=HV.o.node kk hkk
     simp at e1
     obtain ⟨rfl,rfl⟩:=e1
     have hup:nd d kk=d[kk]:=qQv hkk
     rw [hup] at HQ
     have C4:∀ W',Below w.heap.size w W'->W'.cell? ⟨b,off+kk*9+4,none⟩=some (.int .i64 d[kk].up):=fun W' hW=>(Bel.cells hW _ _ (by omega)).trans hN.up
     clear hN hv hup
     generalize d[kk].up=u at *
     go_wp2_with (first
 | (at_builtin;go_must (refine qZa rfl _ _ _ rfl qZl (by decide) qQd qZz rfl HO.o rfl rfl (kk:Int) ⟨rfl,rfl⟩ (by omega) (by omega) S0 ?_);intro v1 w1 o1 g1;obtain ⟨oa1,ocap1,rfl,_,_⟩:=Rf o1.read;have c4:=C4 w1 (Below.own HB.o (Zb _) HO.o g1);have HO1:=lH o1;have HB1:=lH (Below.own HB.o (Zb _) HO.o g1);clear o1 g1)
 | (go_at_call 28;refine HI.o.mono ?_;rintro e w1 ⟨rfl,rfl⟩))
     go_roundw
     case rel=>exact ⟨_,out++[(kk:Int)],rfl,by simp;omega,by rw [<- HQ.o];exact HP.o,by simpa using HO1.o,HB1.o⟩
     case measure=>simp [lenV];omega
    ·have HR:Hi (out=qJ3 d n):=lH (by
      have:=HP.o
      rw [show d.length+1 - out.length=0 by omega,pathF] at this;simpa using this)
     clear hv
     go_wp2_with (go_at_call 28;refine HI.o.mono ?_;rintro e w1 ⟨rfl,rfl⟩)
     go_ret
     exact ⟨HB.o,_,rfl,by rw [<- HR.o];exact HO.o⟩
theorem qW4 {l:List Int} {x:Int} {j:Nat} (h:(l.take j).contains x=false) (hj:j<l.length) (hx:l[j]≠x):(l.take (j+1)).contains x=false:=by
 rw [Zk hj]
 simp only [List.contains_eq_mem,List.mem_append,List.mem_singleton,decide_eq_false_iff_not] at h ⊢
 exact fun g=>g.elim h (fun g=>hx g.symm)
theorem qJb (m:Nat) (v:Value) (d:Dc) (n i:Int) (w:World) (hv:qQq m w v d) (hm:m<=w.heap.size) (hd:d.length<=1000000000) :
 Calls Tryz.prog 111 #[v,.int .i64 n,.int .i64 i] w (Rb (.bool (qKz d n i)) w):=by
 have HP:=lH (qXz m v d n w hv hm hd)
 have hlen:(qJ3 d n).length<=d.length+1:=qYh _ _ _
 have hW:qKz d n i=(qJ3 d n).contains i:=rfl
 rw [hW]
 clear hv hW
 generalize qJ3 d n=l at *
 go_enter Tryz.func111,Tryz.ntmps111
 go_wp2_with fail
 (with_reducible refine HP.o.mono ?_)
 rintro e w1 ⟨b1,x,rfl,hO⟩
 have hR:=hO.read
 obtain ⟨a1,cap1,rfl,h1,h2⟩:=Rf hR
 have HB:=lH b1
 clear b1 hO
 go_wp2
 go_loop [13] (fun z=>∃ j:Nat,j<=l.length/\z=.int .i64 j/\(l.take j).contains i=false) (fun z=>l.length - (intOf z).toNat)
 case atStart=>exact ⟨0,by omega,rfl,rfl⟩
 case round=>
  obtain ⟨j,hj,rfl,hF⟩:=hrel
  have HF:=lH hF
  clear hF
  by_cases hlt:j<l.length
  ·obtain ⟨_,_,_,_,e1,_,_,_,_⟩:=qQb.elem hR j hlt
   simp at e1
   obtain ⟨rfl,rfl⟩:=e1
   have c1:=hR.int_cell j hlt
   by_cases hx:l[j]=i
   ·have hr:l.contains i=true:=by rw [<- hx];simp
    have hb:(l[j]==i)=true:=by simpa using hx
    rw [hr]
    generalize l[j]=y at *
    clear hR hr
    go_wp2
    go_ret
    exact ⟨rfl,HB.o⟩
   ·have HF2:=lH (qW4 HF.o hlt hx)
    have hb:(l[j]==i)=false:=by simpa using hx
    generalize l[j]=y at *
    clear hR
    go_wp2
    go_round
    case rel=>exact ⟨j+1,by omega,by go_num,HF2.o⟩
    case measure=>simp [intOf];omega
  ·have HR:Hi (l.contains i=false):=lH (by have:=HF.o;rwa [Zn (by omega)] at this)
   clear hR
   go_wp2
   go_ret
   exact ⟨qJx (by simpa using HR.o),HB.o⟩
theorem own_lit1 (w:World) (base:Nat) (n:Int) (hb:base<=w.heap.size):qQg 1 qQ3 base 3 (w.alloc (.cells #[.int .i64 n] 3)) (.slice (some ⟨w.heap.size,0,none⟩) 1 1) [n]:=
 ⟨[[.int .i64 n]],rfl,by intro i h h';simp at h;subst h;exact ⟨rfl,rfl⟩,rfl,.inr ⟨w.heap.size,1,_,rfl,hb,heap_alloc_new w _,Zb _,by decide,rfl,rfl⟩⟩
theorem qB2:∀ (f:Nat) (m:Nat) (v:Value) (d:Dc) (n:Int) (w:World),qQq m w v d->m<=w.heap.size->Ends d f n->(allF d f n).length<=1000000000 ->
 Calls Tryz.prog 95 #[v,.int .i64 n] w (Rn w fun w' x=>qQg 1 qQ3 w.heap.size 3 w' x (allF d f n)):=by
 intro f
 induction f with
 | zero=>intro m v d n w hv hm he;exact he.elim
 | succ f ih=>
 intro m v d n w hv hm he hL
 have HI:=lH (qZb m v d n false w hv)
 cases hi:isM d n false with
 | false=>
   rw [hi] at HI
   have hr:allF d (f+1) n=[]:=by rw [allF,if_neg (by simp [hi])]
   rw [hr]
   go_enter Tryz.func95,Tryz.ntmps95
   go_wp2_with (go_at_call 28;refine HI.o.mono ?_;rintro e w1 ⟨rfl,rfl⟩)
   go_ret
   exact ⟨Below.refl _ _,_,rfl,qQg.nil _ _ _⟩
 | true=>
   rw [hi] at HI
   have hE:=he hi
   have hr:allF d (f+1) n=n::((nd d n).shadow++(nd d n).kids).flatMap (allF d f):=by rw [allF,if_pos hi]
   rw [hr] at hL ⊢
   obtain ⟨k,hk,rfl,-⟩:=qZg.1 hi
   rw [qQv hk] at hE hL ⊢
   clear hr hi he
   obtain ⟨b,off,cap',av,kv,sv,rfl,-,-,hbb,hN⟩:=hv.node k hk
   have c5:=hN.kids
   have c7:=hN.shadow
   have kAt:=hN.kidsAt
   have sAt:=hN.shadowAt
   clear hN
   generalize d[k].kids=K at *
   generalize d[k].shadow=S at *
   obtain ⟨ka,kc,rfl,k1,k2⟩:=Rf kAt
   obtain ⟨sa,sc,rfl,s1,s2⟩:=Rf sAt
   have b5:∀ W',Below w.heap.size w W'->W'.cell? ⟨b,off+k*9+5,none⟩=some (.slice ka K.length kc):=fun W' hW=>(Bel.cells hW _ _ (by omega)).trans c5
   have b7:∀ W',Below w.heap.size w W'->W'.cell? ⟨b,off+k*9+7,none⟩=some (.slice sa S.length sc):=fun W' hW=>(Bel.cells hW _ _ (by omega)).trans c7
   go_enter Tryz.func95,Tryz.ntmps95
   go_wp2_with (go_at_call 28;refine HI.o.mono ?_;rintro e w1 ⟨rfl,rfl⟩)
   have a0:=own_lit1 w w.heap.size k (Zb _)
   have B0:Below w.heap.size w (w.alloc (.cells #[.int .i64 k] 3)):=(Below.refl _ _).alloc (Zb _) _
   have e5:=b5 _ B0
   have e7:=b7 _ B0
   generalize hw0:w.alloc (.cells #[.int .i64 k] 3)=w0 at *
   have hs0:w0.heap.size=w.heap.size+1:=by rw [<- hw0];simp
   clear hw0
   go_region
   have p0:∃ w1:World,w1=(w0.alloc (.cells #[.slice sa S.length sc,.slice ka K.length kc] 29)).drew:=⟨_,rfl⟩
   obtain ⟨w1,hw1⟩:=p0
   have hs1:w1.heap.size=w.heap.size+2:=by rw [hw1];simp [hs0]
   have hrow:(w0.alloc (.cells #[.slice sa S.length sc,.slice ka K.length kc] 29)).drew.heap[w.heap.size+1]?=some (.cells #[.slice sa S.length sc,.slice ka K.length kc] 29 (0,0)):=by
    have:=heap_alloc_new w0 (.cells #[.slice sa S.length sc,.slice ka K.length kc] 29)
    rw [hs0] at this
    exact this
   have q0:w1.cell? ⟨w.heap.size+1,0,none⟩=some (.slice sa S.length sc):=by
    rw [hw1,cell_of_row _ (w.heap.size+1) _ _ 29 (0,0) hrow];rfl
   have q1:w1.cell? ⟨w.heap.size+1,1,none⟩=some (.slice ka K.length kc):=by
    rw [hw1,cell_of_row _ (w.heap.size+1) _ _ 29 (0,0) hrow];rfl
   have A1:qQg 1 qQ3 w.heap.size 3 w1 (.slice (some ⟨w.heap.size,0,none⟩) 1 1) [(k:Int)]:=by
    rw [hw1];exact (a0.alloc qQd _).agree (fun _ _=>rfl) (fun _ _ _ h=>h)
   have B1:Below w.heap.size w w1:=by rw [hw1];exact (Below.alloc B0 (by simp [hs0]) _).trans ((Drew.refl _).more 1 |>.below _)
   clear hrow
   clear a0 B0 e5 e7 c5 c7
   rw [<- hw1]
   clear hw1 hs0 w0
   have Q0:=lH q0
   have Q1:=lH q1
   have HA1:=lH A1
   have HB1:=lH B1
   clear q0 q1 A1 B1
   go_wp2
   go_loopw [28,5] (fun i o wr=>∃ (j:Nat) (out:List Int),j<=2/\i=.int .i64 j/\qQg 1 qQ3 w.heap.size 3 wr o out/\out=(k:Int)::(([S,K].take j).flatten).flatMap (allF d f)/\o.ownBlock≠some (w.heap.size+1)/\qQi (·=w.heap.size+1) w1 wr/\Below w.heap.size w wr/\w1.heap.size<=wr.heap.size) (fun i _ _=>2 - (intOf i).toNat)
   case atStart=>exact ⟨0,[(k:Int)],by omega,rfl,HA1.o,rfl,by simp [Value.ownBlock],qQi.refl _ _,HB1.o,Zb _⟩
   case round=>
    obtain ⟨j,out,hj,rfl,hO,hP,hne,hAg,hB,hsz⟩:=hrel
    have HO:=lH hO
    have HP:=lH hP
    have HNE:=lH hne
    have HAG:=lH hAg
    have HB:=lH hB
    obtain ⟨oa,ocap,rfl,o1,o2⟩:=Rf hO.read
    clear hO hP hne hAg hB
    by_cases hlt:j<2
    ·have hcase:∃ (X:List Int) (xa:Option Addr) (xc:Nat),w1.cell? ⟨w.heap.size+1,j,none⟩=some (.slice xa X.length xc)/\qQ6 m w (.slice xa X.length xc) X/\X.length<=xc/\xc<=9223372036854775807 /\
      (∀ x∈X,Ends d f x)/\([S,K].take (j+1)).flatten=([S,K].take j).flatten++X/\∀ t,((([S,K].take j).flatten++X.take t).flatMap (allF d f)).length<=((S++K).flatMap (allF d f)).length:=by
      obtain rfl | rfl:j=0∨j=1:=by omega
      ·refine ⟨S,sa,sc,Q0.o,sAt,s1,s2,fun x hx=>hE x (List.mem_append_left _ hx),by simp,fun t=>?_⟩
       have:=congrArg List.length (congrArg (List.flatMap (allF d f)) (List.take_append_drop t S))
       simp only [List.flatMap_append,Zj,List.take_zero,List.flatten_nil,List.nil_append] at this ⊢
       omega
      ·refine ⟨K,ka,kc,Q1.o,kAt,k1,k2,fun x hx=>hE x (List.mem_append_right _ hx),by simp,fun t=>?_⟩
       have:=congrArg List.length (congrArg (List.flatMap (allF d f)) (List.take_append_drop t K))
       simp only [List.flatMap_append,Zj,List.take_succ_cons,List.take_zero,List.flatten_cons,List.flatten_nil,List.append_nil] at this ⊢
       omega
     obtain ⟨X,xa,xc,hx0,hXA,x1,x2,hXE,hXF,hXL⟩:=hcase
     have hxr:=(World.cell?_of_block (a:=⟨w.heap.size+1,j,none⟩) (HAG.o _ rfl)).trans hx0
     have HXE:=lH hXE
     have HXF:=lH hXF
     have HXL:=lH hXL
     have HE:=lH hE
     have HLL:=lH hL
     clear hx0 hXE hXF hXL hE hL
     have hd2:decide ((j:Int)<2)=true:=by simp;omega
     go_wp2
     go_loopw [34,5] (fun i o wr=>∃ (t:Nat) (out:List Int),t<=X.length/\i=.int .i64 t/\qQg 1 qQ3 w.heap.size 3 wr o out/\out=(k:Int)::(([S,K].take j).flatten++X.take t).flatMap (allF d f)/\o.ownBlock≠some (w.heap.size+1)/\qQi (·=w.heap.size+1) w1 wr/\Below w.heap.size w wr/\w1.heap.size<=wr.heap.size) (fun i _ _=>X.length - (intOf i).toNat)
     case atStart=>exact ⟨0,out,by omega,rfl,HO.o,by simpa using HP.o,HNE.o,HAG.o,HB.o,hsz⟩
     case round=>
      clear o1 o2 hsz HO HP HNE HAG HB hxr
      obtain ⟨t,out,ht,rfl,hO,hP,hne,hAg,hB,hsz⟩:=hrel
      have HO:=lH hO
      have HP:=lH hP
      have HNE:=lH hne
      have HAG:=lH hAg
      have HB:=lH hB
      obtain ⟨oa,ocap,rfl,o1,o2⟩:=Rf hO.read
      clear hO hP hne hAg hB
      by_cases hlt2:t<X.length
      ·obtain ⟨xb,xo,_,_,e1,hxb,_,_,_⟩:=qQb.elem hXA t hlt2
       simp at e1
       obtain ⟨rfl,rfl⟩:=e1
       have cx:=(Bel.cells HB.o _ _ (by omega)).trans (hXA.int_cell t hlt2)
       have hin:X[t]∈X:=Zl hlt2
       have S0:=HB.o.size
       have hlen1:=HXL.o t
       have hlen2:=HXL.o (t+1)
       have htk:X.take (t+1)=X.take t++[X[t]]:=Zk hlt2
       have HT:Hi ((k:Int)::(([S,K].take j).flatten++X.take (t+1)).flatMap (allF d f)=out++allF d f X[t]):=lH (by rw [htk,HP.o];simp only [List.flatMap_append,List.flatMap_cons,List.flatMap_nil,List.append_nil,List.cons_append,List.append_assoc])
       rw [htk] at hlen2
       have hout:=congrArg List.length HP.o
       simp only [List.flatMap_append,List.flatMap_cons,List.flatMap_nil,List.append_nil,Zj,Zm] at hlen1 hlen2 hout
       have hlL:=HLL.o
       simp only [List.flatMap_append,Zj,Zm] at hlL
       have HC:=lH (ih m _ d X[t] _ (hv.later HB.o hm) (Za hm S0) (HXE.o _ hin) (by omega))
       have hol:out.length+(allF d f X[t]).length<=1000000000:=by omega
       clear htk hlen1 hlen2 hout hlL hin
       generalize X[t]=x at *
       go_wp2_with (first
 | (at_builtin;go_must (refine qZ8 rfl _ _ _ rfl qZl (by decide) rfl HO2.o rfl HX2.o.read (fun cs y _ h=>qZz _ cs y h) (by omega) (by omega) (by omega) (fun _ _ _ _ _ h=>h) ?_);intro v3 w3 o3 g3 _ f3;have HO3:=lH o3;have HG3:=lH g3;have HF3:=lH f3;clear o3 g3 f3)
 | (go_at_call 95;(with_reducible refine HC.o.mono ?_);rintro e w2 ⟨b2,x2,rfl,o2'⟩;have HB2:=lH b2;have S2:=b2.size;have HX2:=lH o2';have HO2:=lH (HO.o.below b2 (Zb _) (fun _ _ _ h=>h));clear b2 o2'))
       go_roundw
       case rel=>
        have hne3:v3.ownBlock≠some (w.heap.size+1):=by
         rcases HF3.o with h | ⟨q,h,hq⟩
         ·rw [h];exact HNE.o
         ·rw [h];simp;omega
        have hag3:qQi (·=w.heap.size+1) w1 w3:=by
         intro b' hb'
         have hb'':b'=w.heap.size+1:=hb'
         rw [<- HAG.o b' hb',<- HB2.o.block b' (by omega)]
         exact HG3.o.block b' (by omega) (by rw [hb''];exact fun e=>HNE.o e.symm)
        exact ⟨t+1,_,by omega,by go_num,HO3.o,HT.o.symm,hne3,hag3,Below.own (Bt HB.o HB2.o) (Zb _) HO2.o HG3.o,Za hsz (Za S2 HG3.o.size)⟩
       case measure=>simp [intOf];omega
      ·go_wp2
       go_roundw
       case rel=>exact ⟨j+1,out,by omega,by go_num,HO.o,by rw [HXF.o,HP.o,Zn (show X.length<=t by omega)],HNE.o,HAG.o,HB.o,hsz⟩
       case measure=>simp [intOf];omega
    ·obtain rfl:j=2:=by omega
     go_wp2
     go_ret
     exact ⟨HB.o,_,rfl,by have hq:out=_:=HP.o;have:=HO.o;rw [show (k:Int)::(S++K).flatMap (allF d f)=out by rw [hq];simp];exact this⟩
theorem qB4 {l:List Int} {k:Int} {j:Nat} (hj:j<l.length):qQk (l.take (j+1)) k=if l[j]=k then qQk (l.take j) k else qQk (l.take j) k++[l[j]]:=by
 rw [Zk hj]
 unfold qQk
 rw [List.filter_append]
 split
 ·rename_i h;simp [h]
 ·rename_i h;simp [h]
theorem qJ2 (m:Nat) (v:Value) (l:List Int) (k:Int) (w:World) (hv:qQ6 m w v l) (hm:m<=w.heap.size) (hl:l.length<=1000000000) :
 Calls Tryz.prog 168 #[v,.int .i64 k] w (Rn w fun w' x=>qQg 1 qQ3 w.heap.size 3 w' x (qQk l k)):=by
 obtain ⟨a1,cap1,rfl,h1,h2⟩:=Rf hv
 have HV:=lH hv
 clear hv
 go_enter Tryz.func168,Tryz.ntmps168
 go_wp2
 go_loopw [10,5] (fun i o wr=>∃ (j:Nat) (out:List Int),j<=l.length/\i=.int .i64 j/\out=qQk (l.take j) k/\qQg 1 qQ3 w.heap.size 3 wr o out/\Below w.heap.size w wr) (fun i _ _=>l.length - (intOf i).toNat)
 case atStart=>exact ⟨0,[],by omega,rfl,rfl,qQg.nil _ _ _,Below.refl _ _⟩
 case round=>
  obtain ⟨j,out,hj,rfl,hP,hO,hB⟩:=hrel
  have HP:=lH hP
  have HO:=lH hO
  have HB:=lH hB
  have hR:=qQb.later HV.o qQd hB hm
  obtain ⟨oa,ocap,rfl,o1,o2⟩:=Rf hO.read
  clear hP hO hB
  by_cases hlt:j<l.length
  ·obtain ⟨_,_,_,_,e1,_,_,_,_⟩:=qQb.elem hR j hlt
   simp at e1
   obtain ⟨rfl,rfl⟩:=e1
   have c1:=hR.int_cell j hlt
   have S0:=HB.o.size
   have hol:out.length<=1000000000:=by
    rw [HP.o];unfold qQk
    exact Za (List.length_filter_le _ _) (by rw [List.length_take];omega)
   have HW:=lH (qB4 (k:=k) hlt)
   clear hR
   by_cases hx:l[j]=k
   ·have hb:(l[j] != k)=false:=by simpa using hx
    rw [if_pos hx] at HW
    generalize l[j]=y at *
    go_wp2
    go_roundw
    case rel=>exact ⟨j+1,out,by omega,by go_num,by rw [HW.o,HP.o],HO.o,HB.o⟩
    case measure=>simp [intOf];omega
   ·have hb:(l[j] != k)=true:=by simpa using hx
    rw [if_neg hx] at HW
    generalize l[j]=y at *
    go_wp2_with (at_builtin;go_must (refine qZa rfl _ _ _ rfl qZl (by decide) qQd qZz rfl HO.o rfl rfl y ⟨rfl,rfl⟩ (by omega) (by omega) S0 ?_);intro v1 w1 o1 g1;have HO1:=lH o1;have HB1:=lH (Below.own HB.o (Zb _) HO.o g1);clear o1 g1)
    go_roundw
    case rel=>exact ⟨j+1,out++[y],by omega,by go_num,by rw [HW.o,HP.o],HO1.o,HB1.o⟩
    case measure=>simp [intOf];omega
  ·have HR:Hi (out=qQk l k):=lH (by rw [HP.o,Zn (by omega)])
   clear hR
   go_wp2
   go_ret
   exact ⟨HB.o,_,rfl,by rw [<- HR.o];exact HO.o⟩
def storeAll:World->Nat->Nat->List Value->World
 | w,_,_,[]=>w
 | w,g,o,c::cs=>storeAll (w.setCell ⟨g,o,none⟩ c) g (o+1) cs
def setAll:List Value->Nat->List Value->List Value
 | xs,_,[]=>xs
 | xs,o,c::cs=>setAll (xs.set o c) (o+1) cs
theorem qBt:∀ (cs xs:List Value) (o:Nat),(setAll xs o cs).length=xs.length:=by
 intro cs
 induction cs with
 | nil=>intro xs o;rfl
 | cons c cs ih=>intro xs o;rw [setAll,ih];simp
theorem qYi:∀ (cs xs:List Value) (o j:Nat),j<o∨o+cs.length<=j->(setAll xs o cs)[j]?=xs[j]?:=by
 intro cs
 induction cs with
 | nil=>intro xs o j _;rfl
 | cons c cs ih=>
   intro xs o j h
   simp only [Zm] at h
   rw [setAll,ih _ _ _ (by omega),List.getElem?_set_ne (by omega)]
theorem zJj:∀ (cs xs:List Value) (o j:Nat),o+cs.length<=xs.length->j<cs.length->(setAll xs o cs)[o+j]?=cs[j]?:=by
 intro cs
 induction cs with
 | nil=>intro xs o j _ h;simp at h
 | cons c cs ih=>
   intro xs o j h1 h2
   simp only [Zm] at h1 h2
   rw [setAll]
   cases j with
   | zero=>
     have:=qYi cs (xs.set o c) (o+1) o (by omega)
     rw [List.getElem?_set_self (by omega)] at this
     exact this
   | succ j=>
     have:=ih (xs.set o c) (o+1) j (by simp;omega) (by omega)
     rw [show o+(j+1)=o+1+j by omega,this]
     simp
theorem qYf {base:Nat} {e:TypeId} {size g n cap:Nat}:∀ (cs:List Value) (w:World) (xs:List Value) (o:Nat),w.ownsRow base e size (.slice (some ⟨g,0,none⟩) n cap) n xs ->
 (storeAll w g o cs).ownsRow base e size (.slice (some ⟨g,0,none⟩) n cap) n (setAll xs o cs)/\w.grownBy (storeAll w g o cs) (some g):=by
 intro cs
 induction cs with
 | nil=>intro w xs o h;exact ⟨h,World.grownBy.refl _ _⟩
 | cons c cs ih=>
   intro w xs o h
   obtain ⟨h1,h2⟩:=h.stored o c
   obtain ⟨h3,h4⟩:=ih _ _ (o+1) h1
   exact ⟨h3,qK4 h2 h4⟩
theorem qWb:∀ (xss:List (List Value)) (i:Nat) (cs:List Value) (sz:Nat),(∀ x∈xss,x.length=sz)->cs.length=sz->i<xss.length->setAll xss.flatten (i*sz) cs=(xss.set i cs).flatten:=by
 intro xss i cs sz hx hc hi
 have hset:∀ x∈xss.set i cs,x.length=sz:=fun x h=>by
  rcases List.mem_or_eq_of_mem_set h with h | rfl
  ·exact hx x h
  ·exact hc
 apply List.ext_getElem?
 intro j
 have hl1:(setAll xss.flatten (i*sz) cs).length=xss.length*sz:=by rw [qBt,qZn hx]
 have hl2:(xss.set i cs).flatten.length=xss.length*sz:=by rw [qZn hset];simp
 by_cases hj:j<xss.length*sz
 ·have hsz:0<sz:=Nat.pos_of_ne_zero (by rintro rfl;simp at hj)
  have hq:j / sz<xss.length:=Nat.div_lt_of_lt_mul (by rw [Nat.mul_comm];exact hj)
  have hr:j % sz<sz:=Nat.mod_lt _ hsz
  have hj2:j=j / sz*sz+j % sz:=by rw [Nat.mul_comm];exact (Nat.div_add_mod j sz).symm
  have hbound:i*sz+sz<=xss.length*sz:=by rw [<- Nat.succ_mul];exact Nat.mul_le_mul_right _ hi
  by_cases hqi:j / sz=i
  ·have h1:=zJj cs xss.flatten (i*sz) (j % sz) (by rw [qZn hx,hc];exact hbound) (by omega)
   have h2:=qZo hset i (by simpa using hi) (j % sz) _ (by rw [List.getElem_set_self];exact Zi (by omega))
   rw [hj2,hqi,h1,h2]
   exact Zi (by omega)
  ·have h1:(setAll xss.flatten (i*sz) cs)[j]?=xss.flatten[j]?:=qYi _ _ _ _ (by
    rcases Nat.lt_or_gt_of_ne hqi with h | h
    ·left
     have:(j / sz+1)*sz<=i*sz:=Nat.mul_le_mul_right _ h
     rw [Nat.succ_mul] at this;omega
    ·right
     have:(i+1)*sz<=j / sz*sz:=Nat.mul_le_mul_right _ h
     rw [Nat.succ_mul] at this;omega)
   have h3:=qZo hx (j / sz) hq (j % sz) _ (Zi (by rw [hx _ (Zl hq)];exact hr))
   have h2:=qZo hset (j / sz) (by simpa using hq) (j % sz) (xss[j / sz][j % sz]'(by rw [hx _ (Zl hq)];exact hr)) (by
    rw [List.getElem_set_ne (fun h=>hqi h.symm)]
    exact Zi _)
   rw [h1]
   rw [<- hj2] at h2 h3
   rw [h2,h3]
 ·rw [List.getElem?_eq_none (by omega),List.getElem?_eq_none (by omega)]
theorem qQg.stored {α:Type} {sz:Nat} {rd:World->List Value->α->Prop} {base:Nat} {e:TypeId} {w:World} {g n cap:Nat} {l:List α} (h:qQg sz rd base e w (.slice (some ⟨g,0,none⟩) n cap) l) (i:Nat) (hi:i<l.length) (cs:List Value) (x:α)
 (hn:n=l.length) (hc:cs.length=sz) (hr:rd (storeAll w g (i*sz) cs) cs x) (hk:∀ ys y,y∈l->rd w ys y->rd (storeAll w g (i*sz) cs) ys y) :
 qQg sz rd base e (storeAll w g (i*sz) cs) (.slice (some ⟨g,0,none⟩) n cap) (l.set i x)/\w.grownBy (storeAll w g (i*sz) cs) (some g):=by
 subst hn
 obtain ⟨xss,q1,q2,q3⟩:=h
 obtain ⟨h1,h2⟩:=qYf cs w _ (i*sz) q3
 have hx:∀ x∈xss,x.length=sz:=by
  intro x hx
  obtain ⟨k,hk,rfl⟩:=List.getElem_of_mem hx
  exact (q2 k (by omega) hk).1
 rw [qWb xss i cs sz hx hc (by omega)] at h1
 refine ⟨⟨xss.set i cs,by simpa using q1,?_,by simpa using h1⟩,h2⟩
 intro k hk1 hk2
 by_cases hki:i=k
 ·subst hki
  simp only [List.getElem_set_self]
  exact ⟨hc,hr⟩
 ·rw [List.getElem_set_ne hki,List.getElem_set_ne hki]
  have:=q2 k (by simpa using hk1) (by simpa using hk2)
  exact ⟨this.1,hk _ _ (Zl _) this.2⟩
theorem qYk:∀ (f:Nat) (m:Nat) (v:Value) (d:Dc) (n:Int) (w:World),qQq m w v d->m<=w.heap.size->qV4 d f n->f<=1000000 ->
 Calls Tryz.prog 169 #[v,.int .i64 n] w (Rb (.int .i64 (qQp d f n:Nat)) w):=by
 intro f
 induction f with
 | zero=>intro m v d n w hv hm he;exact he.elim
 | succ f ih=>
 intro m v d n w hv hm he hL
 obtain ⟨hi,hE⟩:=he
 have hr:qQp d (f+1) n=maxL (((nd d n).shadow++(nd d n).kids).map (fun k=>1+qQp d f k)):=rfl
 have hb:=fun k=>qVd d f k
 rw [hr]
 obtain ⟨k,hk,rfl,-⟩:=qZg.1 hi
 rw [qQv hk] at hE ⊢
 clear hr hi
 obtain ⟨b,off,cap',av,kv,sv,rfl,-,-,hbb,hN⟩:=hv.node k hk
 have c5:=hN.kids
 have c7:=hN.shadow
 have kAt:=hN.kidsAt
 have sAt:=hN.shadowAt
 clear hN
 generalize d[k].kids=K at *
 generalize d[k].shadow=S at *
 obtain ⟨ka,kc,rfl,k1,k2⟩:=Rf kAt
 obtain ⟨sa,sc,rfl,s1,s2⟩:=Rf sAt
 go_enter Tryz.func169,Tryz.ntmps169
 go_wp2
 go_region
 have p0:∃ w1:World,w1=(w.alloc (.cells #[.slice sa S.length sc,.slice ka K.length kc] 29)).drew:=⟨_,rfl⟩
 obtain ⟨w1,hw1⟩:=p0
 have hs1:w1.heap.size=w.heap.size+1:=by rw [hw1];simp
 have hrow:(w.alloc (.cells #[.slice sa S.length sc,.slice ka K.length kc] 29)).drew.heap[w.heap.size]?=some (.cells #[.slice sa S.length sc,.slice ka K.length kc] 29 (0,0)):=
  heap_alloc_new w (.cells #[.slice sa S.length sc,.slice ka K.length kc] 29)
 have q0:w1.cell? ⟨w.heap.size,0,none⟩=some (.slice sa S.length sc):=by
  rw [hw1,cell_of_row _ w.heap.size _ _ 29 (0,0) hrow];rfl
 have q1:w1.cell? ⟨w.heap.size,1,none⟩=some (.slice ka K.length kc):=by
  rw [hw1,cell_of_row _ w.heap.size _ _ 29 (0,0) hrow];rfl
 have B1:Below w.heap.size w w1:=by rw [hw1];exact (Below.alloc (Below.refl _ _) (Zb _) _).trans ((Drew.refl _).more 1 |>.below _)
 clear hrow c5 c7
 rw [<- hw1]
 clear hw1
 have Q0:=lH q0
 have Q1:=lH q1
 have HB1:=lH B1
 clear q0 q1 B1
 go_wp2
 go_loopw [23,5] (fun i o wr=>∃ (j:Nat),j<=2/\i=.int .i64 j/\o=.int .i64 ((maxL ((([S,K].take j).flatten).map (fun k=>1+qQp d f k)):Nat):Int)/\qQi (·=w.heap.size) w1 wr/\Below w.heap.size w wr/\w1.heap.size<=wr.heap.size) (fun i _ _=>2 - (intOf i).toNat)
 case atStart=>exact ⟨0,by omega,rfl,rfl,qQi.refl _ _,HB1.o,Zb _⟩
 case round=>
  obtain ⟨j,hj,rfl,rfl,hAg,hB,hsz⟩:=hrel
  have HAG:=lH hAg
  have HB:=lH hB
  clear hAg hB
  have HE:=lH hE
  have HBD:=lH hb
  clear hE hb
  by_cases hlt:j<2
  ·have hcase:∃ (X:List Int) (xa:Option Addr) (xc:Nat),w1.cell? ⟨w.heap.size,j,none⟩=some (.slice xa X.length xc)/\qQ6 m w (.slice xa X.length xc) X/\X.length<=xc/\xc<=9223372036854775807 /\
    (∀ x∈X,qV4 d f x)/\([S,K].take (j+1)).flatten=([S,K].take j).flatten++X:=by
    obtain rfl | rfl:j=0∨j=1:=by omega
    ·exact ⟨S,sa,sc,Q0.o,sAt,s1,s2,fun x hx=>HE.o x (List.mem_append_left _ hx),by simp⟩
    ·exact ⟨K,ka,kc,Q1.o,kAt,k1,k2,fun x hx=>HE.o x (List.mem_append_right _ hx),by simp⟩
   obtain ⟨X,xa,xc,hx0,hXA,x1,x2,hXE,hXF⟩:=hcase
   have hxr:=(World.cell?_of_block (a:=⟨w.heap.size,j,none⟩) (HAG.o _ rfl)).trans hx0
   have HXE:=lH hXE
   have HXF:=lH hXF
   clear hx0 hXE hXF
   have hd2:decide ((j:Int)<2)=true:=by simp;omega
   go_wp2
   go_loopw [29,5] (fun i o wr=>∃ (t:Nat),t<=X.length/\i=.int .i64 t/\o=.int .i64 ((maxL ((([S,K].take j).flatten++X.take t).map (fun k=>1+qQp d f k)):Nat):Int)/\qQi (·=w.heap.size) w1 wr/\Below w.heap.size w wr/\w1.heap.size<=wr.heap.size) (fun i _ _=>X.length - (intOf i).toNat)
   case atStart=>exact ⟨0,by omega,rfl,by simp,HAG.o,HB.o,hsz⟩
   case round=>
    clear hsz HAG HB hxr
    obtain ⟨t,ht,rfl,rfl,hAg,hB,hsz⟩:=hrel
    have HAG:=lH hAg
    have HB:=lH hB
    clear hAg hB
    by_cases hlt2:t<X.length
    ·obtain ⟨xb,xo,_,_,e1,hxb,_,_,_⟩:=qQb.elem hXA t hlt2
     simp at e1
     obtain ⟨rfl,rfl⟩:=e1
     have cx:=(Bel.cells HB.o _ _ (by omega)).trans (hXA.int_cell t hlt2)
     have hin:X[t]∈X:=Zl hlt2
     have S0:=HB.o.size
     have htk:X.take (t+1)=X.take t++[X[t]]:=Zk hlt2
     have HC:=lH (ih m _ d X[t] _ (hv.later HB.o hm) (Za hm S0) (HXE.o _ hin) (by omega))
     have hq1:=HBD.o X[t]
     have hM:=zJp ((([S,K].take j).flatten++X.take t).map (fun k=>1+qQp d f k)) (1+qQp d f X[t])
     have HT:Hi (maxL ((([S,K].take j).flatten++X.take (t+1)).map (fun k=>1+qQp d f k))=max (maxL ((([S,K].take j).flatten++X.take t).map (fun k=>1+qQp d f k))) (1+qQp d f X[t])):=lH (by
      rw [<- hM,htk,<- List.append_assoc,List.map_append];rfl)
     have hML:maxL ((([S,K].take j).flatten++X.take t).map (fun k=>1+qQp d f k))<=f+1:=zQy (fun z hz=>by obtain ⟨y,_,rfl⟩:=List.mem_map.1 hz;have:=HBD.o y;omega)
     clear htk hM hin
     generalize qQp d f X[t]=q at *
     generalize maxL ((([S,K].take j).flatten++X.take t).map (fun k=>1+qQp d f k))=M at *
     generalize X[t]=x at *
     by_cases hgt:M<1+q
     ·have hE2:Hi (max M (1+q)=1+q):=lH (by omega)
      go_wp2_with (go_at_call 169;(with_reducible refine HC.o.mono ?_);rintro e w2 ⟨rfl,b2⟩;have HB2:=lH b2;have S2:=b2.size;clear b2)
      have hag2:qQi (·=w.heap.size) w1 w2:=by
       intro b' hb'
       have hb'':b'=w.heap.size:=hb'
       rw [<- HAG.o b' hb']
       exact HB2.o.block b' (by omega)
      exact ⟨⟨t+1,by omega,by go_num,by rw [HT.o,hE2.o];simp,hag2,Bt HB.o HB2.o,Za hsz S2⟩,by simp [intOf];omega⟩
     ·have hE2:Hi (max M (1+q)=M):=lH (by omega)
      go_wp2_with (go_at_call 169;(with_reducible refine HC.o.mono ?_);rintro e w2 ⟨rfl,b2⟩;have HB2:=lH b2;have S2:=b2.size;clear b2)
      have hag2:qQi (·=w.heap.size) w1 w2:=by
       intro b' hb'
       have hb'':b'=w.heap.size:=hb'
       rw [<- HAG.o b' hb']
       exact HB2.o.block b' (by omega)
      exact ⟨⟨t+1,by omega,by go_num,by rw [HT.o,hE2.o],hag2,Bt HB.o HB2.o,Za hsz S2⟩,by simp [intOf];omega⟩
    ·go_wp2
     go_roundw
     case rel=>exact ⟨j+1,by omega,by go_num,by rw [HXF.o,Zn (show X.length<=t by omega)],HAG.o,HB.o,hsz⟩
     case measure=>simp [intOf];omega
  ·obtain rfl:j=2:=by omega
   go_wp2
   go_ret
   exact ⟨ret_int (by simp),HB.o⟩
end Go.Proofs.YtklbmkaomojciaaGreat

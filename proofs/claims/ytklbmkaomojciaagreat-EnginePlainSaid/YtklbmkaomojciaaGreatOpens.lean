/- Changes that a law is given, opened. -/
import Derived.Test.YtklbmkaomojciaaGreatRefApply
import Derived.Deep.Slices
import Derived.SizedLaws
set_option maxRecDepth 100000
namespace Go.Proofs.YtklbmkaomojciaaGreat
open Go.RowKit Go.WideShapes Go.ChangeShapes
instance:Inhabited Chg:=⟨{}⟩
theorem max_eq:maxLen=9223372036854775807:=by decide
theorem qXx {cs:List Value} {i:Nat} (hi:i<cs.length):(cs.drop i).take 1=[cs[i]]:=by
 rw [List.drop_eq_getElem_cons hi];rfl
theorem qFs {H:Type} {enc:TypeId×Value->H} {P:Program} {w:World} {sp:Nat->Bool} {held:Bool} {e:TypeId} {fs:Array Field} (he:P.underlying e=some (.struct fs)) (ce:P.cellsOf e=6) (hsz:fs.size=6)
 (hfs:∀ i f,fs[i]?=some f->f.offset=i/\P.cellsOf f.type=1/\P.underlying f.type=some (if i<4 then .int .i64 else .string))
 {fuel:Nat} {cs:List Value} {y:DataW H×List MemPlace} (h:DataW.trod enc P w 0 sp held fuel e cs=some y) :
 ∃ x:Chg,rdChg w cs x/\cs.length=6/\x.name.length<=9223372036854775807/\x.value.length<=9223372036854775807:=by
 obtain ⟨xs,n,_,_,hl,hlen,hf⟩:=DataW.trod_struct he h
 rw [ce] at hl
 have hi:∀ i (hi:i<4),∃ k,cs[i]'(by omega)=.int .i64 k:=by
  intro i hi
  have hlt:i<fs.size:=by omega
  obtain ⟨o,c,u⟩:=hfs i fs[i] (Array.getElem?_eq_getElem hlt)
  have:=hf i fs[i] (Array.getElem?_eq_getElem hlt)
  rw [o,c,qXx (by omega),Zi (by omega)] at this
  rw [if_pos hi] at u
  obtain ⟨k,h1,_⟩:=DataW.trod_int u this
  exact ⟨k,by simpa using h1⟩
 have hs:∀ i (h1:4<=i) (hi:i<6),∃ s:Txt,cs[i]'(by omega)=.string ⟨s.toArray⟩/\s.length<=9223372036854775807:=by
  intro i h1 hi
  have hlt:i<fs.size:=by omega
  obtain ⟨o,c,u⟩:=hfs i fs[i] (Array.getElem?_eq_getElem hlt)
  have:=hf i fs[i] (Array.getElem?_eq_getElem hlt)
  rw [o,c,qXx (by omega),Zi (by omega)] at this
  rw [if_neg (by omega)] at u
  obtain ⟨k,h1,_,h3⟩:=DataW.trod_string u this
  refine ⟨k.data.toList,?_,?_⟩
  ·simp at h1;rw [h1]
  ·exact max_eq▸h3
 obtain ⟨k0,e0⟩:=hi 0 (by omega)
 obtain ⟨k1,e1⟩:=hi 1 (by omega)
 obtain ⟨k2,e2⟩:=hi 2 (by omega)
 obtain ⟨k3,e3⟩:=hi 3 (by omega)
 obtain ⟨s4,e4,b4⟩:=hs 4 (by omega) (by omega)
 obtain ⟨s5,e5,b5⟩:=hs 5 (by omega) (by omega)
 refine ⟨⟨k0,k1,k2,k3,s4,s5⟩,?_,hl,b4,b5⟩
 revert e0 e1 e2 e3 e4 e5
 match cs,hl with
 | [c0,c1,c2,c3,c4,c5],_=>
   intro e0 e1 e2 e3 e4 e5
   simp at e0 e1 e2 e3 e4 e5
   subst e0 e1 e2 e3 e4 e5
   rfl
theorem zZa {H:Type} {enc:TypeId×Value->H} {P:Program} {w:World} {sp:Nat->Bool} {held:Bool} {t e:TypeId} {fs:Array Field} (ht:P.underlying t=some (.slice e)) (he:P.underlying e=some (.struct fs)) (ce:P.cellsOf e=6) (hsz:fs.size=6)
 (hfs:∀ i f,fs[i]?=some f->f.offset=i/\P.cellsOf f.type=1/\P.underlying f.type=some (if i<4 then .int .i64 else .string))
 {r:Go.Reach} {b0:Nat} {v:Value} {d:DataW H} {ps:List MemPlace} (hval:Value.okWide P w r b0 t v) (hd:DataW.Trod enc P w 0 sp held t v d ps) :
 ∃ l:List Chg,qHk w.heap.size w v l/\(∀ x∈l,x.name.length<=9223372036854775807/\x.value.length<=9223372036854775807)/\((d=.nil/\l=[])∨∃ es sp,d=.slice es sp/\es.length=l.length):=by
 obtain ⟨a0,len0,cap0,rfl⟩:=okWide_slice ht hval
 obtain ⟨fuel,hf⟩:=hd
 rcases Deep.open_slice ht hf with ⟨h1,hd0⟩ | ⟨a,len,cap,m,n,D,Pl,h1,_,hl,hm,hmm,hd0,hx⟩
 ·simp [Value.cells] at h1
  obtain ⟨rfl,rfl,rfl⟩:=h1
  exact ⟨[],qQb.nil,by simp,.inl ⟨by simpa using (congrArg Prod.fst hd0),rfl⟩⟩
 ·simp [Value.cells] at h1
  obtain ⟨rfl,rfl,rfl⟩:=h1
  have hs:a.spot=none:=by
   simp only [Value.okWide,ht,Cell.okWide,Cell.ok] at hval
   exact hval.2.2.2.1
  obtain ⟨b,off,s⟩:=a
  simp only at hs
  subst hs
  have hlm:len0<=m:=by rw [hmm];split <;> omega
  have each:∀ i,i<len0->∃ x:Chg,(∃ cs,cs.length=6/\Cells w b (off+i*6) cs/\rdChg w cs x)/\x.name.length<=9223372036854775807/\x.value.length<=9223372036854775807:=by
   intro i hi
   obtain ⟨cs,h1,h2⟩:=hx i (by omega)
   rw [ce] at h1
   obtain ⟨_,hlen,hcell⟩:=World.cells?_some h1
   obtain ⟨x,q1,q2,q3,q4⟩:=qFs he ce hsz hfs h2
   refine ⟨x,⟨cs,q2,fun j u hu=>?_,q1⟩,q3,q4⟩
   have hj:j<6:=by
    rcases Nat.lt_or_ge j cs.length with h | h
    ·omega
    ·rw [List.getElem?_eq_none h] at hu;simp at hu
   have:=hcell j hj
   rw [Deep.add_add,Go.WideShapes.add_plain] at this
   rw [show off+i*6+j=off+(i*6+j) by omega,this,hu]
  obtain ⟨X,hX⟩:=Deep.choose_lt each
  refine ⟨(List.range len0).map X,.inr ⟨b,off,cap0,by simp,by simpa using hl,max_eq▸hm,fun i hi=>?_⟩,?_,.inr ⟨_,_,congrArg Prod.fst hd0,by simp⟩⟩
  ·have hi':i<len0:=by simpa using hi
   obtain ⟨⟨cs,q1,q2,q3⟩,_⟩:=hX i hi'
   refine ⟨?_,cs,q1,q2,by simpa using q3⟩
   exact Cells.lt q2 (by intro h;rw [h] at q1;simp at q1)
  ·intro x hx
   obtain ⟨i,hi,rfl⟩:=List.mem_map.1 hx
   exact (hX i (by simpa using hi)).2
theorem law_chgs {H:Type} {enc:TypeId×Value->H} {w:World} {sp:Nat->Bool} {held:Bool} {r:Go.Reach} {b0:Nat} {v:Value} {d:DataW H} {ps:List MemPlace} (hval:Value.okWide Tryz.prog w r b0 22 v) (hd:DataW.Trod enc Tryz.prog w 0 sp held 22 v d ps) :
 ∃ l:List Chg,qHk w.heap.size w v l/\(∀ x∈l,x.name.length<=9223372036854775807/\x.value.length<=9223372036854775807)/\((d=.nil/\l=[])∨∃ es sp,d=.slice es sp/\es.length=l.length):=by
 refine zZa Tryz.underlying22 Tryz.underlying40 (by kernel_rfl) rfl ?_ hval hd
 intro i f h
 match i with
 | 0=>simp at h;subst h;exact ⟨rfl,by kernel_rfl,Tryz.underlying3⟩
 | 1=>simp at h;subst h;exact ⟨rfl,by kernel_rfl,Tryz.underlying3⟩
 | 2=>simp at h;subst h;exact ⟨rfl,by kernel_rfl,Tryz.underlying3⟩
 | 3=>simp at h;subst h;exact ⟨rfl,by kernel_rfl,Tryz.underlying3⟩
 | 4=>simp at h;subst h;exact ⟨rfl,by kernel_rfl,Tryz.underlying9⟩
 | 5=>simp at h;subst h;exact ⟨rfl,by kernel_rfl,Tryz.underlying9⟩
 | i+6=>simp at h
theorem law_chg {H:Type} {enc:TypeId×Value->H} {w:World} {sp:Nat->Bool} {held:Bool} {r:Go.Reach} {b0:Nat} {v:Value} {d:DataW H} {ps:List MemPlace} (hval:Value.okWide Tryz.prog w r b0 40 v) (hd:DataW.Trod enc Tryz.prog w 0 sp held 40 v d ps) :
 ∃ x:Chg,v=chgV x/\x.name.length<=9223372036854775807/\x.value.length<=9223372036854775807:=by
 obtain ⟨cs,rfl,hsz⟩:=okWide_struct Tryz.underlying40 hval
 obtain ⟨fuel,hf⟩:=hd
 obtain ⟨x,h1,h2,h3,h4⟩:=qFs Tryz.underlying40 (by kernel_rfl) rfl (by
  intro i f h
  match i with
 | 0=>simp at h;subst h;exact ⟨rfl,by kernel_rfl,Tryz.underlying3⟩
 | 1=>simp at h;subst h;exact ⟨rfl,by kernel_rfl,Tryz.underlying3⟩
 | 2=>simp at h;subst h;exact ⟨rfl,by kernel_rfl,Tryz.underlying3⟩
 | 3=>simp at h;subst h;exact ⟨rfl,by kernel_rfl,Tryz.underlying3⟩
 | 4=>simp at h;subst h;exact ⟨rfl,by kernel_rfl,Tryz.underlying9⟩
 | 5=>simp at h;subst h;exact ⟨rfl,by kernel_rfl,Tryz.underlying9⟩
 | i+6=>simp at h) hf
 refine ⟨x,?_,h3,h4⟩
 have:cs.toList=[.int .i64 x.kind,.int .i64 x.node,.int .i64 x.dest,.int .i64 x.before,.string ⟨x.name.toArray⟩,.string ⟨x.value.toArray⟩]:=h1
 unfold chgV
 rw [<- this]
end Go.Proofs.YtklbmkaomojciaaGreat

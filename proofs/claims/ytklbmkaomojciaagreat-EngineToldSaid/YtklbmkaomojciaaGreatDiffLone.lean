/- All that is shown, walked. -/
import Derived.Test.YtklbmkaomojciaaGreatFlatAll
import Derived.Test.YtklbmkaomojciaaGreatShelf
import Derived.Test.YtklbmkaomojciaaGreatDiffDo
set_option maxRecDepth 100000
set_option maxHeartbeats 4000000
namespace Go.Proofs.YtklbmkaomojciaaGreat
open Go.RowKit
theorem zJ8 {d:Dc} (g:Good d):(shownR d).length<=60:=
 Za (qK3 d.length _ (qZ8 g).1 (fun x hx=>by have:=qJo ((qZ8 g).2 x hx);omega)) g.len
theorem zGc {d:Dc} (g:Good d) (n:Int) (rest:List Int):(n::rest).flatMap (preF (kidsR d) 100)=n::(kidsR d n++rest).flatMap (preF (kidsR d) 100):=by
 obtain ⟨r,gr⟩:=g.tree
 obtain ⟨μ,F⟩:=qJ6 gr
 exact zHd F (by have:=g.len;omega) n rest
theorem len_own {base:Nat} {e:TypeId} {w:World} {v:Value} {O:List Int} {x:Int} (h:qQb 1 qQf base e w v (O++[x])):lenV v=O.length+1:=by
 obtain ⟨a,c,rfl,_,_⟩:=Rf h.read
 simp [lenV]
theorem apart {base1 base2:Nat} {e:TypeId} {w w':World} {t o:Value} {T O:List Int} (ht:qQb 1 qQf base1 e w' t T) (ho:qQb 1 qQf base2 e w o O) (h:w.heap.size<=base1):t.ownBlock=none∨t.ownBlock≠o.ownBlock:=by
 cases h1:t.ownBlock with
 | none=>exact .inl rfl
 | some k=>
   right
   intro h2
   have:=(ht.lt k h1).1
   have:=(ho.lt k h2.symm).2
   omega
theorem zJl {d:Dc} {w w1 w2 w5:World} {v1 y2 v5:Value} {O X R:List Int} {x:Int} {e:TypeId} (h1:qQb 1 qQf w.heap.size e w1 v1 (O++[x])) (b1:Bel w w1) (b2:Bel w1 w2) (h2:qQb 1 qQf w1.heap.size e w2 y2 X)
 (h5:qQb 1 qQf w1.heap.size e w5 v5 (X++R)) (g5:w2.grownBy w5 y2.ownBlock) (hn:O++x::(X++R).flatMap (preF (kidsR d) 100)=shownR d) (hl:(X++R).length<=1000 - 12*(60 - (O++[x]).length)) :
 ∃ (O T:List Int),qQb 1 qQf w.heap.size e w5 v1 O/\qQb 1 qQf w.heap.size e w5 v5 T/\(v5.ownBlock=none∨v5.ownBlock≠v1.ownBlock)/\O++T.flatMap (preF (kidsR d) 100)=shownR d/\T.length<=1000 - 12*(60 - O.length)/\Bel w w5:=by
 have h12:=h1.below b2 (Zb _) (fun _ _ _ h=>h)
 have hne:v1.ownBlock=none∨v1.ownBlock≠y2.ownBlock:=by
  rcases apart h2 h1 (Zb _) with h | h
  ·cases h3:v1.ownBlock with
   | none=>exact .inl rfl
   | some k=>right;rw [h];simp
  ·exact .inr (fun e=>h e.symm)
 have h15:=h12.grown g5 hne (fun _ _ _ h=>h)
 refine ⟨O++[x],X++R,h15,h5.base_le b1.size,apart h5 h1 (Zb _),by rw [<- hn];simp,hl,?_⟩
 exact Below.grown (Bt b1 b2) g5 (Za b1.size b2.size) (fun k hk=>Za b1.size (h2.lt k hk).1)
theorem qFh (m:Nat) (v:Value) (d:Dc) (w:World) (hv:qZb m w v d) (hm:m<=w.heap.size) (g:Good d) :
 Calls Tryz.prog 121 #[v] w (Rn w fun w' x=>qQb 1 qQf w.heap.size 3 w' x (shownR d)):=by
 obtain ⟨va,vc,rfl,v1,v2⟩:=Rf hv
 have cK:Hi (∀ W x,Bel w W->Calls Tryz.prog 170 #[.slice va d.length vc,.int .i64 x] W (Rn W fun w' y=>qQb 1 qQf W.heap.size 3 w' y (kidsR d x))):=lH (fun W x h=>qW7 m _ d x W (hv.later h hm) (Za hm h.size) g)
 have eK:=enters_of (P:=Tryz.prog) Tryz.func170 (by kernel_rfl) rfl
 have HEK:=lH eK
 have HT0:Hi ([]++[(0:Int)].flatMap (preF (kidsR d) 100)=shownR d):=lH (by simp [shownR])
 have hsl:=zJ8 g
 have HTN:=lH (zGc g)
 have HKL:=lH (qDo g)
 have HA0:=lH (zYr w w.heap.size 0 (Zb _))
 have HB0:Hi (Bel w (w.alloc (.cells #[.int .i64 0] 3))):=lH ((Below.refl _ _).alloc (Zb _) _)
 clear hv eK
 go_enter Tryz.func121,Tryz.ntmps121
 go_wp2
 go_loopw [3,4] (fun o t wr=>∃ (O T:List Int),qQb 1 qQf w.heap.size 3 wr o O/\qQb 1 qQf w.heap.size 3 wr t T/\(t.ownBlock=none∨t.ownBlock≠o.ownBlock)/\O++T.flatMap (preF (kidsR d) 100)=shownR d/\T.length<=1000 - 12*(60 - O.length)/\Bel w wr) (fun o _ _=>61 - lenV o)
 case atStart=>exact ⟨[],[0],qQb.nil _ _ _,HA0.o,.inr (by simp [Value.ownBlock]),HT0.o,by simp,HB0.o⟩
 case round=>
  obtain ⟨O,T,hO,hT,hne,hS,hTl,hB⟩:=hrel
  have HO:=lH hO
  have HT:=lH hT
  have HNE:=lH hne
  have HS:=lH hS
  have HB:=lH hB
  have S0:=hB.size
  have hOl:O.length+(T.flatMap (preF (kidsR d) 100)).length<=60:=by
   have:=congrArg List.length hS
   rw [Zj] at this
   omega
  obtain ⟨oa,oc,rfl,o1,o2⟩:=Rf hO.read
  clear hS hne hO hB
  cases T with
  | nil=>
    obtain ⟨ta,tc,rfl,t1,t2⟩:=Rf hT.read
    have HR:Hi (O=shownR d):=lH (by have:=HS.o;simpa using this)
    clear hT HS
    go_wp2
    go_ret
    exact ⟨HB.o,_,rfl,HR.o▸HO.o⟩
  | cons x R=>
    obtain ⟨tb,tc,C,rfl,htb,hblk,hCl,tcm,tle,htk⟩:=zQ8 hT (by simp)
    have hcx:wr.cell? ⟨tb,0,none⟩=some (.int .i64 x):=by
     rw [hblk.cell 0]
     cases C with
     | nil=>simp at hCl;simp at tle;omega
     | cons c C=>simp at htk;simp [htk.1]
    have HN:Hi (O++x::(kidsR d x++R).flatMap (preF (kidsR d) 100)=shownR d):=lH (by rw [<- HTN.o];exact HS.o)
    have hkl:=HKL.o x
    have cKx:Hi (∀ W,Bel w W->Calls Tryz.prog 170 #[.slice va d.length vc,.int .i64 x] W (Rn W fun w' y=>qQb 1 qQf W.heap.size 3 w' y (kidsR d x))):=lH (fun W h=>cK.o W x h)
    have hO1:O.length+1<=60:=by
     rw [HTN.o,Zm] at hOl;omega
    clear hT hblk htk HS hOl
    generalize kidsR d x=X at *
    simp only [Zm] at tle hTl
    have hbel:=HB.o
    go_upto_region 6 with (at_builtin;go_must (refine qGi rfl _ _ _ rfl qJm (by decide) (rd:=qQf) (n0:=w.heap.size) ?ha0 (fun _ _ _ _ _ h=>h) qKy (base:=w.heap.size) ?ha1 rfl HO.o rfl ?hg x ⟨rfl,rfl⟩ ?hb1 ?hb2 ?hb3 ?_);(case ha0=>exact S0);(case ha1=>exact Zb _);(case hg=>rfl);(case hb1=>omega);(case hb2=>omega);(case hb3=>exact S0);intro v1 w1 o1 g1 f1;have HO1:=lH o1;have HB1:=lH (Below.own HB.o (Zb _) HO.o g1);have HG1:=lH g1;have HLV:Hi (lenV v1=O.length+1):=lH (len_own o1);clear o1 g1 f1)
    have hT1:=HT.o.grown HG1.o HNE.o (fun _ _ _ h=>h)
    have S1:=HB1.o.size
    have hrow:=lH hT1.read
    have hTb:=(hT1.lt tb rfl).2
    have HT1:=lH hT1
    clear hT1 hbel
    have hcK:=cKx.o w1.drew HB1.o.drew
    have HCK:=lH hcK
    clear hcK
    by_cases htc:tc=1
    ·subst htc
     obtain rfl:R=[]:=List.eq_nil_of_length_eq_zero (by omega)
     have hdr:Hi (∀ W,qQa 1 qQf (fun _=>True) W (.slice (some ⟨tb,0,none⟩) 0 0) ([]:List Int)):=lH (fun W=>qQa.nothing)
     go_region_law (first
 | (refine qKi rfl 170 HEK.o #[.tmp 17,.tmp 18] _ rfl (vs:=#[.slice va d.length vc,.int .i64 x]) ?hv HCK.o ?_;(case hv=>simp [Act.eval];exact ⟨rfl,rfl⟩);rintro e w2 ⟨b2,y2,rfl,o2⟩;refine ⟨_,rfl,?_⟩;have S2:=b2.size;have HB2:=lH (Below.trans (Br w1).drew b2);have HO2:=lH o2;clear b2 o2)
 | (refine qYc rfl (.tmp 19) (.tmp 21) 29 rfl qJm (by decide) (rd:=qQf) (base:=w1.heap.size) (l:=X) rfl HO2.o rfl (hdr.o w2) (fun cs y _ h=>qKy _ cs y h) ?hby ?mx S2 (fun _ _ _ _ _ h=>h) ?_;(case hby=>simp only [List.length_nil];omega);(case mx=>simp only [List.length_nil];omega);intro v5 w5 o5 g5 _ f5;have HO5:=lH o5;have HG5:=lH g5;have HF5:=lH f5;clear o5 g5 f5))
     all_goals
      have hfin:=zJl HO1.o HB1.o HB2.o HO2.o HO5.o HG5.o HN.o (by simp;omega)
      clear HO1 HB1 HB2 HO2 HO5 HG5 HN
      go_wp2
      go_roundw
      case rel=>
       obtain ⟨O',T',f1,f2,f3,f4,f5,f6⟩:=hfin
       first
        | exact ⟨O',f1,T',f2,f3,f4,f5,f6⟩
        | exact ⟨v1,v5,_,_,_,_,_,_,_,_,_,_,_,_,_,_,_,_,_,⟨O',T',f1,f2,f3,f4,f5,f6⟩,rfl⟩
      case measure=>first | (have hlv:=HLV.o;simp only [hlv];simp [lenV];omega) | (have hlv:=HLV.o;show 61 - lenV v1<61 - O.length;omega)
    ·have hle1:(1:Int)<=(R.length:Int)+1:=by omega
     have hdr:=lH (hrow.o.drop 1 (by simp))
     simp only [Zm,Nat.add_sub_cancel,List.drop_succ_cons,List.drop_zero,Nat.mul_one,Nat.zero_add] at hdr
     go_region_law (first
 | (refine qKi rfl 170 HEK.o #[.tmp 17,.tmp 18] _ rfl (vs:=#[.slice va d.length vc,.int .i64 x]) ?hv HCK.o ?_;(case hv=>simp [Act.eval];exact ⟨rfl,rfl⟩);rintro e w2 ⟨b2,y2,rfl,o2⟩;refine ⟨_,rfl,?_⟩;have S2:=b2.size;have HB2:=lH (Below.trans (Br w1).drew b2);have HO2:=lH o2;clear b2 o2)
 | (refine qYc rfl (.tmp 19) (.tmp 21) 29 rfl qJm (by decide) (rd:=qQf) (base:=w1.heap.size) (l:=X) rfl HO2.o rfl (qQa.later hdr.o qQc HB2.o (Zb _)) (fun cs y _ h=>qKy _ cs y h) ?hby ?mx S2 (fun _ _ _ _ _ h=>h) ?_;(case hby=>omega);(case mx=>omega);intro v5 w5 o5 g5 _ f5;have HO5:=lH o5;have HG5:=lH g5;have HF5:=lH f5;clear o5 g5 f5))
     all_goals
      have hfin:=zJl HO1.o HB1.o HB2.o HO2.o HO5.o HG5.o HN.o (by simp;omega)
      clear HO1 HB1 HB2 HO2 HO5 HG5 HN
      go_wp2
      go_roundw
      case rel=>
       obtain ⟨O',T',f1,f2,f3,f4,f5,f6⟩:=hfin
       first
        | exact ⟨O',f1,T',f2,f3,f4,f5,f6⟩
        | exact ⟨v1,v5,_,_,_,_,_,_,_,_,_,_,_,_,_,_,_,_,_,⟨O',T',f1,f2,f3,f4,f5,f6⟩,rfl⟩
      case measure=>first | (have hlv:=HLV.o;simp only [hlv];simp [lenV];omega) | (have hlv:=HLV.o;show 61 - lenV v1<61 - O.length;omega)
end Go.Proofs.YtklbmkaomojciaaGreat
set_option maxRecDepth 100000
namespace Go.Proofs.YtklbmkaomojciaaGreat
open Go.RowKit
def qVh:World->List Value->Clm->Prop:=fun _ cs c=>cs=[.int .i64 c.owner,.int .i64 c.kid]
theorem qZh:qBk qVh:=fun _ _ _ _ h=>h
abbrev qBx (n:Nat) (w:World) (v:Value) (l:List Clm):Prop:=qQa 2 qVh (·<n) w v l
theorem slt_clms:SlT Tryz.prog 26 91 2 16:=by
 refine ⟨by kernel_rfl,?_⟩
 obtain ⟨i,h1,h2,h3,h4⟩:=info_parts (by kernel_rfl:(Tryz.prog.info? 91).map (fun i=>(i.zero,i.size,i.bytes))=some (some (.agg #[.int .i64 0,.int .i64 0]),2,16))
 exact ⟨i,_,h1,h2,h3,h4,rfl⟩
theorem one_clm:∀ (w:World) (cs:List Value) (y:Clm),qVh w cs y->∀ u∈cs,u.oneCell'=true:=by
 rintro w cs y rfl u hu
 simp at hu
 rcases hu with rfl | rfl <;> rfl
theorem qFd {B:Nat->Prop} {w:World} {b o len cap:Nat} {l:List Clm} (h:qQa 2 qVh B w (.slice (some ⟨b,o,none⟩) len cap) l) (i:Nat) (hi:i<l.length) :
 w.cell? ⟨b,o+i*2,none⟩=some (.int .i64 l[i].owner)/\w.cell? ⟨b,o+i*2+1,none⟩=some (.int .i64 l[i].kid):=by
 obtain ⟨b',off',cap',cs,h1,_,h2,h3,h4⟩:=qQa.elem h i hi
 simp at h1
 obtain ⟨⟨rfl,rfl⟩,_,_⟩:=h1
 cases h4
 exact ⟨by simpa using h3.at 0 (by simp),by simpa using h3.at 1 (by simp)⟩
theorem qJf (m:Nat) (v:Value) (l:List Int) (x:Int) (w:World) (hv:qKf m w v l):Calls Tryz.prog 91 #[v,.int .i64 x] w (Rv (.bool (l.contains x)) w):=by
 rcases qQa.cases hv with ⟨rfl,rfl⟩ | ⟨b,o,c,rfl,h1,h2,h3⟩
 ·exact (Tryz.slices_Contains_int_empty none 0 x w).mono (fun e w' h=>⟨h.1,h.2.symm⟩)
 ·have hc:∀ j,j<l.length->w.cell? ⟨b,o+j,none⟩=some (.int .i64 (l.getD j 0)):=fun j hj=>by
   rw [hv.int_cell j hj];simp [List.getD,Zi hj]
  have:=Tryz.slices_Contains_int b o l.length c l x w (Zb _) (by omega) hc
  rw [Zn (Zb _)] at this
  exact this.mono (fun e w' h=>⟨h.1,h.2.symm⟩)
def clmIdx (n:Int):List Clm->Nat->Int
 | [],_=>-1
 | c::l,i=>if c.kid=n then (i:Int) else clmIdx n l (i+1)
theorem zK6 {n:Int} {l:List Clm} {j:Nat} (hj:j<l.length):clmIdx n (l.drop j) j=if l[j].kid=n then (j:Int) else clmIdx n (l.drop (j+1)) (j+1):=by
 rw [List.drop_eq_getElem_cons hj];rfl
theorem zXa (n:Int):∀ (l:List Clm) (i:Nat),(clmIdx n l i = -1/\ownerM l n = -1)∨∃ k,∃ h:k<l.length,clmIdx n l i=((i+k:Nat):Int)/\ownerM l n=l[k].owner:=by
 intro l
 induction l with
 | nil=>intro i;left;exact ⟨rfl,rfl⟩
 | cons a l ih=>
   intro i
   by_cases ha:a.kid=n
   ·right;exact ⟨0,by simp,by simp [clmIdx,ha],by simp [ownerM,ha]⟩
   ·have e:ownerM (a::l) n=ownerM l n:=by simp [ownerM,ha]
    rw [e,show clmIdx n (a::l) i=clmIdx n l (i+1) from if_neg ha]
    rcases ih (i+1) with h | ⟨k,hk,h1,h2⟩
    ·exact .inl h
    ·right
     exact ⟨k+1,by simp;omega,by rw [h1];congr 1;omega,by simpa using h2⟩
theorem qGs (o k n:Int) (g1:Nat) (w:World) (h1:w.cell? ⟨g1,0,none⟩=some (.int .i64 n)) :
 Calls Tryz.prog 172 #[.agg #[.int .i64 o,.int .i64 k],.pointer (some ⟨g1,0,none⟩)] w (Rb (.bool (k==n)) w):=by
 have h2:=(Bel.cells ((Br w).alloc (.cells #[.int .i64 o,.int .i64 k] 91)) g1 0 (World.block_lt_of_cell? w _ h1)).trans h1
 go_enter Tryz.func172,Tryz.ntmps172
 go_wp2
 go_ret
 exact ⟨rfl,(Br w).alloc _⟩
theorem qD6 (m:Nat) (v:Value) (l:List Clm) (n:Int) (g1:Nat) (w:World) (hv:qBx m w v l) (hm:m<=w.heap.size) (h1:w.cell? ⟨g1,0,none⟩=some (.int .i64 n)) :
 Calls Tryz.prog 171 #[v,.func (.func 172) #[] #[.pointer (some ⟨g1,0,none⟩)]] w (Rb (.int .i64 (clmIdx n l 0)) w):=by
 obtain ⟨a,c,rfl,l1,l2⟩:=Rf hv
 have HV:=lH hv
 have HC:Hi (∀ W o k,Bel w W->Calls Tryz.prog 172 #[.agg #[.int .i64 o,.int .i64 k],.pointer (some ⟨g1,0,none⟩)] W (Rb (.bool (k==n)) W)):=lH (fun W o k hW=>qGs o k n g1 W ((Bel.cells hW g1 0 (World.block_lt_of_cell? w _ h1)).trans h1))
 clear hv h1
 go_enter Tryz.func171,Tryz.ntmps171
 go_wp2
 go_loopw [8] (fun i wr=>∃ j:Nat,j<=l.length/\i=.int .i64 j/\clmIdx n (l.drop j) j=clmIdx n l 0/\Bel w wr) (fun i _=>l.length - (intOf i).toNat)
 case atStart=>exact ⟨0,by omega,rfl,rfl,Br _⟩
 case round=>
  obtain ⟨j,hj,rfl,hF,hB⟩:=hrel
  have HF:=lH hF
  have HB:=lH hB
  have hR:=qQa.later HV.o qZh hB hm
  clear hF hB
  by_cases hlt:j<l.length
  ·obtain ⟨_,_,_,_,e1,_,_,_,_⟩:=qQa.elem hR j hlt
   simp at e1
   obtain ⟨rfl,rfl⟩:=e1
   obtain ⟨c0,c1⟩:=qFd hR j hlt
   have HI:=lH (zK6 (n:=n) hlt)
   clear hR
   generalize l[j]=x at *
   obtain ⟨xo,xk⟩:=x
   simp only at c0 c1 HI
   have hcall:=lH (HC.o _ xo xk HB.o)
   by_cases hx:xk=n
   ·have hb:(xk==n)=true:=by simpa using hx
    have HR:Hi (clmIdx n l 0=(j:Int)):=lH (by rw [<- HF.o,HI.o,if_pos hx])
    rw [hb] at hcall
    clear hx
    go_wp2_with (go_at_call 172;refine qQe hcall.o HB fun w2 HB2=>?_)
    go_ret
    exact ⟨qQr HR.o.symm,HB2.o⟩
   ·have hb:(xk==n)=false:=by simpa using hx
    have HR:Hi (clmIdx n (l.drop (j+1)) (j+1)=clmIdx n l 0):=lH (by rw [<- HF.o,HI.o,if_neg hx])
    rw [hb] at hcall
    clear hx
    go_wp2_with (go_at_call 172;refine qQe hcall.o HB fun w2 HB2=>?_)
    go_roundw
    case rel=>exact ⟨j+1,by omega,by go_num,HR.o,HB2.o⟩
    case measure=>simp [intOf];omega
  ·have HR:Hi (clmIdx n l 0 = -1):=lH (by rw [<- HF.o,List.drop_eq_nil_of_le (by omega)];rfl)
   clear hR
   go_wp2
   go_ret
   exact ⟨qQr HR.o.symm,HB.o⟩
theorem qXw (m:Nat) (v:Value) (l:List Clm) (n:Int) (w:World) (hv:qBx m w v l) (hm:m<=w.heap.size):Calls Tryz.prog 122 #[v,.int .i64 n] w (Rb (.int .i64 (ownerM l n)) w):=by
 obtain ⟨a,c,rfl,l1,l2⟩:=Rf hv
 have hB:Bel w (w.alloc (.cells #[.int .i64 n] 3)):=(Br w).alloc _
 have hk:(w.alloc (.cells #[.int .i64 n] 3)).cell? ⟨w.heap.size,0,none⟩=some (.int .i64 n):=(Blk.new' w _ rfl #[.int .i64 n] 3).cell 0
 have cI:=lH (qD6 m _ l n w.heap.size _ (qQa.later hv qZh hB hm) (Za hm hB.size) hk)
 have HV:=lH hv
 have HB:=lH hB
 clear hv hB hk
 rcases zXa n l 0 with ⟨e1,e2⟩ | ⟨k,hk,e1,e2⟩
 ·rw [e1] at cI
  rw [e2]
  clear e1 e2
  go_enter Tryz.func122,Tryz.ntmps122
  go_wp2_with (go_at_call 171;refine qQe cI.o HB fun w2 HB2=>?_)
  go_ret
  exact ⟨rfl,HB2.o⟩
 ·rw [show ((0+k:Nat):Int)=(k:Int) by simp] at e1
  rw [e1] at cI
  rw [e2]
  obtain ⟨_,_,_,_,e3,_,_,_,_⟩:=qQa.elem HV.o k hk
  simp at e3
  obtain ⟨rfl,rfl⟩:=e3
  have hcc:∀ W,Bel w W->_:=fun W hW=>(qFd (qQa.later HV.o qZh hW hm) k hk).1
  have HCC:=lH hcc
  clear e1 e2 hcc
  generalize l[k].owner=o at *
  go_enter Tryz.func122,Tryz.ntmps122
  go_wp2_with (go_at_call 171;refine cI.o.mono ?_;rintro e w2 ⟨rfl,b2⟩;have c0:=HCC.o _ (Bt HB.o b2);have HB2:=lH (Bt HB.o b2);clear b2)
  go_ret
  exact ⟨rfl,HB2.o⟩
theorem qGe (m:Nat) (v u:Value) (d:Dc) (l:List Clm) (n:Int) (w:World) (hv:qZb m w v d) (hu:qBx m w u l) (hm:m<=w.heap.size) (g:Good d) :
 Calls Tryz.prog 78 #[v,u,.int .i64 n] w (Rb (.int .i64 (inM d l n)) w):=by
 have cO:=lH (qXw m u l n w hu hm)
 have cU:Hi (∀ W,Bel w W->Calls Tryz.prog 97 #[v,.int .i64 n] W (Rb (.int .i64 (upR d n)) W)):=lH (fun W h=>qYf m v d n W (hv.later h hm) (Za hm h.size) g)
 obtain ⟨va,vc,rfl,_,_⟩:=Rf hv
 obtain ⟨ua,uc,rfl,_,_⟩:=Rf hu
 have hI:inM d l n=if 0<=ownerM l n then ownerM l n else upR d n:=rfl
 rw [hI]
 clear hv hu hI
 generalize ownerM l n=o at *
 by_cases ho:0<=o
 ·rw [if_pos ho]
  go_enter Tryz.func78,Tryz.ntmps78
  go_wp2_with (go_at_call 122;refine qKb cO.o fun w2 HB2=>?_)
  go_ret
  exact ⟨rfl,HB2.o⟩
 ·rw [if_neg ho]
  go_enter Tryz.func78,Tryz.ntmps78
  go_wp2_with (first
 | (go_at_call 122;refine qKb cO.o fun w2 HB2=>?_)
 | (go_at_call 97;refine qQe (cU.o _ HB2.o) HB2 fun w3 HB3=>?_))
  go_ret
  exact ⟨rfl,HB3.o⟩
open Classical in
theorem zJ3 (m:Nat) (v u:Value) (d:Dc) (l:List Clm) (n k:Int) (w:World) (hv:qZb m w v d) (hu:qBx m w u l) (hm:m<=w.heap.size) (g:Good d) (hc:ClmOk d l) :
 Calls Tryz.prog 123 #[v,u,.int .i64 n,.int .i64 k] w (Rb (.bool (onB d l n k)) w):=by
 obtain ⟨μ,R,hμ⟩:=hc.tight g
 have hOn:onB d l n k=decide (On (inM d l) n k):=by
  have:=zHr g hc (n:=n) (k:=k)
  by_cases h:On (inM d l) n k <;> simp [h,this] <;> simpa [h] using this
 rw [hOn]
 have cU:Hi (∀ W x,Bel w W->Calls Tryz.prog 78 #[v,u,.int .i64 x] W (Rb (.int .i64 (inM d l x)) W)):=lH (fun W x h=>qGe m v u d l x W (hv.later h hm) (qQa.later hu qZh h hm) (Za hm h.size) g)
 obtain ⟨va,vc,rfl,_,_⟩:=Rf hv
 obtain ⟨ua,uc,rfl,_,_⟩:=Rf hu
 clear hv hu hOn hc hμ
 have HR:=lH R.up
 clear R
 generalize inM d l=up at *
 go_enter Tryz.func123,Tryz.ntmps123
 go_wp2
 go_loopw [2] (fun z wr=>∃ x:Int,z=.int .i64 x/\(On up x k↔On up n k)/\Bel w wr) (fun z _=>if intOf z<0 then 0 else μ (intOf z)+1)
 case atStart=>exact ⟨n,rfl,Iff.rfl,Br _⟩
 case round=>
  obtain ⟨x,rfl,hF,hB⟩:=hrel
  have HF:=lH hF
  have HB:=lH hB
  clear hF hB
  by_cases hx:0<=x
  ·by_cases hk:x=k
   ·have hb:(x==k)=true:=by simpa using hk
    have HT:Hi (On up n k):=lH (HF.o.1 (by rw [<- hk];exact .here hx))
    clear hk
    go_wp2
    go_ret
    exact ⟨qJj (by simp [HT.o]),HB.o⟩
   ·have hb:(x==k)=false:=by simpa using hk
    have cX:=lH (cU.o _ x HB.o)
    have HF2:Hi (On up (up x) k↔On up n k):=lH (Iff.trans ⟨fun h=>.step hx h,fun h=>by
     cases h with
 | here _=>exact absurd rfl hk
 | step _ h=>exact h⟩ HF.o)
    have HM:Hi (0<=up x->μ (up x)<μ x):=lH (HR.o x hx)
    clear hk
    generalize up x=y at *
    go_wp2_with (go_at_call 78;refine qQe cX.o HB fun w2 HB2=>?_)
    go_roundw
    case rel=>exact ⟨y,rfl,HF2.o,HB2.o⟩
    case measure=>
     simp only [intOf]
     have hx2:¬ x<0:=by omega
     by_cases hy:y<0
     ·simp [hy,hx2]
     ·have:=HM.o (by omega)
      simp [hy,hx2];omega
  ·have HT:Hi (¬ On up n k):=lH (fun h=>by have:=(HF.o.2 h).ge;omega)
   go_wp2
   go_ret
   exact ⟨qJj (by simp [HT.o]),HB.o⟩
end Go.Proofs.YtklbmkaomojciaaGreat
set_option maxRecDepth 100000
set_option maxHeartbeats 2000000
namespace Go.Proofs.YtklbmkaomojciaaGreat
open Go.RowKit
theorem qW6 (xn xr:Int) (xm xa:Txt) (xl xc:Int) (xo:Bool) (ka:Option Addr) (kn kc:Nat) (w:World) :
 Calls Tryz.prog 135 #[.agg #[.int .i64 xn,.int .i64 xr,.string ⟨xm.toArray⟩,.string ⟨xa.toArray⟩,.int .i64 xl,.int .i64 xc,.bool xo,.slice ka kn kc]] w (Rb (.agg #[.int .i64 xn,.int .i64 xr,.string ⟨xm.toArray⟩,.string ⟨xa.toArray⟩,.int .i64 xl,.int .i64 xc,.bool xo,.slice none 0 0]) w):=by
 go_enter Tryz.func135,Tryz.ntmps135
 go_upto_region 1 with fail
 refine qQq (E:=fun W=>Blk W w.heap.size [.int .i64 xn,.int .i64 xr,.string ⟨xm.toArray⟩,.string ⟨xa.toArray⟩,.int .i64 xl,.int .i64 xc,.bool xo,.slice ka kn kc] 111/\Blk W (w.heap.size+1) [.int .i64 0,.int .i64 0,.string ⟨#[]⟩,.string ⟨#[]⟩,.int .i64 0,.int .i64 0,.bool false,.slice none 0 0] 111/\Bel w W) ⟨(Blk.new' w _ rfl #[.int .i64 xn,.int .i64 xr,.string ⟨xm.toArray⟩,.string ⟨xa.toArray⟩,.int .i64 xl,.int .i64 xc,.bool xo,.slice ka kn kc] _).bel ((Br _).alloc _),Blk.new' _ _ (by simp) _ _,((Br w).alloc _).alloc _⟩ ?_
 rintro w1 ⟨h1,h2,hB⟩
 have c7:=h1.cell 7
 have f7:=h1.frozen 7
 simp only [Zd,Ze] at c7
 have H1:=lH h1
 have H2:=lH h2
 have HB:=lH hB
 clear h1 h2 hB
 go_upto_region 2 with fail
 refine qQq (E:=fun W=>Blk W w.heap.size [.int .i64 xn,.int .i64 xr,.string ⟨xm.toArray⟩,.string ⟨xa.toArray⟩,.int .i64 xl,.int .i64 xc,.bool xo,.slice none 0 0] 111/\Blk W (w.heap.size+1) [.int .i64 0,.int .i64 0,.string ⟨#[]⟩,.string ⟨#[]⟩,.int .i64 0,.int .i64 0,.bool false,.slice none 0 0] 111/\Bel w W) ⟨H1.o.set 7 _,H2.o.other _ _ (by simp),HB.o.setCell _ _ _ (Zb _)⟩ ?_
 clear c7 f7 H1 H2 HB
 rintro w2 ⟨h1,h2,hB⟩
 have c0:=h1.cell 0
 have c1:=h1.cell 1
 have c2:=h1.cell 2
 have c3:=h1.cell 3
 have c4:=h1.cell 4
 have c5:=h1.cell 5
 have c6:=h1.cell 6
 have c7:=h1.cell 7
 have d0:=h2.cell 0
 have d1:=h2.cell 1
 have d2:=h2.cell 2
 have d3:=h2.cell 3
 have d4:=h2.cell 4
 have d5:=h2.cell 5
 have d6:=h2.cell 6
 have d7:=h2.cell 7
 have fz:∀ j,w2.frozen? ⟨w.heap.size+1,j,none⟩=false:=fun j=>h2.frozen j
 simp only [Zd,Ze] at c0 c1 c2 c3 c4 c5 c6 c7 d0 d1 d2 d3 d4 d5 d6 d7
 have H2:=lH h2
 have HB:=lH hB
 clear h1 h2 hB
 go_wp2
 obtain ⟨w3,hw3⟩:∃ w3,w3=(((((((w2.setCell ⟨w.heap.size+1,0,none⟩ (.int .i64 xn)).setCell ⟨w.heap.size+1,1,none⟩ (.int .i64 xr)).setCell ⟨w.heap.size+1,2,none⟩ (.string ⟨xm.toArray⟩)).setCell ⟨w.heap.size+1,3,none⟩ (.string ⟨xa.toArray⟩)).setCell ⟨w.heap.size+1,4,none⟩ (.int .i64 xl)).setCell ⟨w.heap.size+1,5,none⟩ (.int .i64 xc)).setCell ⟨w.heap.size+1,6,none⟩ (.bool xo)).setCell ⟨w.heap.size+1,7,none⟩ (.slice none 0 0):=⟨_,rfl⟩
 have h3:Blk w3 (w.heap.size+1) [.int .i64 xn,.int .i64 xr,.string ⟨xm.toArray⟩,.string ⟨xa.toArray⟩,.int .i64 xl,.int .i64 xc,.bool xo,.slice none 0 0] 111:=by rw [hw3];exact (((((((H2.o.set 0 _).set 1 _).set 2 _).set 3 _).set 4 _).set 5 _).set 6 _).set 7 _
 have HB3:Hi (Bel w w3):=lH (by
  have hl:w.heap.size<=w.heap.size+1:=Nat.le_succ _
  rw [hw3]
  exact (((((((HB.o.setCell _ 0 _ hl).setCell _ 1 _ hl).setCell _ 2 _ hl).setCell _ 3 _ hl).setCell _ 4 _ hl).setCell _ 5 _ hl).setCell _ 6 _ hl).setCell _ 7 _ hl)
 rw [<- hw3]
 have c0:=h3.cell 0
 have c1:=h3.cell 1
 have c2:=h3.cell 2
 have c3:=h3.cell 3
 have c4:=h3.cell 4
 have c5:=h3.cell 5
 have c6:=h3.cell 6
 have c7:=h3.cell 7
 simp only [Zd,Ze] at c0 c1 c2 c3 c4 c5 c6 c7
 clear hw3 h3 H2 HB fz d0 d1 d2 d3 d4 d5 d6 d7
 exact bodyPost_ret (v:=.agg #[.int .i64 xn,.int .i64 xr,.string ⟨xm.toArray⟩,.string ⟨xa.toArray⟩,.int .i64 xl,.int .i64 xc,.bool xo,.slice none 0 0]) (by simp [results,Tryz.results135,go_sem,c0,c1,c2,c3,c4,c5,c6,c7]) rfl ⟨rfl,HB3.o⟩
def itsOf (t:Fl):Nat->Int->List It
 | 0,_=>[]
 | f+1,n=>(t.kids n).map (fun k=>.mk (t.head k) (itsOf t f k))
theorem qFg {t:Fl} (hw:Wf t) (hh:qDy t):∀ (f:Nat) (n:Int),nodesL (itsOf t f n)=(t.kids n).flatMap (preF t.kids f):=by
 intro f
 induction f with
 | zero=>
   intro n
   rw [itsOf]
   induction t.kids n with
   | nil=>rfl
   | cons a l ih=>rw [List.flatMap_cons,<- ih];rfl
 | succ f ih=>
   intro n
   have:∀ L:List Int,(∀ k∈L,Has t k)->nodesL (L.map (fun k=>It.mk (t.head k) (itsOf t f k)))=L.flatMap (preF t.kids (f+1)):=by
    intro L
    induction L with
    | nil=>intro _;rfl
    | cons k L ihL=>
      intro h
      rw [List.map_cons,nodesL,ihL (fun x hx=>h x (List.mem_cons_of_mem _ hx)),List.flatMap_cons,nodesI,ih k,hh k (h k List.mem_cons_self),preF]
   exact this _ (fun k hk=>(hw.has_kid hk).1)
theorem zGi {B:Nat->Prop} {w:World} {V:Int->Value} {t:Fl} (H:qYq B w V t) (hw:Wf t) {μ:Int->Nat} {N:Nat} (F:Falls t.kids μ N):∀ (f:Nat) (n:Int),(n = -1∨Has t n)->N<μ n+f->ItsK B f w (V n) (itsOf t f n):=by
 intro f
 induction f with
 | zero=>intro n _ h;have:=F.top n;omega
 | succ f ih=>
   intro n hn hf
   refine (H n hn).conv (by rw [itsOf,List.length_map]) (fun i h1 h2 b cs _ hb hr=>⟨hb,V (t.kids n)[i],?_,?_⟩)
   ·simp only [itsOf,List.getElem_map]
    exact hr
   ·simp only [itsOf,List.getElem_map]
    have hk:=Zl h1
    have:=F.down _ _ hk
    exact ih _ (.inr (hw.has_kid hk).1) (by omega)
def zJp (t:Fl) (f:Nat) (x:Int):List Int:=x::(t.kids x).flatMap (preF t.kids f)
theorem zBf {t:Fl} {L:List Int} (hw:Wf t) (hf:Fits L t) {μ:Int->Nat} {N f:Nat} (F:Falls t.kids μ N) (hN:N<f) {x:Int} (hx:Has t x):(zJp t f x).length<=L.length:=by
 have e:zJp t f x=preF t.kids f x:=(qGz F (by omega)).symm
 rw [e]
 refine qBs _ _ (qX3 F hw.alone f x (by omega)) (fun y hy=>hf y ?_)
 exact hw.in_has hx ((qKw F f x y (by omega)).1 hy)
theorem zJ5 {t:Fl} {μ:Int->Nat} {N f:Nat} (F:Falls t.kids μ N) (hN:N<f) {x y:Int}:y∈zJp t f x↔Reach t.kids x y:=by
 have e:zJp t f x=preF t.kids f x:=(qGz F (by omega)).symm
 rw [e]
 exact qKw F f x y (by omega)
theorem idx_any (p:Int->Bool) (l:List Int):decide (0<=idxM p l 0)=l.any p:=by
 rcases zZf p l 0 with ⟨h1,h2⟩ | ⟨k,hk,h1,h2,_⟩
 ·rw [h1]
  have:l.any p=false:=by rw [List.any_eq_false];intro x hx;rw [h2 x hx];simp
  rw [this]
  rfl
 ·rw [h1]
  have:l.any p=true:=by rw [List.any_eq_true];exact ⟨_,Zl hk,h2⟩
  rw [this]
  simp
theorem qKp (g:Nat) (lb:Array Value) (p:Int->Bool) (eg:∀ args w,(callFunc g args).run Tryz.prog w=.ok (.enter g args) w) (m:Nat) (v:Value) (l:List Int) (w:World) (hv:qKf m w v l) (hm:m<=w.heap.size) (hp:zHt g lb p w.heap.size w) :
 Calls Tryz.prog 128 #[v,.func (.func g) #[] lb] w (Rb (.bool (l.any p)) w):=by
 have cI:=lH (qJ8 g lb p eg m v l w hv hm hp)
 have HA:=lH (idx_any p l)
 obtain ⟨va,vc,rfl,_,_⟩:=Rf hv
 clear hv hp
 generalize idxM p l 0=r at *
 go_enter Tryz.func128,Tryz.ntmps128
 go_wp2_with (go_at_call 175;(with_reducible refine qKb cI.o fun w1 HB=>?_))
 go_ret
 exact ⟨by rw [<- HA.o];rfl,HB.o⟩
theorem qFa {m:Nat} {nv:Value} {NB:List Int} {g:Nat} {w:World} (hn:qKf m w nv NB) (_hm:m<=w.heap.size) (hg:w.cell? ⟨g,0,none⟩=some nv) (x:Int) :
 Calls Tryz.prog 176 #[.int .i64 x,.pointer (some ⟨g,0,none⟩)] w (Rb (.bool (NB.contains x)) w):=by
 have cC:=lH (qJf m nv NB x w hn)
 obtain ⟨va,vc,rfl,_,_⟩:=Rf hn
 clear hn
 go_enter Tryz.func176,Tryz.ntmps176
 go_wp2_with (go_at_call 91;(with_reducible refine cC.o.mono ?_);rintro e w1 ⟨rfl,rfl⟩)
 go_ret
 exact ⟨qJj (by simp),Br _⟩
theorem cf_lone1 (args:Array Value) (w:World):(callFunc 176 args).run Tryz.prog w=.ok (.enter 176 args) w:=by kernel_rfl
theorem qD9 {m k:Nat} {nv kv:Value} {NB:List Int} {b o:Nat} {h:Hd} {KS:List It} {w:World} (hn:qKf m w nv NB) (hm:m<=w.heap.size) (hc:TabC w b o h kv) (hk:ItsK (·<w.heap.size) k w kv KS) (hl:(nodesL [It.mk h KS]).length<=1000000000) :
 Calls Tryz.prog 131 #[.pointer (some ⟨b,o,none⟩),nv] w (Rb (.bool (!(nodesL [It.mk h KS]).any NB.contains)) w):=by
 obtain ⟨ka,kc,rfl,_,_⟩:=Rf hk
 obtain ⟨na,nc,rfl,_,_⟩:=Rf hn
 have hbl:=World.block_lt_of_cell? w _ hc.node
 obtain ⟨w1,hw1⟩:∃ w1,w1=w.alloc (.cells #[.slice na NB.length nc] 29):=⟨_,rfl⟩
 have hB1:Bel w w1:=by rw [hw1];exact (Br w).alloc _
 have hK1:Blk w1 w.heap.size [.slice na NB.length nc] 29:=by rw [hw1];exact Blk.new' w _ rfl _ _
 have c0:=(hB1.cells b _ hbl).trans hc.node
 have c1:=(hB1.cells b _ hbl).trans hc.role
 have c2:=(hB1.cells b _ hbl).trans hc.name
 have c3:=(hB1.cells b _ hbl).trans hc.about
 have c4:=(hB1.cells b _ hbl).trans hc.level
 have c5:=(hB1.cells b _ hbl).trans hc.checked
 have c6:=(hB1.cells b _ hbl).trans hc.off
 have c7:=(hB1.cells b _ hbl).trans hc.kids
 have hI:=qJs (rd:=rdIt (·<w1.heap.size+1) (k+1)) (sz:=8) w1 [.int .i64 h.node,.int .i64 h.role,.string ⟨h.name.toArray⟩,.string ⟨h.about.toArray⟩,.int .i64 h.level,.int .i64 h.checked,.bool h.off,.slice ka KS.length kc] 111 (It.mk h KS) rfl ⟨.slice ka KS.length kc,rfl,(hk.up (Bt hB1 ((Br w1).alloc _)) (Zb _)).mono (fun b hb=>by simpa using hb)⟩
 have hI2:ItsK (·<w1.heap.size+1) (k+1) (w1.alloc (.cells [.int .i64 h.node,.int .i64 h.role,.string ⟨h.name.toArray⟩,.string ⟨h.about.toArray⟩,.int .i64 h.level,.int .i64 h.checked,.bool h.off,.slice ka KS.length kc].toArray 111)) (.slice (some ⟨w1.heap.size,0,none⟩) 1 1) [It.mk h KS]:=qQa.mono hI (fun b hb=>by omega) (fun _ _ _ h=>h)
 have cN:=lH (qKl (k+1) _ _ _ _ hI2 (by simp) hl)
 have HB1:=lH hB1
 have HK1:=lH hK1
 have HN1:=lH (qQa.later hn qQc hB1 hm)
 have S1:=hB1.size
 clear hI hI2 hc hk hn hB1 hK1
 generalize nodesL [It.mk h KS]=L at *
 obtain ⟨hn',hr',hm',ha',hl',hc',ho'⟩:=h
 simp only at c0 c1 c2 c3 c4 c5 c6 cN
 go_enter Tryz.func131,Tryz.ntmps131
 go_upto_region 1 with fail
 rw [<- hw1]
 clear hw1
 go_wp2_with (first
 | (go_at_call 34;(with_reducible refine cN.o.mono ?_);rintro e w2 ⟨b2,y,rfl,o2⟩;have HB2:=lH (Bt ((Br w1).alloc _) b2);have cF:=lH (qKp 176 #[.pointer (some ⟨w.heap.size,0,none⟩)] NB.contains cf_lone1 w2.heap.size y L w2 o2.read (Zb _) (fun W hW x=>qFa (qQa.later HN1.o qQc (Bt HB2.o hW) (by omega)) (Za (by omega) (Bt HB2.o hW).size) ((HK1.o.bel (Bt HB2.o hW)).cell 0) x));obtain ⟨ya,yc,rfl,_,_⟩:=Rf o2.read;clear b2 o2)
 | (go_at_call 128;(with_reducible refine cF.o.mono ?_);rintro e w3 ⟨rfl,b3⟩;have HB3:=lH (Bt HB1.o (Bt HB2.o b3));clear b3))
 go_ret
 exact ⟨rfl,HB3.o⟩
end Go.Proofs.YtklbmkaomojciaaGreat

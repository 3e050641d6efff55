/- The document's roles, and what is hidden, walked. -/
import Derived.Test.YtklbmkaomojciaaGreatRoleDoc
namespace Go.Proofs.YtklbmkaomojciaaGreat
open Go.RowKit
theorem qKf.on {w w':World} {v:Value} {l:List Int} (h:qKf w.heap.size w v l) (hb:Bel w w'):qKf w'.heap.size w' v l:=(qQa.later h qQc hb (Zb _)).mono (fun _ h=>Zc h hb.size) (fun _ _ _ h=>h)
def zVj (x:Chg):List Value:=[.int .i64 x.kind,.int .i64 x.node,.int .i64 x.dest,.int .i64 x.before,.string ⟨x.name.toArray⟩,.string ⟨x.value.toArray⟩]
end Go.Proofs.YtklbmkaomojciaaGreat
namespace Go.Proofs.YtklbmkaomojciaaGreat
section
variable {d:Dc}
end
end Go.Proofs.YtklbmkaomojciaaGreat
namespace Go.Proofs.YtklbmkaomojciaaGreat
open Go.RowKit
end Go.Proofs.YtklbmkaomojciaaGreat
namespace Go.Proofs.YtklbmkaomojciaaGreat
def noSt:St:=⟨fun _=>false,fun _=>false⟩
def qXz (d:Dc) (C:List Clm) (n:Int):Txt×St:=
 if (nd d n).tag=[]∨(kOf (qQd d n)).named=true then qQt d C 100 n false false (markM d n noSt) else ([],markM d n noSt)
def qY0 (d:Dc) (C:List Clm) (n:Int) (s:St):Txt×St:=qYm d (fun k=>qQt d C 100 k true true) n descT { had:=fun x=>x==n,asked:=s.asked }
def qBh (d:Dc) (C:List Clm) (n:Int) (r:Txt×St):Txt×St:=
 if (nd d n).tag≠[]/\r.1≠[] then (if (qY0 d C n r.2).1=[]/\sq d n titleT≠r.1 then sq d n titleT else (qY0 d C n r.2).1,(qY0 d C n r.2).2) else ([],r.2)
structure Mm where
 name:Txt:=[]
 about:Txt:=[]
 uses:List Int:=[]
def qVw (d:Dc) (s:St):List Int:=((List.range d.length).map (fun k:Nat=>(k:Int))).filter s.asked
def qKv (d:Dc) (C:List Clm) (n:Int):Mm:=
 if isM d n false then ⟨(qXz d C n).1,(qBh d C n (qXz d C n)).1,qVw d (qBh d C n (qXz d C n)).2⟩ else {}
def alvlT:Txt:=[97,114,105,97,45,108,101,118,101,108]
def qVc:Txt:=[97,114,105,97,45,99,104,101,99,107,101,100]
def qVo:Txt:=[97,114,105,97,45,100,105,115,97,98,108,101,100]
def chkT:Txt:=[99,104,101,99,107,101,100]
def qYx:List Txt:=[altT,labelT,titleT,valueT,alvlT,qVc,qVo,chkT]
structure SameBut (d y:Dc) (k:Int):Prop where
 len:y.length=d.length
 live:∀ n,(nd y n).live=(nd d n).live
 tag:∀ n,(nd y n).tag=(nd d n).tag
 up:∀ n,(nd y n).up=(nd d n).up
 kids:∀ n,(nd y n).kids=(nd d n).kids
 hasS:∀ n,(nd y n).hasS=(nd d n).hasS
 shadow:∀ n,(nd y n).shadow=(nd d n).shadow
 inS:∀ n,(nd y n).inS=(nd d n).inS
 attr:∀ n s,s∉qYx->qKo y n s=qKo d n s
 rest:∀ n,0<=n->n≠k->nd y n=nd d n
section
variable {d y:Dc} {k:Int}
theorem SameBut.isM (H:SameBut d y k) (n:Int) (el:Bool):isM y n el=isM d n el:=by
 unfold Proofs.YtklbmkaomojciaaGreat.isM
 rw [H.len,H.live,H.tag]
theorem SameBut.said (H:SameBut d y k) (n:Int) {s:Txt} (hs:s∉qYx):said y n s=said d n s:=by
 unfold Proofs.YtklbmkaomojciaaGreat.said
 rw [H.attr n s hs]
theorem SameBut.hasA (H:SameBut d y k) (n:Int) {s:Txt} (hs:s∉qYx):hasA y n s=hasA d n s:=by
 unfold Proofs.YtklbmkaomojciaaGreat.hasA
 rw [H.attr n s hs]
theorem SameBut.attrAt (H:SameBut d y k) {n:Int} (h0:0<=n) (hn:n≠k) (s:Txt):qKo y n s=qKo d n s:=by
 unfold qKo
 rw [H.isM,H.rest n h0 hn]
theorem SameBut.saidAt (H:SameBut d y k) {n:Int} (h0:0<=n) (hn:n≠k) (s:Txt):Proofs.YtklbmkaomojciaaGreat.said y n s=Proofs.YtklbmkaomojciaaGreat.said d n s:=by
 unfold Proofs.YtklbmkaomojciaaGreat.said
 rw [H.attrAt h0 hn]
theorem SameBut.sqAt (H:SameBut d y k) {n:Int} (h0:0<=n) (hn:n≠k) (s:Txt):sq y n s=sq d n s:=by
 unfold sq
 rw [H.saidAt h0 hn]
theorem SameBut.hasAt (H:SameBut d y k) {n:Int} (h0:0<=n) (hn:n≠k) (s:Txt):Proofs.YtklbmkaomojciaaGreat.hasA y n s=Proofs.YtklbmkaomojciaaGreat.hasA d n s:=by
 unfold Proofs.YtklbmkaomojciaaGreat.hasA
 rw [H.attrAt h0 hn]
theorem SameBut.path (H:SameBut d y k):∀ f n,pathF y f n=pathF d f n:=by
 intro f
 induction f with
 | zero=>intro n;rfl
 | succ f ih=>intro n;unfold pathF;rw [H.isM,H.up,ih]
theorem SameBut.scope (H:SameBut d y k) (n:Int):qQ1 y n=qQ1 d n:=by
 unfold qQ1 qDf
 rw [H.len,H.path]
 simp only [H.inS,H.up]
theorem SameBut.allF (H:SameBut d y k):∀ f n,allF y f n=allF d f n:=by
 intro f
 induction f with
 | zero=>intro n;rfl
 | succ f ih=>
   intro n
   have e:Proofs.YtklbmkaomojciaaGreat.allF y f=Proofs.YtklbmkaomojciaaGreat.allF d f:=funext ih
   unfold Proofs.YtklbmkaomojciaaGreat.allF
   rw [H.isM,H.shadow,H.kids,e]
theorem SameBut.allM (H:SameBut d y k):allM y=allM d:=funext (H.allF 100)
theorem SameBut.slotR (H:SameBut d y k):slotR y=slotR d:=by
 funext n
 unfold Proofs.YtklbmkaomojciaaGreat.slotR
 rw [H.isM,H.inS,H.up,H.hasS,H.shadow,H.allM,H.said n (by decide)]
 have e:∀ a b,qXg y a b=qXg d a b:=fun a b=>by
  funext z
  unfold qXg
  rw [H.tag,H.scope,H.said z (by decide)]
 rw [e]
theorem SameBut.givenR (H:SameBut d y k):givenR y=givenR d:=by
 funext n
 unfold Proofs.YtklbmkaomojciaaGreat.givenR qX5
 rw [H.isM,H.tag,H.scope,H.kids,H.slotR]
theorem SameBut.kidsR (H:SameBut d y k):kidsR y=kidsR d:=by
 funext n
 unfold Proofs.YtklbmkaomojciaaGreat.kidsR
 rw [H.isM,H.hasS,H.shadow,H.kids,H.givenR]
theorem SameBut.upR (H:SameBut d y k):upR y=upR d:=by
 funext n
 unfold Proofs.YtklbmkaomojciaaGreat.upR
 rw [H.kidsR,H.len]
theorem SameBut.ups (H:SameBut d y k) (n:Int):ups y n=ups d n:=by
 unfold Proofs.YtklbmkaomojciaaGreat.ups
 rw [H.upR]
theorem SameBut.shownR (H:SameBut d y k):shownR y=shownR d:=by
 unfold Proofs.YtklbmkaomojciaaGreat.shownR
 rw [H.kidsR]
theorem SameBut.findD (H:SameBut d y k):findD y=findD d:=by
 funext n id
 unfold Proofs.YtklbmkaomojciaaGreat.findD
 rw [H.isM,H.allM]
 have e:∀ z,Proofs.YtklbmkaomojciaaGreat.said y z idT=Proofs.YtklbmkaomojciaaGreat.said d z idT:=fun z=>H.said z (by decide)
 simp only [H.scope,e]
theorem SameBut.claims (H:SameBut d y k):qZ0 y=qZ0 d:=by
 have e0:∀ l n a,onB y l n a=onB d l n a:=fun l n a=>by
  unfold onB inM
  rw [H.upR]
 have e1:qZg y=qZg d:=by
  funext n l id
  unfold qZg
  rw [H.findD,H.shownR,e0]
 have e2:qZ2 y=qZ2 d:=by
  funext l n
  unfold qZ2
  rw [e1,H.said n (by decide)]
 unfold qZ0
 rw [e2,H.shownR]
theorem SameBut.inside (H:SameBut d y k) (C:List Clm) (n:Int):qQs y C n=qQs d C n:=by
 unfold qQs
 rw [H.kidsR]
theorem SameBut.hid (H:SameBut d y k) (n:Int):qZd y n=qZd d n:=by
 have e:∀ f n,hidF y f n=hidF d f n:=by
  intro f
  induction f with
  | zero=>intro n;rfl
  | succ f ih=>
    intro n
    unfold hidF offM sq
    rw [H.isM,H.hasA n (by decide),H.said n (by decide),H.upR,ih]
 exact e 100 n
theorem SameBut.labelled (H:SameBut d y k) {n:Int} (h0:0<=n) (hn:n≠k):qZl y n=qZl d n:=by
 unfold qZl
 rw [H.sqAt h0 hn,H.sqAt h0 hn]
theorem SameBut.base (H:SameBut d y k) {n:Int} (h0:0<=n) (hn:n≠k):qXv y n=qXv d n:=by
 have e1:qW5 y n=qW5 d n:=by
  unfold qW5
  rw [H.labelled h0 hn,H.saidAt h0 hn]
 have e2:qZn y n=qZn d n:=by
  unfold qZn
  rw [H.tag,H.labelled h0 hn,H.sqAt h0 hn,H.sqAt h0 hn,H.sqAt h0 hn,H.hasAt h0 hn,H.hasAt h0 hn]
 unfold qXv
 rw [e1,e2]
theorem SameBut.rn (H:SameBut d y k):∀ f n,k∉qZ6 (Proofs.YtklbmkaomojciaaGreat.upR d) f n->rnF y f n=rnF d f n:=by
 intro f
 induction f with
 | zero=>intro n _;rfl
 | succ f ih=>
   intro n h
   rw [zZu,zZu]
   by_cases h0:n<0
   ·rw [if_pos h0,if_pos h0]
   ·rw [if_neg h0,if_neg h0,H.upR]
    unfold qZ6 at h
    rw [if_neg h0] at h
    simp only [List.mem_cons,not_or] at h
    rw [ih _ h.2]
    unfold zYv
    rw [H.isM,H.tag,H.base (by omega) (fun e=>h.1 e.symm)]
theorem SameBut.role (H:SameBut d y k) {n:Int} (h:k∉Proofs.YtklbmkaomojciaaGreat.ups d n):qQd y n=qQd d n:=by
 unfold qQd
 rw [H.rn 100 n h]
theorem qWf {one:Int->St->Txt×St} (h1:∀ k s x,s.asked x=true->(one k s).2.asked x=true):∀ (ks:List Int) (s:St) (x:Int),s.asked x=true->(eachF one ks s).2.asked x=true:=by
 intro ks
 induction ks with
 | nil=>intro s x h;exact h
 | cons k ks ih=>
   intro s x h
   unfold eachF
   split
   ·exact ih _ _ (h1 _ _ _ h)
   ·exact ih _ _ h
theorem zQk {one:Int->Bool->St->Txt×St} (h1:∀ k l s x,s.asked x=true->(one k l s).2.asked x=true) {n:Int} {w:Bool} {s:St} {x:Int} (h:s.asked x=true):(step1 d one n w s).2.asked x=true:=by
 unfold step1
 split
 ·exact h
 ·exact qWf (fun k s x h=>h1 k true s x h) _ _ _ h
theorem zHj {one:Int->St->Txt×St} (h1:∀ k s x,s.asked x=true->(one k s).2.asked x=true) {n:Int} {s:St} {x:Int} (h:s.asked x=true):(qXe d one n s).2.asked x=true:=by
 unfold qXe
 split
 ·exact h
 ·split
  ·split
   ·exact h1 _ _ _ h
   ·exact h
  ·exact h
theorem qWp {C:List Clm} {one:Int->Bool->St->Txt×St} (h1:∀ k l s x,s.asked x=true->(one k l s).2.asked x=true) {n:Int} {w li:Bool} {s:St} {x:Int} (h:s.asked x=true):(qHt d C one n w li s).2.asked x=true:=by
 unfold qHt
 split
 ·exact qWf (fun k s x h=>h1 k li s x h) _ _ _ h
 ·exact h
theorem zQq {C:List Clm} {one:Int->Bool->St->Txt×St} (h1:∀ k l s x,s.asked x=true->(one k l s).2.asked x=true) {n:Int} {w li:Bool} {s:St} {x:Int} (h:s.asked x=true):(step2 d C one n w li s).2.asked x=true:=by
 have h2:=zHj (d:=d) (n:=n) (fun k s x h=>h1 k false s x h) h
 unfold step2
 split
 ·exact h
 ·split
  ·exact h
  ·split
   ·exact h2
   ·split
    ·exact qWp h1 h2
    ·exact qWp h1 h2
theorem zQp {C:List Clm} {one:Int->Bool->St->Txt×St} (h1:∀ k l s x,s.asked x=true->(one k l s).2.asked x=true) {n:Int} {w li:Bool} {s:St} {x:Int} (h:(markM d n s).asked x=true):(qY3 d C one n w li s).2.asked x=true:=by
 unfold qY3
 split
 ·exact h
 ·split
  ·exact h
  ·split
   ·exact zQk h1 h
   ·exact zQq h1 (zQk h1 h)
theorem zGn {n:Int} {s:St} {x:Int} (h:s.asked x=true):(markM d n s).asked x=true:=by
 simp [markM,h]
theorem qYo {C:List Clm}:∀ (f:Nat) (n:Int) (w l:Bool) (s:St) (x:Int),s.asked x=true->(qQt d C f n w l s).2.asked x=true:=by
 intro f
 induction f with
 | zero=>intro n w l s x h;exact h
 | succ f ih=>
   intro n w l s x h
   rw [qDh]
   exact zQp (fun k l s x h=>ih k true l s x h) (zGn h)
theorem qFn {one one':Int->St->Txt×St} (h1:∀ j s x,s.asked x=true->(one j s).2.asked x=true) (he:∀ j s,0<=j->(one j s).2.asked k=false->one' j s=one j s):∀ (ks:List Int) (s:St),(eachF one ks s).2.asked k=false->eachF one' ks s=eachF one ks s:=by
 intro ks
 induction ks with
 | nil=>intro s _;rfl
 | cons j ks ih=>
   intro s h
   unfold eachF at h ⊢
   split
   ·rename_i hc
    rw [if_pos hc] at h
    have h2:(one j s).2.asked k=false:=by
     cases e:(one j s).2.asked k with
     | false=>rfl
     | true=>rw [qWf h1 ks _ _ e] at h;simp at h
    rw [he j s hc.1 h2,ih _ h]
   ·rename_i hc
    rw [if_neg hc] at h
    exact ih _ h
theorem qXn {a b:Bool} (h:a=true->b=true) (hb:b=false):a=false:=by
 cases a with
 | false=>rfl
 | true=>rw [h rfl] at hb;simp at hb
theorem allF_is:∀ (f:Nat) (n x:Int),x∈allF d f n->Proofs.YtklbmkaomojciaaGreat.isM d x false=true:=by
 intro f
 induction f with
 | zero=>intro n x h;simp [Proofs.YtklbmkaomojciaaGreat.allF] at h
 | succ f ih=>
   intro n x h
   unfold Proofs.YtklbmkaomojciaaGreat.allF at h
   split at h
   ·rcases List.mem_cons.1 h with rfl | h
    ·assumption
    ·obtain ⟨z,_,hz⟩:=List.mem_flatMap.1 h
     exact ih z x hz
   ·simp at h
theorem zJj (H:SameBut d y k) {C:List Clm}:∀ (f:Nat) (n:Int) (w l:Bool) (s:St),0<=n->(qQt d C f n w l s).2.asked k=false->qQt y C f n w l s=qQt d C f n w l s:=by
 intro f
 induction f with
 | zero=>intro n w l s _ _;rfl
 | succ f ih=>
   intro n w l s h0 ha
   rw [qDh] at ha ⊢
   rw [qDh]
   have M1:∀ j l s x,s.asked x=true->(qQt d C f j true l s).2.asked x=true:=fun j l s x h=>qYo f j true l s x h
   have hm:(markM d n s).asked k=false:=qXn (fun h=>zQp (C:=C) (w:=w) (li:=l) M1 h) ha
   have hu:k∉ups d n:=by
    intro h
    simp [markM,h] at hm
   have hnk:n≠k:=by
    intro e
    apply hu
    subst e
    unfold ups
    show n∈qZ6 (upR d) (99+1) n
    unfold qZ6
    rw [if_neg (by omega)]
    exact List.mem_cons_self
   have ih':∀ (l:Bool) (j:Int) (s:St),0<=j->(qQt d C f j true l s).2.asked k=false->qQt y C f j true l s=qQt d C f j true l s:=fun l j s hj h=>ih j true l s hj h
   have em:markM y n s=markM d n s:=by
    unfold markM
    rw [H.ups]
   have er:=H.role hu
   have e1:∀ s,(step1 d (fun j l s=>qQt d C f j true l s) n w s).2.asked k=false->step1 y (fun j l s=>qQt y C f j true l s) n w s=step1 d (fun j l s=>qQt d C f j true l s) n w s:=fun s h=>by
    unfold step1 at h ⊢
    split
    ·rfl
    ·rename_i hw
     rw [if_neg hw] at h
     unfold qYm at h ⊢
     rw [H.findD,H.saidAt h0 hnk]
     rw [qFn (fun j s x h=>M1 j true s x h) (fun j s hj h=>ih' true j s hj h) _ _ h]
   have e2:∀ s,(qXe d (fun j=>qQt d C f j true false) n s).2.asked k=false->qXe y (fun j=>qQt y C f j true false) n s=qXe d (fun j=>qQt d C f j true false) n s:=fun s h=>by
    have el:qK0 y n s=qK0 d n s:=by
     funext j
     unfold qK0
     rw [H.tag,H.said j (by decide),H.said n (s:=idT) (by decide),H.scope,H.scope]
    unfold qXe at h ⊢
    rw [H.tag,H.sqAt h0 hnk,H.saidAt h0 hnk,H.findD,H.allM,el]
    split
    ·rfl
    ·rename_i hi
     rw [if_neg hi] at h
     split
     ·rename_i hj
      rw [if_pos hj] at h
      cases hf:(Proofs.YtklbmkaomojciaaGreat.allM d 0).find? (qK0 d n s) with
      | none=>rfl
      | some j=>
        rw [hf] at h
        have:=allF_is 100 0 j (List.mem_of_find?_eq_some hf)
        exact ih' false j s (qQh.1 this).1 h
     ·rfl
   have e3:∀ s,(qHt d C (fun j l s=>qQt d C f j true l s) n w l s).2.asked k=false->qHt y C (fun j l s=>qQt y C f j true l s) n w l s=qHt d C (fun j l s=>qQt d C f j true l s) n w l s:=fun s h=>by
    unfold qHt at h ⊢
    rw [er]
    split
    ·rename_i hw
     rw [if_pos hw] at h
     unfold qX8 at h ⊢
     rw [H.inside]
     rw [qFn (fun j s x h=>M1 j l s x h) (fun j s hj h=>ih' l j s hj h) _ _ h]
    ·rfl
   unfold qY3 at ha ⊢
   rw [H.hid,H.tag,em,H.rest n h0 hnk]
   split
   ·rfl
   ·rename_i c1
    rw [if_neg c1] at ha
    split
    ·rfl
    ·rename_i c2
     rw [if_neg c2] at ha
     have hA:(step1 d (fun j l s=>qQt d C f j true l s) n w (hitM n (markM d n s))).2.asked k=false:=by
      split at ha
      ·exact ha
      ·exact qXn (fun h=>zQq (n:=n) (w:=w) (li:=l) (C:=C) M1 h) ha
     rw [e1 _ hA]
     split
     ·rfl
     ·rename_i c3
      rw [if_neg c3] at ha
      generalize step1 d (fun j l s=>qQt d C f j true l s) n w (hitM n (markM d n s))=r1 at *
      unfold step2 at ha ⊢
      rw [H.sqAt h0 hnk,H.sqAt h0 hnk,H.sqAt h0 hnk,er]
      split
      ·rfl
      ·rename_i c4
       rw [if_neg c4] at ha
       split
       ·rfl
       ·rename_i c5
        rw [if_neg c5] at ha
        have hB:(qXe d (fun j=>qQt d C f j true false) n r1.2).2.asked k=false:=by
         split at ha
         ·exact ha
         ·split at ha
          ·exact qXn (fun h=>qWp (n:=n) (w:=w) (li:=l) (C:=C) M1 h) ha
          ·exact qXn (fun h=>qWp (n:=n) (w:=w) (li:=l) (C:=C) M1 h) ha
        rw [e2 _ hB]
        split
        ·rfl
        ·rename_i c6
         rw [if_neg c6] at ha
         have hC:(qHt d C (fun j l s=>qQt d C f j true l s) n w l (qXe d (fun j=>qQt d C f j true false) n r1.2).2).2.asked k=false:=by
          split at ha
          ·exact ha
          ·exact ha
         rw [e3 _ hC]
theorem zB4 (H:SameBut d y k) {C:List Clm} {n:Int} (hk:Proofs.YtklbmkaomojciaaGreat.isM d k false=true) (hu:k∉(qKv d C n).uses):qKv y C n=qKv d C n:=by
 unfold qKv at hu ⊢
 rw [H.isM]
 split
 ·rename_i hn
  rw [if_pos hn] at hu
  have h0:0<=n:=(qQh.1 hn).1
  simp only at hu
  have hask:(qBh d C n (qXz d C n)).2.asked k=false:=by
   cases e:(qBh d C n (qXz d C n)).2.asked k with
   | false=>rfl
   | true=>
     refine absurd ?_ hu
     obtain ⟨q,hq,rfl,-⟩:=qQz.1 hk
     exact List.mem_filter.2 ⟨List.mem_map.2 ⟨q,List.mem_range.2 hq,rfl⟩,e⟩
  have hd:∀ s x,s.asked x=true->(qY0 d C n s).2.asked x=true:=fun s x h=>qWf (fun j s x h=>qYo 100 j true true s x h) _ _ _ h
  have hm0:(qXz d C n).2.asked k=false:=by
   refine qXn (fun h=>?_) hask
   unfold qBh
   split
   ·exact hd _ _ h
   ·exact h
  have hmk:(markM d n noSt).asked k=false:=by
   refine qXn (fun h=>?_) hm0
   unfold qXz
   split
   ·exact qYo _ _ _ _ _ _ h
   ·exact h
  have hu:k∉ups d n:=by
   intro h
   simp [markM,h] at hmk
  have hnk:n≠k:=by
   intro e
   apply hu
   subst e
   unfold ups
   show n∈qZ6 (upR d) (99+1) n
   unfold qZ6
   rw [if_neg (by omega)]
   exact List.mem_cons_self
  have em:markM y n noSt=markM d n noSt:=by
   unfold markM
   rw [H.ups]
  have e0:qXz y C n=qXz d C n:=by
   unfold qXz at hm0 ⊢
   rw [H.tag,H.role hu,em]
   split
   ·rename_i c
    rw [if_pos c] at hm0
    exact zJj H 100 n false false _ h0 hm0
   ·rfl
  rw [e0]
  have e1:qBh y C n (qXz d C n)=qBh d C n (qXz d C n):=by
   unfold qBh at hask ⊢
   rw [H.tag,H.sqAt h0 hnk]
   split
   ·rename_i c
    rw [if_pos c] at hask
    have ed:qY0 y C n (qXz d C n).2=qY0 d C n (qXz d C n).2:=by
     unfold qY0 qYm at hask ⊢
     rw [H.findD,H.saidAt h0 hnk]
     rw [qFn (fun j s x h=>qYo 100 j true true s x h) (fun j s hj h=>zJj H 100 j true true s hj h) _ _ hask]
    rw [ed]
   ·rfl
  rw [e1]
  have eu:qVw y=qVw d:=by
   funext s
   unfold qVw
   rw [H.len]
  rw [eu]
 ·rfl
end
end Go.Proofs.YtklbmkaomojciaaGreat

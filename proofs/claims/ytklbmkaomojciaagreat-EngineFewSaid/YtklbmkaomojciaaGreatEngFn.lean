/- The document's roles, and what is hidden, walked. -/
import Derived.Test.YtklbmkaomojciaaGreatRoleDoc
namespace Go.Proofs.YtklbmkaomojciaaGreat
open Go.RowKit
theorem qKf.on {w w':World} {v:Value} {l:List Int} (h:qKf w.heap.size w v l) (hb:Bel w w'):qKf w'.heap.size w' v l:=(qQa.later h qQc hb (Zb _)).mono (fun _ h=>Zc h hb.size) (fun _ _ _ h=>h)
def zY4 (x:Chg):List Value:=[.int .i64 x.kind,.int .i64 x.node,.int .i64 x.dest,.int .i64 x.before,.string ⟨x.name.toArray⟩,.string ⟨x.value.toArray⟩]
end Go.Proofs.YtklbmkaomojciaaGreat
namespace Go.Proofs.YtklbmkaomojciaaGreat
section
variable {d:Dc}
end
end Go.Proofs.YtklbmkaomojciaaGreat
namespace Go.Proofs.YtklbmkaomojciaaGreat
open Go.RowKit
end Go.Proofs.YtklbmkaomojciaaGreat
namespace Go.Proofs.YtklbmkaomojciaaGreat
def noSt:St:=⟨fun _=>false,fun _=>false⟩
def qX0 (d:Dc) (C:List Clm) (n:Int):Txt×St:=
 if (nd d n).tag=[]∨(kOf (qQd d n)).named=true then qQt d C 100 n false false (markM d n noSt) else ([],markM d n noSt)
def qY7 (d:Dc) (C:List Clm) (n:Int) (s:St):Txt×St:=qYk d (fun k=>qQt d C 100 k true true) n descT { had:=fun x=>x==n,asked:=s.asked }
def qW5 (d:Dc) (C:List Clm) (n:Int) (r:Txt×St):Txt×St:=
 if (nd d n).tag≠[]/\r.1≠[] then (if (qY7 d C n r.2).1=[]/\sq d n titleT≠r.1 then sq d n titleT else (qY7 d C n r.2).1,(qY7 d C n r.2).2) else ([],r.2)
structure Mm where
 name:Txt:=[]
 about:Txt:=[]
 uses:List Int:=[]
def qV4 (d:Dc) (s:St):List Int:=((List.range d.length).map (fun k:Nat=>(k:Int))).filter s.asked
def qKw (d:Dc) (C:List Clm) (n:Int):Mm:=
 if isM d n false then ⟨(qX0 d C n).1,(qW5 d C n (qX0 d C n)).1,qV4 d (qW5 d C n (qX0 d C n)).2⟩ else {}
def alvlT:Txt:=[97,114,105,97,45,108,101,118,101,108]
def qYw:Txt:=[97,114,105,97,45,99,104,101,99,107,101,100]
def qVl:Txt:=[97,114,105,97,45,100,105,115,97,98,108,101,100]
def chkT:Txt:=[99,104,101,99,107,101,100]
def qYr:List Txt:=[altT,labelT,titleT,valueT,alvlT,qYw,qVl,chkT]
structure SameBut (d y:Dc) (k:Int):Prop where
 len:y.length=d.length
 live:∀ n,(nd y n).live=(nd d n).live
 tag:∀ n,(nd y n).tag=(nd d n).tag
 up:∀ n,(nd y n).up=(nd d n).up
 kids:∀ n,(nd y n).kids=(nd d n).kids
 hasS:∀ n,(nd y n).hasS=(nd d n).hasS
 shadow:∀ n,(nd y n).shadow=(nd d n).shadow
 inS:∀ n,(nd y n).inS=(nd d n).inS
 attr:∀ n s,s∉qYr->qKk y n s=qKk d n s
 rest:∀ n,0<=n->n≠k->nd y n=nd d n
section
variable {d y:Dc} {k:Int}
theorem SameBut.isM (H:SameBut d y k) (n:Int) (el:Bool):isM y n el=isM d n el:=by
 unfold Proofs.YtklbmkaomojciaaGreat.isM
 rw [H.len,H.live,H.tag]
theorem SameBut.said (H:SameBut d y k) (n:Int) {s:Txt} (hs:s∉qYr):said y n s=said d n s:=by
 unfold Proofs.YtklbmkaomojciaaGreat.said
 rw [H.attr n s hs]
theorem SameBut.hasA (H:SameBut d y k) (n:Int) {s:Txt} (hs:s∉qYr):hasA y n s=hasA d n s:=by
 unfold Proofs.YtklbmkaomojciaaGreat.hasA
 rw [H.attr n s hs]
theorem SameBut.attrAt (H:SameBut d y k) {n:Int} (h0:0<=n) (hn:n≠k) (s:Txt):qKk y n s=qKk d n s:=by
 unfold qKk
 rw [H.isM,H.rest n h0 hn]
theorem SameBut.saidAt (H:SameBut d y k) {n:Int} (h0:0<=n) (hn:n≠k) (s:Txt):Proofs.YtklbmkaomojciaaGreat.said y n s=Proofs.YtklbmkaomojciaaGreat.said d n s:=by
 unfold Proofs.YtklbmkaomojciaaGreat.said
 rw [H.attrAt h0 hn]
theorem SameBut.sqAt (H:SameBut d y k) {n:Int} (h0:0<=n) (hn:n≠k) (s:Txt):sq y n s=sq d n s:=by
 unfold sq
 rw [H.saidAt h0 hn]
theorem SameBut.hasAt (H:SameBut d y k) {n:Int} (h0:0<=n) (hn:n≠k) (s:Txt):Proofs.YtklbmkaomojciaaGreat.hasA y n s=Proofs.YtklbmkaomojciaaGreat.hasA d n s:=by
 unfold Proofs.YtklbmkaomojciaaGreat.hasA
 rw [H.attrAt h0 hn]
theorem SameBut.path (H:SameBut d y k):∀ f n,pathF y f n=pathF d f n:=by
 intro f
 induction f with
 | zero=>intro n;rfl
 | succ f ih=>intro n;unfold pathF;rw [H.isM,H.up,ih]
theorem SameBut.scope (H:SameBut d y k) (n:Int):qQ2 y n=qQ2 d n:=by
 unfold qQ2 qDj
 rw [H.len,H.path]
 simp only [H.inS,H.up]
theorem SameBut.allF (H:SameBut d y k):∀ f n,allF y f n=allF d f n:=by
 intro f
 induction f with
 | zero=>intro n;rfl
 | succ f ih=>
   intro n
   have e:Proofs.YtklbmkaomojciaaGreat.allF y f=Proofs.YtklbmkaomojciaaGreat.allF d f:=funext ih
   unfold Proofs.YtklbmkaomojciaaGreat.allF
   rw [H.isM,H.shadow,H.kids,e]
theorem SameBut.allM (H:SameBut d y k):allM y=allM d:=funext (H.allF 100)
theorem SameBut.slotR (H:SameBut d y k):slotR y=slotR d:=by
 funext n
 unfold Proofs.YtklbmkaomojciaaGreat.slotR
 rw [H.isM,H.inS,H.up,H.hasS,H.shadow,H.allM,H.said n (by decide)]
 have e:∀ a b,qXh y a b=qXh d a b:=fun a b=>by
  funext z
  unfold qXh
  rw [H.tag,H.scope,H.said z (by decide)]
 rw [e]
theorem SameBut.givenR (H:SameBut d y k):givenR y=givenR d:=by
 funext n
 unfold Proofs.YtklbmkaomojciaaGreat.givenR qX8
 rw [H.isM,H.tag,H.scope,H.kids,H.slotR]
theorem SameBut.kidsR (H:SameBut d y k):kidsR y=kidsR d:=by
 funext n
 unfold Proofs.YtklbmkaomojciaaGreat.kidsR
 rw [H.isM,H.hasS,H.shadow,H.kids,H.givenR]
theorem SameBut.upR (H:SameBut d y k):upR y=upR d:=by
 funext n
 unfold Proofs.YtklbmkaomojciaaGreat.upR
 rw [H.kidsR,H.len]
theorem SameBut.ups (H:SameBut d y k) (n:Int):ups y n=ups d n:=by
 unfold Proofs.YtklbmkaomojciaaGreat.ups
 rw [H.upR]
theorem SameBut.shownR (H:SameBut d y k):shownR y=shownR d:=by
 unfold Proofs.YtklbmkaomojciaaGreat.shownR
 rw [H.kidsR]
theorem SameBut.findD (H:SameBut d y k):findD y=findD d:=by
 funext n id
 unfold Proofs.YtklbmkaomojciaaGreat.findD
 rw [H.isM,H.allM]
 have e:∀ z,Proofs.YtklbmkaomojciaaGreat.said y z idT=Proofs.YtklbmkaomojciaaGreat.said d z idT:=fun z=>H.said z (by decide)
 simp only [H.scope,e]
theorem SameBut.claims (H:SameBut d y k):qZz y=qZz d:=by
 have e0:∀ l n a,onB y l n a=onB d l n a:=fun l n a=>by
  unfold onB inM
  rw [H.upR]
 have e1:qZe y=qZe d:=by
  funext n l id
  unfold qZe
  rw [H.findD,H.shownR,e0]
 have e2:qZ2 y=qZ2 d:=by
  funext l n
  unfold qZ2
  rw [e1,H.said n (by decide)]
 unfold qZz
 rw [e2,H.shownR]
theorem SameBut.inside (H:SameBut d y k) (C:List Clm) (n:Int):qQr y C n=qQr d C n:=by
 unfold qQr
 rw [H.kidsR]
theorem SameBut.hid (H:SameBut d y k) (n:Int):qZd y n=qZd d n:=by
 have e:∀ f n,hidF y f n=hidF d f n:=by
  intro f
  induction f with
  | zero=>intro n;rfl
  | succ f ih=>
    intro n
    unfold hidF offM sq
    rw [H.isM,H.hasA n (by decide),H.said n (by decide),H.upR,ih]
 exact e 100 n
theorem SameBut.labelled (H:SameBut d y k) {n:Int} (h0:0<=n) (hn:n≠k):qZl y n=qZl d n:=by
 unfold qZl
 rw [H.sqAt h0 hn,H.sqAt h0 hn]
theorem SameBut.base (H:SameBut d y k) {n:Int} (h0:0<=n) (hn:n≠k):qXs y n=qXs d n:=by
 have e1:qW2 y n=qW2 d n:=by
  unfold qW2
  rw [H.labelled h0 hn,H.saidAt h0 hn]
 have e2:qZn y n=qZn d n:=by
  unfold qZn
  rw [H.tag,H.labelled h0 hn,H.sqAt h0 hn,H.sqAt h0 hn,H.sqAt h0 hn,H.hasAt h0 hn,H.hasAt h0 hn]
 unfold qXs
 rw [e1,e2]
theorem SameBut.rn (H:SameBut d y k):∀ f n,k∉qZ4 (Proofs.YtklbmkaomojciaaGreat.upR d) f n->rnF y f n=rnF d f n:=by
 intro f
 induction f with
 | zero=>intro n _;rfl
 | succ f ih=>
   intro n h
   rw [zZ1,zZ1]
   by_cases h0:n<0
   ·rw [if_pos h0,if_pos h0]
   ·rw [if_neg h0,if_neg h0,H.upR]
    unfold qZ4 at h
    rw [if_neg h0] at h
    simp only [List.mem_cons,not_or] at h
    rw [ih _ h.2]
    unfold zVe
    rw [H.isM,H.tag,H.base (by omega) (fun e=>h.1 e.symm)]
theorem SameBut.role (H:SameBut d y k) {n:Int} (h:k∉Proofs.YtklbmkaomojciaaGreat.ups d n):qQd y n=qQd d n:=by
 unfold qQd
 rw [H.rn 100 n h]
theorem qVm {one:Int->St->Txt×St} (h1:∀ k s x,s.asked x=true->(one k s).2.asked x=true):∀ (ks:List Int) (s:St) (x:Int),s.asked x=true->(eachF one ks s).2.asked x=true:=by
 intro ks
 induction ks with
 | nil=>intro s x h;exact h
 | cons k ks ih=>
   intro s x h
   unfold eachF
   split
   ·exact ih _ _ (h1 _ _ _ h)
   ·exact ih _ _ h
theorem zQy {one:Int->Bool->St->Txt×St} (h1:∀ k l s x,s.asked x=true->(one k l s).2.asked x=true) {n:Int} {w:Bool} {s:St} {x:Int} (h:s.asked x=true):(step1 d one n w s).2.asked x=true:=by
 unfold step1
 split
 ·exact h
 ·exact qVm (fun k s x h=>h1 k true s x h) _ _ _ h
theorem zGq {one:Int->St->Txt×St} (h1:∀ k s x,s.asked x=true->(one k s).2.asked x=true) {n:Int} {s:St} {x:Int} (h:s.asked x=true):(qXd d one n s).2.asked x=true:=by
 unfold qXd
 split
 ·exact h
 ·split
  ·split
   ·exact h1 _ _ _ h
   ·exact h
  ·exact h
theorem qWh {C:List Clm} {one:Int->Bool->St->Txt×St} (h1:∀ k l s x,s.asked x=true->(one k l s).2.asked x=true) {n:Int} {w li:Bool} {s:St} {x:Int} (h:s.asked x=true):(qHp d C one n w li s).2.asked x=true:=by
 unfold qHp
 split
 ·exact qVm (fun k s x h=>h1 k li s x h) _ _ _ h
 ·exact h
theorem zQ6 {C:List Clm} {one:Int->Bool->St->Txt×St} (h1:∀ k l s x,s.asked x=true->(one k l s).2.asked x=true) {n:Int} {w li:Bool} {s:St} {x:Int} (h:s.asked x=true):(step2 d C one n w li s).2.asked x=true:=by
 have h2:=zGq (d:=d) (n:=n) (fun k s x h=>h1 k false s x h) h
 unfold step2
 split
 ·exact h
 ·split
  ·exact h
  ·split
   ·exact h2
   ·split
    ·exact qWh h1 h2
    ·exact qWh h1 h2
theorem zQp {C:List Clm} {one:Int->Bool->St->Txt×St} (h1:∀ k l s x,s.asked x=true->(one k l s).2.asked x=true) {n:Int} {w li:Bool} {s:St} {x:Int} (h:(markM d n s).asked x=true):(qYx d C one n w li s).2.asked x=true:=by
 unfold qYx
 split
 ·exact h
 ·split
  ·exact h
  ·split
   ·exact zQy h1 h
   ·exact zQ6 h1 (zQy h1 h)
theorem zFi {n:Int} {s:St} {x:Int} (h:s.asked x=true):(markM d n s).asked x=true:=by
 simp [markM,h]
theorem qYs {C:List Clm}:∀ (f:Nat) (n:Int) (w l:Bool) (s:St) (x:Int),s.asked x=true->(qQt d C f n w l s).2.asked x=true:=by
 intro f
 induction f with
 | zero=>intro n w l s x h;exact h
 | succ f ih=>
   intro n w l s x h
   rw [qDz]
   exact zQp (fun k l s x h=>ih k true l s x h) (zFi h)
theorem qDv {one one':Int->St->Txt×St} (h1:∀ j s x,s.asked x=true->(one j s).2.asked x=true) (he:∀ j s,0<=j->(one j s).2.asked k=false->one' j s=one j s):∀ (ks:List Int) (s:St),(eachF one ks s).2.asked k=false->eachF one' ks s=eachF one ks s:=by
 intro ks
 induction ks with
 | nil=>intro s _;rfl
 | cons j ks ih=>
   intro s h
   unfold eachF at h ⊢
   split
   ·rename_i hc
    rw [if_pos hc] at h
    have h2:(one j s).2.asked k=false:=by
     cases e:(one j s).2.asked k with
     | false=>rfl
     | true=>rw [qVm h1 ks _ _ e] at h;simp at h
    rw [he j s hc.1 h2,ih _ h]
   ·rename_i hc
    rw [if_neg hc] at h
    exact ih _ h
theorem qXo {a b:Bool} (h:a=true->b=true) (hb:b=false):a=false:=by
 cases a with
 | false=>rfl
 | true=>rw [h rfl] at hb;simp at hb
theorem allF_is:∀ (f:Nat) (n x:Int),x∈allF d f n->Proofs.YtklbmkaomojciaaGreat.isM d x false=true:=by
 intro f
 induction f with
 | zero=>intro n x h;simp [Proofs.YtklbmkaomojciaaGreat.allF] at h
 | succ f ih=>
   intro n x h
   unfold Proofs.YtklbmkaomojciaaGreat.allF at h
   split at h
   ·rcases List.mem_cons.1 h with rfl | h
    ·assumption
    ·obtain ⟨z,_,hz⟩:=List.mem_flatMap.1 h
     exact ih z x hz
   ·simp at h
theorem zKf (H:SameBut d y k) {C:List Clm}:∀ (f:Nat) (n:Int) (w l:Bool) (s:St),0<=n->(qQt d C f n w l s).2.asked k=false->qQt y C f n w l s=qQt d C f n w l s:=by
 intro f
 induction f with
 | zero=>intro n w l s _ _;rfl
 | succ f ih=>
   intro n w l s h0 ha
   rw [qDz] at ha ⊢
   rw [qDz]
   have M1:∀ j l s x,s.asked x=true->(qQt d C f j true l s).2.asked x=true:=fun j l s x h=>qYs f j true l s x h
   have hm:(markM d n s).asked k=false:=qXo (fun h=>zQp (C:=C) (w:=w) (li:=l) M1 h) ha
   have hu:k∉ups d n:=by
    intro h
    simp [markM,h] at hm
   have hnk:n≠k:=by
    intro e
    apply hu
    subst e
    unfold ups
    show n∈qZ4 (upR d) (99+1) n
    unfold qZ4
    rw [if_neg (by omega)]
    exact List.mem_cons_self
   have ih':∀ (l:Bool) (j:Int) (s:St),0<=j->(qQt d C f j true l s).2.asked k=false->qQt y C f j true l s=qQt d C f j true l s:=fun l j s hj h=>ih j true l s hj h
   have em:markM y n s=markM d n s:=by
    unfold markM
    rw [H.ups]
   have er:=H.role hu
   have e1:∀ s,(step1 d (fun j l s=>qQt d C f j true l s) n w s).2.asked k=false->step1 y (fun j l s=>qQt y C f j true l s) n w s=step1 d (fun j l s=>qQt d C f j true l s) n w s:=fun s h=>by
    unfold step1 at h ⊢
    split
    ·rfl
    ·rename_i hw
     rw [if_neg hw] at h
     unfold qYk at h ⊢
     rw [H.findD,H.saidAt h0 hnk]
     rw [qDv (fun j s x h=>M1 j true s x h) (fun j s hj h=>ih' true j s hj h) _ _ h]
   have e2:∀ s,(qXd d (fun j=>qQt d C f j true false) n s).2.asked k=false->qXd y (fun j=>qQt y C f j true false) n s=qXd d (fun j=>qQt d C f j true false) n s:=fun s h=>by
    have el:qK1 y n s=qK1 d n s:=by
     funext j
     unfold qK1
     rw [H.tag,H.said j (by decide),H.said n (s:=idT) (by decide),H.scope,H.scope]
    unfold qXd at h ⊢
    rw [H.tag,H.sqAt h0 hnk,H.saidAt h0 hnk,H.findD,H.allM,el]
    split
    ·rfl
    ·rename_i hi
     rw [if_neg hi] at h
     split
     ·rename_i hj
      rw [if_pos hj] at h
      cases hf:(Proofs.YtklbmkaomojciaaGreat.allM d 0).find? (qK1 d n s) with
      | none=>rfl
      | some j=>
        rw [hf] at h
        have:=allF_is 100 0 j (List.mem_of_find?_eq_some hf)
        exact ih' false j s (qQh.1 this).1 h
     ·rfl
   have e3:∀ s,(qHp d C (fun j l s=>qQt d C f j true l s) n w l s).2.asked k=false->qHp y C (fun j l s=>qQt y C f j true l s) n w l s=qHp d C (fun j l s=>qQt d C f j true l s) n w l s:=fun s h=>by
    unfold qHp at h ⊢
    rw [er]
    split
    ·rename_i hw
     rw [if_pos hw] at h
     unfold qX7 at h ⊢
     rw [H.inside]
     rw [qDv (fun j s x h=>M1 j l s x h) (fun j s hj h=>ih' l j s hj h) _ _ h]
    ·rfl
   unfold qYx at ha ⊢
   rw [H.hid,H.tag,em,H.rest n h0 hnk]
   split
   ·rfl
   ·rename_i c1
    rw [if_neg c1] at ha
    split
    ·rfl
    ·rename_i c2
     rw [if_neg c2] at ha
     have hA:(step1 d (fun j l s=>qQt d C f j true l s) n w (hitM n (markM d n s))).2.asked k=false:=by
      split at ha
      ·exact ha
      ·exact qXo (fun h=>zQ6 (n:=n) (w:=w) (li:=l) (C:=C) M1 h) ha
     rw [e1 _ hA]
     split
     ·rfl
     ·rename_i c3
      rw [if_neg c3] at ha
      generalize step1 d (fun j l s=>qQt d C f j true l s) n w (hitM n (markM d n s))=r1 at *
      unfold step2 at ha ⊢
      rw [H.sqAt h0 hnk,H.sqAt h0 hnk,H.sqAt h0 hnk,er]
      split
      ·rfl
      ·rename_i c4
       rw [if_neg c4] at ha
       split
       ·rfl
       ·rename_i c5
        rw [if_neg c5] at ha
        have hB:(qXd d (fun j=>qQt d C f j true false) n r1.2).2.asked k=false:=by
         split at ha
         ·exact ha
         ·split at ha
          ·exact qXo (fun h=>qWh (n:=n) (w:=w) (li:=l) (C:=C) M1 h) ha
          ·exact qXo (fun h=>qWh (n:=n) (w:=w) (li:=l) (C:=C) M1 h) ha
        rw [e2 _ hB]
        split
        ·rfl
        ·rename_i c6
         rw [if_neg c6] at ha
         have hC:(qHp d C (fun j l s=>qQt d C f j true l s) n w l (qXd d (fun j=>qQt d C f j true false) n r1.2).2).2.asked k=false:=by
          split at ha
          ·exact ha
          ·exact ha
         rw [e3 _ hC]
theorem zH1 (H:SameBut d y k) {C:List Clm} {n:Int} (hk:Proofs.YtklbmkaomojciaaGreat.isM d k false=true) (hu:k∉(qKw d C n).uses):qKw y C n=qKw d C n:=by
 unfold qKw at hu ⊢
 rw [H.isM]
 split
 ·rename_i hn
  rw [if_pos hn] at hu
  have h0:0<=n:=(qQh.1 hn).1
  simp only at hu
  have hask:(qW5 d C n (qX0 d C n)).2.asked k=false:=by
   cases e:(qW5 d C n (qX0 d C n)).2.asked k with
   | false=>rfl
   | true=>
     refine absurd ?_ hu
     obtain ⟨q,hq,rfl,-⟩:=qQz.1 hk
     exact List.mem_filter.2 ⟨List.mem_map.2 ⟨q,List.mem_range.2 hq,rfl⟩,e⟩
  have hd:∀ s x,s.asked x=true->(qY7 d C n s).2.asked x=true:=fun s x h=>qVm (fun j s x h=>qYs 100 j true true s x h) _ _ _ h
  have hm0:(qX0 d C n).2.asked k=false:=by
   refine qXo (fun h=>?_) hask
   unfold qW5
   split
   ·exact hd _ _ h
   ·exact h
  have hmk:(markM d n noSt).asked k=false:=by
   refine qXo (fun h=>?_) hm0
   unfold qX0
   split
   ·exact qYs _ _ _ _ _ _ h
   ·exact h
  have hu:k∉ups d n:=by
   intro h
   simp [markM,h] at hmk
  have hnk:n≠k:=by
   intro e
   apply hu
   subst e
   unfold ups
   show n∈qZ4 (upR d) (99+1) n
   unfold qZ4
   rw [if_neg (by omega)]
   exact List.mem_cons_self
  have em:markM y n noSt=markM d n noSt:=by
   unfold markM
   rw [H.ups]
  have e0:qX0 y C n=qX0 d C n:=by
   unfold qX0 at hm0 ⊢
   rw [H.tag,H.role hu,em]
   split
   ·rename_i c
    rw [if_pos c] at hm0
    exact zKf H 100 n false false _ h0 hm0
   ·rfl
  rw [e0]
  have e1:qW5 y C n (qX0 d C n)=qW5 d C n (qX0 d C n):=by
   unfold qW5 at hask ⊢
   rw [H.tag,H.sqAt h0 hnk]
   split
   ·rename_i c
    rw [if_pos c] at hask
    have ed:qY7 y C n (qX0 d C n).2=qY7 d C n (qX0 d C n).2:=by
     unfold qY7 qYk at hask ⊢
     rw [H.findD,H.saidAt h0 hnk]
     rw [qDv (fun j s x h=>qYs 100 j true true s x h) (fun j s hj h=>zKf H 100 j true true s hj h) _ _ hask]
    rw [ed]
   ·rfl
  rw [e1]
  have eu:qV4 y=qV4 d:=by
   funext s
   unfold qV4
   rw [H.len]
  rw [eu]
 ·rfl
end
def qJx (x:Chg):Bool:=x.kind==7||((x.kind==5||x.kind==6)&&qYr.contains x.name)
theorem qYf {d:Dc} {a b:Int} (h:a.toNat=b.toNat):nd d a=nd d b:=by unfold nd;rw [h]
theorem zWz {n v s:Txt} (hs:s≠n):∀ l:List Att,qZ9 (insA n v l) s=qZ9 l s:=by
 have hn:((⟨n,v⟩:Att).name==s)=false:=by simpa using fun e:n=s=>hs e.symm
 intro l
 induction l with
 | nil=>
   unfold insA qZ9
   rw [List.find?_cons,hn]
 | cons a l ih=>
   unfold insA
   split
   ·rename_i h
    have ha:(a.name==s)=false:=by simpa using fun e:a.name=s=>hs (e.symm.trans h)
    unfold qZ9
    rw [List.find?_cons,List.find?_cons,hn,ha]
   ·split
    ·unfold qZ9 at ih ⊢
     rw [List.find?_cons,List.find?_cons]
     cases h:(a.name==s) with
     | true=>rfl
     | false=>exact ih
    ·unfold qZ9
     rw [List.find?_cons,hn]
theorem zX3 {n s:Txt} (hs:s≠n):∀ l:List Att,qZ9 (l.filter (fun a=>a.name != n)) s=qZ9 l s:=by
 intro l
 induction l with
 | nil=>rfl
 | cons a l ih=>
   unfold qZ9 at ih ⊢
   rw [List.filter_cons]
   split
   ·rw [List.find?_cons,List.find?_cons]
    cases h:(a.name==s) with
    | true=>rfl
    | false=>exact ih
   ·rename_i h
    have h:a.name=n:=by simpa using h
    have ha:(a.name==s)=false:=by simpa using fun e:a.name=s=>hs (e.symm.trans h)
    rw [List.find?_cons,ha]
    exact ih
theorem zX9 {d y:Dc} {k:Int} {X:Nd} (g:Good d) (gy:Good y) (hk:isM d k false=true) (hy:∀ n,nd y n=nd (qZm d k.toNat X) n)
 (hl:X.live=(nd d k).live) (ht:X.tag=(nd d k).tag) (hu:X.up=(nd d k).up) (hkd:X.kids=(nd d k).kids) (hh:X.hasS=(nd d k).hasS) (hsh:X.shadow=(nd d k).shadow) (hi:X.inS=(nd d k).inS)
 (ha:∀ s,s∉qYr->qZ9 X.attrs s=qZ9 (nd d k).attrs s):SameBut d y k:=by
 have hkl:=qJo hk
 have hw:∀ n,nd y n=if n.toNat=k.toNat then X else nd d n:=fun n=>by rw [hy,qW9 (by omega)]
 have live:∀ n,(nd y n).live=(nd d n).live:=fun n=>by
  rw [hw];split
  ·rename_i h;rw [hl,qYf h]
  ·rfl
 have tag:∀ n,(nd y n).tag=(nd d n).tag:=fun n=>by
  rw [hw];split
  ·rename_i h;rw [ht,qYf h]
  ·rfl
 have len:y.length=d.length:=by
  have key:∀ {a b:Dc},Good a->(∃ r,G0 qQj 16 r b)->(∀ n,(nd a n).live=(nd b n).live)->a.length<=b.length:=by
   intro a b ga hb H
   obtain ⟨r,h0⟩:=hb
   rcases ga.last with h1 | h1
   ·have:=h0.pos;omega
   ·have h2:=qQh.1 h1
    rw [H] at h2
    have:=(qJo (qQh.2 h2)).1
    omega
  exact Nat.le_antisymm (key gy g.tree live) (key g gy.tree (fun n=>(live n).symm))
 refine ⟨len,live,tag,?_,?_,?_,?_,?_,?_,?_⟩
 ·intro n;rw [hw];split
  ·rename_i h;rw [hu,qYf h]
  ·rfl
 ·intro n;rw [hw];split
  ·rename_i h;rw [hkd,qYf h]
  ·rfl
 ·intro n;rw [hw];split
  ·rename_i h;rw [hh,qYf h]
  ·rfl
 ·intro n;rw [hw];split
  ·rename_i h;rw [hsh,qYf h]
  ·rfl
 ·intro n;rw [hw];split
  ·rename_i h;rw [hi,qYf h]
  ·rfl
 ·intro n s hs
  have e:isM y n true=isM d n true:=by
   unfold isM
   rw [len,live,tag]
  unfold qKk
  rw [e]
  split
  ·rw [hw];split
   ·rename_i h;rw [ha s hs,qYf h]
   ·rfl
  ·rfl
 ·intro n h0 hn
  rw [hw,if_neg (by omega)]
theorem zW1 {d:Dc} {x:Chg} (g:Good d) (he:(qQy d x).1=0) (hp:qJx x=true):SameBut d (qQy d x).2.2 x.node/\isM d x.node false=true/\(qQy d x).2.1=x.node:=by
 have gy:=qHf g he
 revert he gy
 unfold qQy
 split
 ·intro he;simp at he
 ·rename_i c1
  split
  ·intro he;simp at he
  ·rename_i c2
   have hk:isM d x.node false=true:=by simpa using c2
   split
   ·rename_i c3
    intro _ gy
    dsimp only at gy ⊢
    obtain ⟨⟨r,g1⟩,_⟩:=qBb g hk c3
    have ht:=g1.trim.1
    have hin:qYr.contains x.name=true->∀ s,s∉qYr->s≠x.name:=fun h s hs e=>hs (by rw [e];simpa using h)
    generalize hD:qYo (qQ5 d x).2.2=D at *
    unfold qQ5 at c3 ht ⊢
    unfold qJx at hp
    simp only [Bool.or_eq_true,Bool.and_eq_true,beq_iff_eq] at hp
    rcases hp with h7 | ⟨h5 | h6,hn⟩
    ·simp only [h7,show ¬ ((7:Int)=3) by decide,show ¬ ((7:Int)=4) by decide,if_false,if_true] at c3 ht ⊢
     unfold sayM at c3 ht ⊢
     split at c3
     ·simp at c3
     ·rename_i c4
      rw [if_neg c4] at ht ⊢
      exact ⟨zX9 g gy hk ht rfl rfl rfl rfl rfl rfl rfl (fun _ _=>rfl),hk,rfl⟩
    ·simp only [h5,show ¬ ((5:Int)=3) by decide,show ¬ ((5:Int)=4) by decide,show ¬ ((5:Int)=7) by decide,if_false,if_true] at c3 ht ⊢
     split at c3
     ·simp at c3
     ·rename_i c4
      rw [if_neg c4] at ht ⊢
      unfold qKx at c3 ht ⊢
      split at c3
      ·simp at c3
      ·rename_i c5
       rw [if_neg c5] at ht ⊢
       split at c3
       ·simp at c3
       ·rename_i c6
        rw [if_neg c6] at ht ⊢
        split at c3
        ·simp at c3
        ·rename_i c7
         rw [if_neg c7] at ht ⊢
         obtain ⟨r0,g0⟩:=g.tree
         refine ⟨zX9 g gy hk ht rfl rfl rfl rfl rfl rfl rfl (fun s hs=>?_),hk,rfl⟩
         rw [zZj (g0.ok x.node).rising]
         exact zWz (hin hn s hs) _
    ·simp only [h6,show ¬ ((6:Int)=3) by decide,show ¬ ((6:Int)=4) by decide,show ¬ ((6:Int)=7) by decide,show ¬ ((6:Int)=5) by decide,if_false,if_true] at c3 ht ⊢
     split at c3
     ·simp at c3
     ·rename_i c4
      rw [if_neg c4] at ht ⊢
      unfold qGi at c3 ht ⊢
      split at c3
      ·simp at c3
      ·rename_i c5
       rw [if_neg c5] at ht ⊢
       exact ⟨zX9 g gy hk ht rfl rfl rfl rfl rfl rfl rfl (fun s hs=>zX3 (hin hn s hs) _),hk,rfl⟩
   ·intro he;exact absurd he (by assumption)
end Go.Proofs.YtklbmkaomojciaaGreat
set_option maxRecDepth 100000
set_option maxHeartbeats 1000000
namespace Go.Proofs.YtklbmkaomojciaaGreat
open Go.RowKit
structure Me where
 node:Int
 name:Txt
 about:Txt
 uses:List Int
def meOf (n:Int) (m:Mm):Me:=⟨n,m.name,m.about,m.uses⟩
def qHr (m:Me) (v:Value):List Value:=[.int .i64 m.node,.string ⟨m.name.toArray⟩,.string ⟨m.about.toArray⟩,v]
def rdMe (B:Nat->Prop):World->List Value->Me->Prop:=fun w cs m=>∃ v,cs=qHr m v/\qQa 1 qQf B w v m.uses
abbrev qJ2 (B:Nat->Prop) (w:World) (v:Value) (l:List Me):Prop:=qQa 4 (rdMe B) B w v l
theorem rdMe.agree {B:Nat->Prop} {w w':World} (ha:qZu B w w') {cs:List Value} {m:Me} (h:rdMe B w cs m):rdMe B w' cs m:=by
 obtain ⟨v,h1,h2⟩:=h
 exact ⟨v,h1,h2.agree ha (fun _ _ _ h=>h)⟩
theorem rdMe.mono {B C:Nat->Prop} {w:World} (hc:∀ b,B b->C b) {cs:List Value} {m:Me} (h:rdMe B w cs m):rdMe C w cs m:=by
 obtain ⟨v,h1,h2⟩:=h
 exact ⟨v,h1,h2.mono hc (fun _ _ _ h=>h)⟩
theorem qJ2.agree {B:Nat->Prop} {w w':World} {v:Value} {l:List Me} (h:qJ2 B w v l) (ha:qZu B w w'):qJ2 B w' v l:=qQa.agree h ha (fun _ _ _ hr=>hr.agree ha)
theorem qJ2.mono {B C:Nat->Prop} {w:World} {v:Value} {l:List Me} (h:qJ2 B w v l) (hc:∀ b,B b->C b):qJ2 C w v l:=qQa.mono h hc (fun _ _ _ hr=>hr.mono hc)
theorem qJ2.later {n m:Nat} {w w':World} {v:Value} {l:List Me} (h:qJ2 (·<n) w v l) (hb:Below m w w') (hn:n<=m):qJ2 (·<n) w' v l:=
 h.agree (qZu.mono (qZu.below hb) (fun _ hb=>Zc hb hn))
theorem qJ2.up {n:Nat} {w w':World} {v:Value} {l:List Me} (h:qJ2 (·<n) w v l) (hb:Bel w w') (hn:n<=w.heap.size):qJ2 (·<w'.heap.size) w' v l:=
 (h.later hb hn).mono (fun _ h=>Zc (Zc h hn) hb.size)
structure MeC (B:Nat->Prop) (w:World) (b o:Nat) (m:Me) (uv:Value):Prop where
 node:w.cell? ⟨b,o,none⟩=some (.int .i64 m.node)
 name:w.cell? ⟨b,o+1,none⟩=some (.string ⟨m.name.toArray⟩)
 about:w.cell? ⟨b,o+2,none⟩=some (.string ⟨m.about.toArray⟩)
 uses:w.cell? ⟨b,o+3,none⟩=some uv
 usesAt:qQa 1 qQf B w uv m.uses
theorem qJ2.item {B:Nat->Prop} {w:World} {v:Value} {l:List Me} (h:qJ2 B w v l) (i:Nat) (hi:i<l.length) :
 ∃ b off cap uv,v=.slice (some ⟨b,off,none⟩) l.length cap/\l.length<=cap/\cap<=9223372036854775807/\B b/\MeC B w b (off+i*4) l[i] uv:=by
 obtain ⟨a,cap0,e0,e1,e2⟩:=Rf h
 obtain ⟨b,off,cap,cs,h1,h2,h3,h4,uv,rfl,h6⟩:=qQa.elem h i hi
 rw [h1] at e0
 simp at e0
 obtain ⟨_,rfl⟩:=e0
 exact ⟨b,off,cap,uv,h1,e1,e2,h2,by simpa using h4 0 _ rfl,h4 1 _ rfl,h4 2 _ rfl,h4 3 _ rfl,h6⟩
def idxMe (x:Int):List Me->Nat->Int
 | [],_=>-1
 | m::l,i=>if m.node==x then (i:Int) else idxMe x l (i+1)
theorem zWc {x:Int} {l:List Me} {j:Nat} (hj:j<l.length):idxMe x (l.drop j) j=if l[j].node==x then (j:Int) else idxMe x (l.drop (j+1)) (j+1):=by
 rw [List.drop_eq_getElem_cons hj]
 rfl
theorem zZw {g1:Nat} {w:World} {x:Int} (h1:w.cell? ⟨g1,0,none⟩=some (.int .i64 x)) (n:Int) (a b:Txt) (ua:Option Addr) (un uc:Nat) :
 Calls Tryz.prog 87 #[.agg #[.int .i64 n,.string ⟨a.toArray⟩,.string ⟨b.toArray⟩,.slice ua un uc],.pointer (some ⟨g1,0,none⟩)] w (Rb (.bool (n==x)) w):=by
 have hl:=World.block_lt_of_cell? w _ h1
 obtain ⟨w1,hw1⟩:∃ w1,w1=w.alloc (.cells #[.int .i64 n,.string ⟨a.toArray⟩,.string ⟨b.toArray⟩,.slice ua un uc] 31):=⟨_,rfl⟩
 have hB:Bel w w1:=by rw [hw1];exact (Br w).alloc _
 have hK:Blk w1 w.heap.size [.int .i64 n,.string ⟨a.toArray⟩,.string ⟨b.toArray⟩,.slice ua un uc] 31:=by rw [hw1];exact Blk.new' w _ rfl _ _
 have c0:=hK.cell 0
 have c1:=(hB.cells g1 0 hl).trans h1
 simp only [Zd] at c0
 have HB:=lH hB
 clear hB hK h1 hl
 go_enter Tryz.func87,Tryz.ntmps87
 go_upto_region 1 with fail
 rw [<- hw1]
 clear hw1
 go_wp2
 go_ret
 exact ⟨rfl,HB.o⟩
theorem qGo {m g1:Nat} {v:Value} {l:List Me} {w:World} {x:Int} (hv:qJ2 (·<m) w v l) (hm:m<=w.heap.size) (h1:w.cell? ⟨g1,0,none⟩=some (.int .i64 x)) :
 Calls Tryz.prog 86 #[v,.func (.func 87) #[] #[.pointer (some ⟨g1,0,none⟩)]] w (Rb (.int .i64 (idxMe x l 0)) w):=by
 have hl1:=World.block_lt_of_cell? w _ h1
 obtain ⟨va,vc,rfl,_,_⟩:=Rf hv
 have HV:=lH hv
 have H1:=lH (fun (W:World) (hW:Bel w W)=>(hW.cells g1 0 hl1).trans h1)
 clear hv h1 hl1
 go_enter Tryz.func86,Tryz.ntmps86
 go_wp2
 go_loopw [8] (fun z wr=>∃ j:Nat,j<=l.length/\z=.int .i64 j/\idxMe x (l.drop j) j=idxMe x l 0/\Bel w wr) (fun z _=>l.length - (intOf z).toNat)
 case atStart=>exact ⟨0,by omega,rfl,rfl,Br _⟩
 case round=>
  obtain ⟨j,hj,rfl,hF,hB⟩:=hrel
  have HF:=lH hF
  have HB:=lH hB
  by_cases hlt:j<l.length
  ·obtain ⟨b,off,cap,uv,e1,_,_,hb,hI⟩:=(HV.o.later hB hm).item j hlt
   simp at e1
   obtain ⟨rfl,rfl⟩:=e1
   have c0:=hI.node
   have c1:=hI.name
   have c2:=hI.about
   have c3:=hI.uses
   obtain ⟨ua,uc,rfl,_,_⟩:=Rf hI.usesAt
   have HI:=lH (zWc (x:=x) hlt)
   have cc:=H1.o _ hB
   clear hF hB hI
   generalize l[j]=M at *
   obtain ⟨mn,mm,mb,mu⟩:=M
   simp only at c0 c1 c2 c3 HI
   have cP:=lH (zZw cc mn mm mb ua mu.length uc)
   cases hq:mn==x with
   | true=>
     rw [hq] at cP
     have HR:Hi (idxMe x l 0=(j:Int)):=lH (by rw [<- HF.o,HI.o,hq];rfl)
     clear hq cc
     go_wp2_with (go_at_call 87;(with_reducible refine qQe cP.o HB fun w3 HB3=>?_))
     go_ret
     exact ⟨qQs HR.o.symm,HB3.o⟩
   | false=>
     rw [hq] at cP
     have HR:Hi (idxMe x (l.drop (j+1)) (j+1)=idxMe x l 0):=lH (by rw [<- HF.o,HI.o,hq];rfl)
     clear hq cc
     go_wp2_with (go_at_call 87;(with_reducible refine qQe cP.o HB fun w3 HB3=>?_))
     go_roundw
     case rel=>exact ⟨j+1,by omega,by go_num,HR.o,HB3.o⟩
     case measure=>simp [intOf];omega
  ·have HR:Hi (idxMe x l 0 = -1):=lH (by rw [<- HF.o,List.drop_of_length_le (by omega)];rfl)
   clear hF hB
   go_wp2
   go_ret
   exact ⟨qQs HR.o.symm,HB.o⟩
def freshM (m:Me) (dirty:List Int):Bool:=!m.uses.any dirty.contains
theorem zJn {m:Nat} {nv:Value} {NB:List Int} {g:Nat} {w:World} (hn:qKf m w nv NB) (hg:w.cell? ⟨g,0,none⟩=some nv) (x:Int) :
 Calls Tryz.prog 129 #[.int .i64 x,.pointer (some ⟨g,0,none⟩)] w (Rb (.bool (NB.contains x)) w):=by
 have cC:=lH (qJi m nv NB x w hn)
 obtain ⟨va,vc,rfl,_,_⟩:=Rf hn
 clear hn
 go_enter Tryz.func129,Tryz.ntmps129
 go_wp2_with (go_at_call 91;(with_reducible refine cC.o.mono ?_);rintro e w1 ⟨rfl,rfl⟩)
 go_ret
 exact ⟨qJj (by simp),Br _⟩
theorem zB4 (args:Array Value) (w:World):(callFunc 129 args).run Tryz.prog w=.ok (.enter 129 args) w:=by kernel_rfl
theorem qYu {m b o:Nat} {dv uv:Value} {DL:List Int} {M:Me} {B:Nat->Prop} {w:World} (hM:MeC B w b o M uv) (hBl:∀ x,B x->x<w.heap.size) (hd:qKf m w dv DL) (hm:m<=w.heap.size) :
 Calls Tryz.prog 88 #[.pointer (some ⟨b,o,none⟩),dv] w (Rb (.bool (freshM M DL)) w):=by
 have hbl:=World.block_lt_of_cell? w _ hM.node
 obtain ⟨ua,uc,rfl,_,_⟩:=Rf hM.usesAt
 obtain ⟨da,dc,rfl,_,_⟩:=Rf hd
 obtain ⟨w1,hw1⟩:∃ w1,w1=w.alloc (.cells #[.slice da DL.length dc] 29):=⟨_,rfl⟩
 have hB:Bel w w1:=by rw [hw1];exact (Br w).alloc _
 have hK:Blk w1 w.heap.size [.slice da DL.length dc] 29:=by rw [hw1];exact Blk.new' w _ rfl _ _
 have c3:=(hB.cells b _ hbl).trans hM.uses
 have hU:qKf w1.heap.size w1 (.slice ua M.uses.length uc) M.uses:=(qQa.agree hM.usesAt (fun x hx=>hB.block x (hBl x hx)) (fun _ _ _ h=>h)).mono (fun x hx=>Zc (hBl x hx) hB.size) (fun _ _ _ h=>h)
 have hD:=qQa.later hd qQc hB hm
 have cF:Hi (Calls Tryz.prog 128 #[.slice ua M.uses.length uc,.func (.func 129) #[] #[.pointer (some ⟨w.heap.size,0,none⟩)]] w1 (Rb (.bool (M.uses.any DL.contains)) w1)):=lH (qKp 129 #[.pointer (some ⟨w.heap.size,0,none⟩)] DL.contains zB4 w1.heap.size _ M.uses w1 hU (Zb _) (fun W hW x=>zJn (qQa.later hD qQc hW (Za hm hB.size)) ((hK.bel hW).cell 0) x))
 have HB:=lH hB
 unfold freshM
 generalize M.uses.any DL.contains=r at *
 clear hM hB hK hU hD hd
 go_enter Tryz.func88,Tryz.ntmps88
 go_upto_region 1 with fail
 rw [<- hw1]
 clear hw1
 go_wp2_with (go_at_call 128;(with_reducible refine qQe cF.o HB fun w2 HB2=>?_))
 go_ret
 exact ⟨rfl,HB2.o⟩
end Go.Proofs.YtklbmkaomojciaaGreat

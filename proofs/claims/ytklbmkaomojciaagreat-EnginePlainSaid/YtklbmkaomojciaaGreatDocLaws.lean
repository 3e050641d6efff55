/- Laws of chapters 3, 5 and 7: plain ones, and walks of law packages. -/
import Derived.Test.YtklbmkaomojciaaGreatRefApply
import Derived.Test.YtklbmkaomojciaaGreatRefRole
namespace Go.Proofs.YtklbmkaomojciaaGreat
open Go.RowKit
theorem qQ6.on {w w':World} {v:Value} {l:List Int} (h:qQ6 w.heap.size w v l) (hb:Bel w w'):qQ6 w'.heap.size w' v l:=(qQb.later h qQd hb (Zb _)).mono (fun _ h=>Zc h hb.size) (fun _ _ _ h=>h)
end Go.Proofs.YtklbmkaomojciaaGreat
namespace Go.Proofs.YtklbmkaomojciaaGreat
section
variable {d:Dc}
end
end Go.Proofs.YtklbmkaomojciaaGreat
namespace Go.Proofs.YtklbmkaomojciaaGreat
open Go.RowKit
end Go.Proofs.YtklbmkaomojciaaGreat
namespace Go.Proofs.YtklbmkaomojciaaGreat
structure Mm where
 name:Txt:=[]
 about:Txt:=[]
 uses:List Int:=[]
def alvlT:Txt:=[97,114,105,97,45,108,101,118,101,108]
def achkT:Txt:=[97,114,105,97,45,99,104,101,99,107,101,100]
def adisT:Txt:=[97,114,105,97,45,100,105,115,97,98,108,101,100]
def chkT:Txt:=[99,104,101,99,107,101,100]
def qJl:List Txt:=[altT,labelT,qH8,qFl,alvlT,achkT,adisT,chkT]
structure SameBut (d y:Dc) (k:Int):Prop where
 len:y.length=d.length
 live:∀ n,(nd y n).live=(nd d n).live
 tag:∀ n,(nd y n).tag=(nd d n).tag
 up:∀ n,(nd y n).up=(nd d n).up
 kids:∀ n,(nd y n).kids=(nd d n).kids
 hasS:∀ n,(nd y n).hasS=(nd d n).hasS
 shadow:∀ n,(nd y n).shadow=(nd d n).shadow
 inS:∀ n,(nd y n).inS=(nd d n).inS
 attr:∀ n s,s∉qJl->qKr y n s=qKr d n s
 rest:∀ n,0<=n->n≠k->nd y n=nd d n
section
variable {d y:Dc} {k:Int}
theorem SameBut.isM (H:SameBut d y k) (n:Int) (el:Bool):isM y n el=isM d n el:=by
 unfold Proofs.YtklbmkaomojciaaGreat.isM
 rw [H.len,H.live,H.tag]
theorem SameBut.said (H:SameBut d y k) (n:Int) {s:Txt} (hs:s∉qJl):said y n s=said d n s:=by
 unfold Proofs.YtklbmkaomojciaaGreat.said
 rw [H.attr n s hs]
theorem SameBut.hasA (H:SameBut d y k) (n:Int) {s:Txt} (hs:s∉qJl):hasA y n s=hasA d n s:=by
 unfold Proofs.YtklbmkaomojciaaGreat.hasA
 rw [H.attr n s hs]
theorem SameBut.attrAt (H:SameBut d y k) {n:Int} (h0:0<=n) (hn:n≠k) (s:Txt):qKr y n s=qKr d n s:=by
 unfold qKr
 rw [H.isM,H.rest n h0 hn]
theorem SameBut.saidAt (H:SameBut d y k) {n:Int} (h0:0<=n) (hn:n≠k) (s:Txt):Proofs.YtklbmkaomojciaaGreat.said y n s=Proofs.YtklbmkaomojciaaGreat.said d n s:=by
 unfold Proofs.YtklbmkaomojciaaGreat.said
 rw [H.attrAt h0 hn]
theorem SameBut.sqAt (H:SameBut d y k) {n:Int} (h0:0<=n) (hn:n≠k) (s:Txt):sq y n s=sq d n s:=by
 unfold sq
 rw [H.saidAt h0 hn]
theorem SameBut.hasAt (H:SameBut d y k) {n:Int} (h0:0<=n) (hn:n≠k) (s:Txt):Proofs.YtklbmkaomojciaaGreat.hasA y n s=Proofs.YtklbmkaomojciaaGreat.hasA d n s:=by
 unfold Proofs.YtklbmkaomojciaaGreat.hasA
 rw [H.attrAt h0 hn]
theorem SameBut.path (H:SameBut d y k):∀ f n,pathF y f n=pathF d f n:=by
 intro f
 induction f with
 | zero=>intro n;rfl
 | succ f ih=>intro n;unfold pathF;rw [H.isM,H.up,ih]
theorem SameBut.scope (H:SameBut d y k) (n:Int):qXi y n=qXi d n:=by
 unfold qXi qJ3
 rw [H.len,H.path]
 simp only [H.inS,H.up]
theorem SameBut.allF (H:SameBut d y k):∀ f n,allF y f n=allF d f n:=by
 intro f
 induction f with
 | zero=>intro n;rfl
 | succ f ih=>
   intro n
   have e:Proofs.YtklbmkaomojciaaGreat.allF y f=Proofs.YtklbmkaomojciaaGreat.allF d f:=funext ih
   unfold Proofs.YtklbmkaomojciaaGreat.allF
   rw [H.isM,H.shadow,H.kids,e]
theorem SameBut.allM (H:SameBut d y k):allM y=allM d:=funext (H.allF 100)
theorem SameBut.slotR (H:SameBut d y k):slotR y=slotR d:=by
 funext n
 unfold Proofs.YtklbmkaomojciaaGreat.slotR
 rw [H.isM,H.inS,H.up,H.hasS,H.shadow,H.allM,H.said n (by decide)]
 have e:∀ a b,qVf y a b=qVf d a b:=fun a b=>by
  funext z
  unfold qVf
  rw [H.tag,H.scope,H.said z (by decide)]
 rw [e]
theorem SameBut.givenR (H:SameBut d y k):givenR y=givenR d:=by
 funext n
 unfold Proofs.YtklbmkaomojciaaGreat.givenR qYj
 rw [H.isM,H.tag,H.scope,H.kids,H.slotR]
theorem SameBut.kidsR (H:SameBut d y k):kidsR y=kidsR d:=by
 funext n
 unfold Proofs.YtklbmkaomojciaaGreat.kidsR
 rw [H.isM,H.hasS,H.shadow,H.kids,H.givenR]
theorem SameBut.upR (H:SameBut d y k):upR y=upR d:=by
 funext n
 unfold Proofs.YtklbmkaomojciaaGreat.upR
 rw [H.kidsR,H.len]
theorem SameBut.ups (H:SameBut d y k) (n:Int):ups y n=ups d n:=by
 unfold Proofs.YtklbmkaomojciaaGreat.ups
 rw [H.upR]
theorem SameBut.shownR (H:SameBut d y k):shownR y=shownR d:=by
 unfold Proofs.YtklbmkaomojciaaGreat.shownR
 rw [H.kidsR]
theorem SameBut.findD (H:SameBut d y k):findD y=findD d:=by
 funext n id
 unfold Proofs.YtklbmkaomojciaaGreat.findD
 rw [H.isM,H.allM]
 have e:∀ z,Proofs.YtklbmkaomojciaaGreat.said y z idT=Proofs.YtklbmkaomojciaaGreat.said d z idT:=fun z=>H.said z (by decide)
 simp only [H.scope,e]
theorem SameBut.hid (H:SameBut d y k) (n:Int):zQ7 y n=zQ7 d n:=by
 have e:∀ f n,hidF y f n=hidF d f n:=by
  intro f
  induction f with
  | zero=>intro n;rfl
  | succ f ih=>
    intro n
    unfold hidF offM sq
    rw [H.isM,H.hasA n (by decide),H.said n (by decide),H.upR,ih]
 exact e 100 n
theorem SameBut.labelled (H:SameBut d y k) {n:Int} (h0:0<=n) (hn:n≠k):qJp y n=qJp d n:=by
 unfold qJp
 rw [H.sqAt h0 hn,H.sqAt h0 hn]
theorem SameBut.base (H:SameBut d y k) {n:Int} (h0:0<=n) (hn:n≠k):qGd y n=qGd d n:=by
 have e1:qHt y n=qHt d n:=by
  unfold qHt
  rw [H.labelled h0 hn,H.saidAt h0 hn]
 have e2:qBk y n=qBk d n:=by
  unfold qBk
  rw [H.tag,H.labelled h0 hn,H.sqAt h0 hn,H.sqAt h0 hn,H.sqAt h0 hn,H.hasAt h0 hn,H.hasAt h0 hn]
 unfold qGd
 rw [e1,e2]
theorem SameBut.rn (H:SameBut d y k):∀ f n,k∉qX2 (Proofs.YtklbmkaomojciaaGreat.upR d) f n->rnF y f n=rnF d f n:=by
 intro f
 induction f with
 | zero=>intro n _;rfl
 | succ f ih=>
   intro n h
   rw [rnF_s,rnF_s]
   by_cases h0:n<0
   ·rw [if_pos h0,if_pos h0]
   ·rw [if_neg h0,if_neg h0,H.upR]
    unfold qX2 at h
    rw [if_neg h0] at h
    simp only [List.mem_cons,not_or] at h
    rw [ih _ h.2]
    unfold zQ5
    rw [H.isM,H.tag,H.base (by omega) (fun e=>h.1 e.symm)]
theorem SameBut.role (H:SameBut d y k) {n:Int} (h:k∉Proofs.YtklbmkaomojciaaGreat.ups d n):roleM y n=roleM d n:=by
 unfold roleM
 rw [H.rn 100 n h]
end
end Go.Proofs.YtklbmkaomojciaaGreat

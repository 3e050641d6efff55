/- How a law's statement is closed: what is read zWv as it did, and true is answered. -/
import Derived.WalkKit
import Derived.ProofKit
import Derived.OpenShut
import Derived.JoinedCond
namespace Go.Proofs.YtkhkbifdakikcaaGreatDoor
open Go.ChangeShapes Go.WideShapes Go.ChangeAt Go.RowKit
variable {P:Program} {H:Type} {W W':World}
theorem zJ5 {enc:TypeId×Value->H} (l:laidOutB P=true) (i:Below W.heap.size W W') :
 ∀ (T:List TypeId) (vs:List Value) (d:List (DataW H)) (p:List MemPlace),(∀ t∈T,P.readableRec t=true/\t<P.types.size) ->
  DataW.TrodAll enc P W 0 (fun _=>true) true T vs d p->(∀ x∈p,x.block<W.heap.size) ->
  DataW.TrodAll enc P W' 0 (fun b=>decide (b<W.heap.size)) true T vs d p:=by
 intro T
 induction T with
 | nil=>
   intro vs d p _ h _;obtain ⟨rfl,rfl,rfl⟩:=trodAll_nil h;exact trodAll_mk0
 | cons t T I=>
   intro vs d p a h e;obtain ⟨V,v,k,D,m,q,rfl,rfl,rfl,g,r⟩:=trodAll_cons h;refine trodAll_cons_mk ?_ (I v D q (fun j f=>a j (List.mem_cons_of_mem _ f)) r (fun x c=>e x (List.mem_append_right _ c)));exact Below.trod l (a t (by simp)).1 (a t (by simp)).2 g i (fun x c=>e x (List.mem_append_left _ c))
theorem post_law {enc:TypeId×Value->H} (l:laidOutB P=true) {f:Func} {s:ChangeSpec} {B:TypeId} (k:f.resultTypes = #[B]) (j:P.underlying B=some .bool)
 (n:∀ t∈f.params.toList,P.readableRec t=true/\t<P.types.size) {args:Array Value} {d g:List (DataW H)} {before:List MemPlace} 
 (e:DataW.Whole enc P f.params.toList s.vars false W args.toList d g before) (hv:s.vars=[])
 (a:(s.fn H (d++g)).results=[.lit (.bool true)]/\(s.fn H (d++g)).args=d/\(s.fn H (d++g)).vars=[]) (c:Below W.heap.size W W') :
 s.post enc P f false true false false W args (.bool true) W':=by
 have i:=e;obtain ⟨p,q,A,V,rfl,_,_⟩:=e;have m:∀ x∈p++q,x.block<W.heap.size:=fun x b=>by simpa using i.lt x b
 rw [hv] at V;obtain ⟨rfl,rfl⟩:=trodVars_none V;refine ⟨d,[],p++[],[],p,[],i,?_,?_,?_,c.frame _,fun h=>by cases h⟩
 ·rw [a.1,k];exact trodAll_cons_mk (shut_bool j true) trodAll_mk0
 ·rw [a.2.1];exact zJ5 l c _ _ _ _ n A (fun x b=>m x (by simp [b]))
 ·rw [a.2.2,hv];rfl

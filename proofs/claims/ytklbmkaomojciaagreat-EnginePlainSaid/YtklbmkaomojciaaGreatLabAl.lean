/- slices.Sort at numbers, of a row of the call's own; rising lists. -/
import Derived.Test.YtklbmkaomojciaaGreatLabF
import Derived.Test.YtklbmkaomojciaaGreatWords
namespace Go.Proofs.YtklbmkaomojciaaGreat
open Go.RowKit
end Go.Proofs.YtklbmkaomojciaaGreat
namespace Go.Proofs.YtklbmkaomojciaaGreat
open Go.Lab
noncomputable def sums:qZc:=addSum 80 (textS lowPc) (addSum 63 sortS noSum)
theorem sums_ok {ρ:Nat->List UInt8} (hρ:Words ρ):Sums ρ Tryz.prog sums:=
 qHn ⟨_,_,Tryz.func80,rfl⟩ (textS_ok (G:=qY6) (fun s w hs=>(qGe s w (by omega)).mono fun _ _ h=>h) (fun s t h=>qBn hρ s t h) hρ)
  (qHn ⟨_,_,Tryz.func63,rfl⟩ (sortS_ok fun blk off cap zs w h1 h2 h3=>Tryz.slices_Sort_int blk off cap zs w h1 h2 h3) noSum_ok)
theorem qGg:tells (run Tryz.prog sums 1000 60 45 [] .nil 0)=true:=by kernel_rfl
theorem no_count : ∀ (f : Nat) (fn : Func), Tryz.prog.funcs[f]? = some fn -> (fn.name == "runtime.NumGoroutine") = false := by
 have h : (Tryz.prog.funcs.toList.all fun fn => !(fn.name == "runtime.NumGoroutine")) = true := by kernel_rfl
 intro f fn hf
 have:=List.all_eq_true.1 h fn (Array.mem_toList_iff.2 (Array.mem_of_getElem? hf))
 simpa using this
theorem qVy (w:World):Calls Tryz.prog 45 #[] w (Rb (.bool true) w):=
 qHg (us:=#[]) (args:=[]) (by kernel_rfl) no_count words0 (sums_ok words0) (by trivial) qGg w
end Go.Proofs.YtklbmkaomojciaaGreat

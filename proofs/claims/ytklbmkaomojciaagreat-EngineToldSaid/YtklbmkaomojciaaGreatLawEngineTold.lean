/- EngineTold: for every input the law returns true, and what was read reads as it did. -/
import Derived.Test.YtklbmkaomojciaaGreatFrame
import Derived.Test.YtklbmkaomojciaaGreatPFacts
import Derived.Test.YtklbmkaomojciaaGreatPFactsA
import Derived.Test.YtklbmkaomojciaaGreatPFactsB
import Derived.Test.YtklbmkaomojciaaGreatPFactsC
import Derived.Test.YtklbmkaomojciaaGreatEngTold
set_option maxRecDepth 100000
namespace Go.Proofs.YtklbmkaomojciaaGreat.engineTold
open Go.ChangeShapes Go.WideShapes Go.ChangeAt Go.RowKit
open Go.ChangeMaps (open_string)
theorem and_mk {a b:Bool} (h:a=true) (k:b=true):(a&&b)=true:=by rw [h,k];rfl
theorem types:∀ t∈Tryz.f15.params.toList,Tryz.prog.readableRec t=true/\t<Tryz.prog.types.size:=by
 rw [Tryz.params15]
 intro t ht
 simp at ht
 rcases ht with rfl | rfl <;> exact ⟨by kernel_rfl,of_decide_eq_true (by kernel_rfl)⟩
theorem contract (H:Type) (enc:TypeId×Value->H) (W:World) (base:Nat) (args:Array Value) (ds gs:List (DataW H)) (before:List MemPlace)
 (hval:∀ (j:Nat) t v,Tryz.f15.params[j]?=some t->args[j]?=some v->Value.okWide Tryz.prog W .any base t v)
 (hW:DataW.Whole enc Tryz.prog Tryz.f15.params.toList Rows.engineToldSpec.vars false W args.toList ds gs before) :
 Calls Tryz.prog 15 args W fun e W'=>∃ v,e=.returned v/\Rows.engineToldSpec.post enc Tryz.prog Tryz.f15 false true false false W args v W':=by
 have hW':=hW
 obtain ⟨p,q,hA0,hV,rfl,_,_⟩:=hW
 have hA:DataW.TrodAll enc Tryz.prog W 0 (fun _=>true) true Tryz.f15.params.toList args.toList ds p:=hA0
 clear hA0
 rw [Tryz.params15] at hA hval
 obtain ⟨v0,vs0,d0,ds0,p0,q0,hargs,rfl,rfl,h0,r0⟩:=trodAll_cons hA
 obtain ⟨v1,vs1,d1,ds1,p1,q1,rfl,rfl,rfl,h1,r1⟩:=trodAll_cons r0
 obtain ⟨rfl,rfl,rfl⟩:=trodAll_nil r1
 obtain rfl:args = #[v0,v1]:=by cases args;simp_all
 obtain ⟨rfl,rfl⟩:=trodVars_none hV
 obtain ⟨a0,ch0,z0,y0⟩:=law_chgs (hval 0 22 v0 rfl rfl) h0
 obtain ⟨a1,bo1⟩:=zB7 (hval 1 67 v1 rfl rfl) h1
 refine (qGr ch0 bo1 (Zb _) (Zb _) z0).mono fun e W' ⟨he,hB⟩=>?_
 subst he
 exact ⟨_,rfl,post_law pfacts.laidOut rfl Tryz.underlying4 types hW' rfl ⟨rfl,rfl,rfl⟩ hB⟩
theorem lifted (os:Os) (started:os.Started) (H:Type) (enc:TypeId×Value->H) :
 ReturnsInHanded {} Tryz.checked os 15 .any (Rows.engineToldSpec.pre6 enc Tryz.prog Tryz.f15 Rows.engineToldRow.domain false) (Rows.engineToldSpec.post enc Tryz.prog Tryz.f15 false true false false):=by
 refine returnsInHanded_of_change (C:=Tryz.checked) pfacts.own started (by kernel_rfl) Tryz.func15
  (ChangeSpec.witness6 (enc:=enc) (C:=Tryz.checked) false ⟨#[],#[.slice none 0 0,.slice none 0 0],[]⟩ 8 (by kernel_rfl) (by kernel_rfl) (by kernel_rfl) (by kernel_rfl)) ?_
 intro W base args ds gs before hval hW _ _
 exact contract H enc W base args ds gs before hval hW
theorem k_wf:Rows.engineToldRow.wf (OpenSpec.ofChange Rows.engineToldSpec)=true:=by kernel_rfl
theorem k_laid:laidOutB Tryz.prog=true:=pfacts.laidOut
theorem k_rowed:mapsRowed Tryz.prog=true:=pfacts.rowed
theorem k_reads:Tryz.f15.params.all (Tryz.prog.readableRec ·)=true:=by kernel_rfl
theorem k_tie:namedTie Tryz.prog Rows.engineToldRow.named Rows.engineToldSpec.vars=true:=by kernel_rfl
theorem k_cstops:(Rows.engineToldRow.stops==[])=true:=by kernel_rfl
theorem k_pstops:(Tryz.prog.stops==[])=true:=pfacts.stops
theorem k_cknobs:(Rows.engineToldRow.knobs==[])=true:=by kernel_rfl
theorem k_pknobs:(Tryz.prog.stopKnobs==[])=true:=pfacts.stopKnobs
theorem k_inPlace:(Rows.engineToldRow.inPlace==Tryz.prog.inPlace 15)=true:=by kernel_rfl
theorem k_unfollowed:(Rows.engineToldRow.unfollowed==Tryz.prog.unfollowed 15)=true:=by kernel_rfl
theorem k_recurses:(Rows.engineToldRow.recurses==Tryz.prog.recurses 15)=true:=by kernel_rfl
theorem k_named:(Rows.engineToldRow.named==Tryz.prog.varsNamed 15)=true:=by kernel_rfl
theorem k_maps:(Rows.engineToldRow.maps==(Tryz.f15.params.toList++Rows.engineToldSpec.plain.varTypes Tryz.prog).any (Tryz.prog.mapsRec ·))=true:=by kernel_rfl
theorem k_ifaces:(Rows.engineToldRow.ifaces==(Tryz.f15.params.toList++Rows.engineToldSpec.plain.varTypes Tryz.prog).any (Tryz.prog.ifacesRec ·))=true:=by kernel_rfl
theorem k_mapsOut:(Rows.engineToldRow.mapsOut==Tryz.prog.mapsAmong Tryz.f15.resultTypes.toList)=true:=by kernel_rfl
theorem k_loops:(Rows.engineToldRow.loops==(Tryz.f15.params.toList++Rows.engineToldSpec.plain.varTypes Tryz.prog).any (Tryz.prog.loopsFrom ·))=true:=by kernel_rfl
theorem k_wideKeys:(Rows.engineToldRow.wideKeys==(Tryz.f15.params.toList++Rows.engineToldSpec.plain.varTypes Tryz.prog++Tryz.f15.resultTypes.toList).any (Tryz.prog.wideKeysFrom ·))=true:=by kernel_rfl
theorem k_varsRead:Rows.engineToldSpec.vars.all (Tryz.prog.varReadable ·)=true:=by kernel_rfl
theorem k_resRead:Tryz.f15.resultTypes.all (fun t=>Tryz.prog.readableRec t&&decide (t<Tryz.prog.types.size))=true:=by kernel_rfl
theorem k_ifacesOut:(Rows.engineToldRow.ifacesOut==Tryz.f15.resultTypes.toList.any (Tryz.prog.ifacesRec ·))=true:=by kernel_rfl
theorem k_loopsOut:(Rows.engineToldRow.loopsOut==Tryz.f15.resultTypes.toList.any (Tryz.prog.loopsFrom ·))=true:=by kernel_rfl
theorem k_plainKeys:(Rows.engineToldRow.plainKeys==Tryz.prog.plainKeys)=true:=by rw [pfacts.plainKeys];rfl
theorem k_short:Rows.engineToldRow.shortTexts.isNone=true:=by kernel_rfl
theorem k_heard:Tryz.prog.stopsHeard=true:=pfacts.heard
theorem k_enter:Tryz.prog.mayEnter=true:=pfacts.mayEnter
theorem k_lifted:(Rows.engineToldRow.lifted==Tryz.prog.liftsFinal)=true:=by rw [pfacts.lifts];rfl
theorem k_make:(Tryz.prog.make==some Rows.engineToldRow.make)=true:=pfacts.make
theorem k_kinds:(Rows.engineToldRow.kinds==(if Rows.engineToldRow.domain.isEmpty then [] else Tryz.f15.params.toList.map fun t=>match Tryz.prog.underlying t with | some (.int k)=>some k | _=>none))=true:=by kernel_rfl
theorem k_pinned:(Rows.engineToldRow.pinned==Rows.engineToldRow.pinnedBy)=true:=by kernel_rfl
theorem k_veiled:(Rows.engineToldRow.veiled==(Tryz.f15.params.toList++Rows.engineToldSpec.plain.varTypes Tryz.prog++Tryz.f15.resultTypes.toList).any (Tryz.prog.veiledRec ·))=true:=by kernel_rfl
theorem k_fits:Rows.engineToldRow.veiledFits Tryz.prog Tryz.f15.params.toList (Tryz.f15.params.toList++Rows.engineToldSpec.plain.varTypes Tryz.prog++Tryz.f15.resultTypes.toList)=true:=by kernel_rfl
theorem closed:joinedFacts Tryz.prog 15 Tryz.f15 Rows.engineToldSpec Rows.engineToldRow=true:=by
 unfold joinedFacts
 exact (and_mk (and_mk (and_mk (and_mk (and_mk (and_mk (and_mk (and_mk (and_mk (and_mk (and_mk (and_mk (and_mk (and_mk (and_mk (and_mk (and_mk (and_mk (and_mk (and_mk (and_mk (and_mk (and_mk (and_mk (and_mk (and_mk (and_mk (and_mk (and_mk (and_mk (and_mk k_wf k_laid) k_rowed) k_reads) k_tie) k_cstops) k_pstops) k_cknobs) k_pknobs) k_inPlace) k_unfollowed) k_recurses) k_named) k_maps) k_ifaces) k_mapsOut) k_loops) k_wideKeys) k_varsRead) k_resRead) k_ifacesOut) k_loopsOut) k_plainKeys) k_short) k_heard) k_enter) k_lifted) k_make) k_kinds) k_pinned) k_veiled) k_fits)
theorem noWrap:Tryz.f15.isWrapper Tryz.prog Rows.engineToldRow.wrapper Rows.engineToldRow.mainSum:=by unfold Func.isWrapper;first | (rw [if_pos (by decide +kernel)];kernel_rfl) | (rw [if_neg (by decide +kernel)];exact ⟨rfl,rfl⟩)
theorem inst:Tryz.f15.isInstance Tryz.prog Rows.engineToldRow.origin Rows.engineToldRow.targs:=of_decide_eq_true (by kernel_rfl)
theorem fname:Tryz.prog.funcNamed Rows.engineToldRow.func=some 15:=by kernel_rfl
theorem over:Rows.engineToldRow.holds Tryz.pinned (OpenSpec.ofChange Rows.engineToldSpec):=
 OpenClaim.holds_of_wide 15 Tryz.f15 rfl rfl rfl rfl rfl rfl rfl ⟨rfl,rfl,rfl,rfl,rfl⟩ rfl rfl rfl rfl rfl fname Tryz.func15 closed inst noWrap
  (fun os started H enc _=>lifted os started H enc)
theorem holds:Rows.EngineToldSaid:=over
end Go.Proofs.YtklbmkaomojciaaGreat.engineTold
#print axioms Go.Proofs.YtklbmkaomojciaaGreat.engineTold.holds

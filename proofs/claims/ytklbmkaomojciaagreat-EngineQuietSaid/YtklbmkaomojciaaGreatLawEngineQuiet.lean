/- EngineQuiet: for every input the law returns true, and what was read reads as it did. -/
import Derived.Test.YtklbmkaomojciaaGreatFrame
import Derived.Test.YtklbmkaomojciaaGreatPFacts
import Derived.Test.YtklbmkaomojciaaGreatPFactsA
import Derived.Test.YtklbmkaomojciaaGreatPFactsB
import Derived.Test.YtklbmkaomojciaaGreatPFactsC
import Derived.Test.YtklbmkaomojciaaGreatEngQuiet
set_option maxRecDepth 100000
namespace Go.Proofs.YtklbmkaomojciaaGreat.engineQuiet
open Go.ChangeShapes Go.WideShapes Go.ChangeAt Go.RowKit
open Go.ChangeMaps (open_string)
theorem and_mk {a b:Bool} (h:a=true) (k:b=true):(a&&b)=true:=by rw [h,k];rfl
theorem types:∀ t∈Tryz.f12.params.toList,Tryz.prog.readableRec t=true/\t<Tryz.prog.types.size:=by
 rw [Tryz.params12]
 intro t ht
 simp at ht
 rcases ht with rfl | rfl <;> exact ⟨by kernel_rfl,of_decide_eq_true (by kernel_rfl)⟩
theorem contract (H:Type) (enc:TypeId×Value->H) (W:World) (base:Nat) (args:Array Value) (ds gs:List (DataW H)) (before:List MemPlace)
 (hval:∀ (j:Nat) t v,Tryz.f12.params[j]?=some t->args[j]?=some v->Value.okWide Tryz.prog W .any base t v)
 (hW:DataW.Whole enc Tryz.prog Tryz.f12.params.toList Rows.engineQuietSpec.vars false W args.toList ds gs before) :
 Calls Tryz.prog 12 args W fun e W'=>∃ v,e=.returned v/\Rows.engineQuietSpec.post enc Tryz.prog Tryz.f12 false true false false W args v W':=by
 have hW':=hW
 obtain ⟨p,q,hA0,hV,rfl,_,_⟩:=hW
 have hA:DataW.TrodAll enc Tryz.prog W 0 (fun _=>true) true Tryz.f12.params.toList args.toList ds p:=hA0
 clear hA0
 rw [Tryz.params12] at hA hval
 obtain ⟨v0,vs0,d0,ds0,p0,q0,hargs,rfl,rfl,h0,r0⟩:=trodAll_cons hA
 obtain ⟨v1,vs1,d1,ds1,p1,q1,rfl,rfl,rfl,h1,r1⟩:=trodAll_cons r0
 obtain ⟨rfl,rfl,rfl⟩:=trodAll_nil r1
 obtain rfl:args = #[v0,v1]:=by cases args;simp_all
 obtain ⟨rfl,rfl⟩:=trodVars_none hV
 obtain ⟨a0,ch0,z0,y0⟩:=zVq (hval 0 22 v0 rfl rfl) h0
 obtain ⟨a1,bo1⟩:=zHn (hval 1 67 v1 rfl rfl) h1
 refine (qHw ch0 bo1 (Zb _) (Zb _) z0).mono fun e W' ⟨he,hB⟩=>?_
 subst he
 exact ⟨_,rfl,zYy pfacts.laidOut rfl Tryz.underlying4 types hW' rfl ⟨rfl,rfl,rfl⟩ hB⟩
theorem lifted (os:Os) (started:os.Started) (H:Type) (enc:TypeId×Value->H) :
 ReturnsInHanded {} Tryz.checked os 12 .any (Rows.engineQuietSpec.pre6 enc Tryz.prog Tryz.f12 Rows.engineQuietRow.domain false) (Rows.engineQuietSpec.post enc Tryz.prog Tryz.f12 false true false false):=by
 refine returnsInHanded_of_change (C:=Tryz.checked) pfacts.own started (by kernel_rfl) Tryz.func12
  (ChangeSpec.witness6 (enc:=enc) (C:=Tryz.checked) false ⟨#[],#[.slice none 0 0,.slice none 0 0],[]⟩ 8 (by kernel_rfl) (by kernel_rfl) (by kernel_rfl) (by kernel_rfl)) ?_
 intro W base args ds gs before hval hW _ _
 exact contract H enc W base args ds gs before hval hW
theorem k_wf:Rows.engineQuietRow.wf (OpenSpec.ofChange Rows.engineQuietSpec)=true:=by kernel_rfl
theorem k_laid:laidOutB Tryz.prog=true:=pfacts.laidOut
theorem k_rowed:mapsRowed Tryz.prog=true:=pfacts.rowed
theorem k_reads:Tryz.f12.params.all (Tryz.prog.readableRec ·)=true:=by kernel_rfl
theorem k_tie:namedTie Tryz.prog Rows.engineQuietRow.named Rows.engineQuietSpec.vars=true:=by kernel_rfl
theorem k_cstops:(Rows.engineQuietRow.stops==[])=true:=by kernel_rfl
theorem k_pstops:(Tryz.prog.stops==[])=true:=pfacts.stops
theorem k_cknobs:(Rows.engineQuietRow.knobs==[])=true:=by kernel_rfl
theorem k_pknobs:(Tryz.prog.stopKnobs==[])=true:=pfacts.stopKnobs
theorem k_inPlace:(Rows.engineQuietRow.inPlace==Tryz.prog.inPlace 12)=true:=by kernel_rfl
theorem k_unfollowed:(Rows.engineQuietRow.unfollowed==Tryz.prog.unfollowed 12)=true:=by kernel_rfl
theorem k_recurses:(Rows.engineQuietRow.recurses==Tryz.prog.recurses 12)=true:=by kernel_rfl
theorem k_named:(Rows.engineQuietRow.named==Tryz.prog.varsNamed 12)=true:=by kernel_rfl
theorem k_maps:(Rows.engineQuietRow.maps==(Tryz.f12.params.toList++Rows.engineQuietSpec.plain.varTypes Tryz.prog).any (Tryz.prog.mapsRec ·))=true:=by kernel_rfl
theorem k_ifaces:(Rows.engineQuietRow.ifaces==(Tryz.f12.params.toList++Rows.engineQuietSpec.plain.varTypes Tryz.prog).any (Tryz.prog.ifacesRec ·))=true:=by kernel_rfl
theorem k_mapsOut:(Rows.engineQuietRow.mapsOut==Tryz.prog.mapsAmong Tryz.f12.resultTypes.toList)=true:=by kernel_rfl
theorem k_loops:(Rows.engineQuietRow.loops==(Tryz.f12.params.toList++Rows.engineQuietSpec.plain.varTypes Tryz.prog).any (Tryz.prog.loopsFrom ·))=true:=by kernel_rfl
theorem k_wideKeys:(Rows.engineQuietRow.wideKeys==(Tryz.f12.params.toList++Rows.engineQuietSpec.plain.varTypes Tryz.prog++Tryz.f12.resultTypes.toList).any (Tryz.prog.wideKeysFrom ·))=true:=by kernel_rfl
theorem k_varsRead:Rows.engineQuietSpec.vars.all (Tryz.prog.varReadable ·)=true:=by kernel_rfl
theorem k_resRead:Tryz.f12.resultTypes.all (fun t=>Tryz.prog.readableRec t&&decide (t<Tryz.prog.types.size))=true:=by kernel_rfl
theorem k_ifacesOut:(Rows.engineQuietRow.ifacesOut==Tryz.f12.resultTypes.toList.any (Tryz.prog.ifacesRec ·))=true:=by kernel_rfl
theorem k_loopsOut:(Rows.engineQuietRow.loopsOut==Tryz.f12.resultTypes.toList.any (Tryz.prog.loopsFrom ·))=true:=by kernel_rfl
theorem k_plainKeys:(Rows.engineQuietRow.plainKeys==Tryz.prog.plainKeys)=true:=by rw [pfacts.plainKeys];rfl
theorem k_short:Rows.engineQuietRow.shortTexts.isNone=true:=by kernel_rfl
theorem k_heard:Tryz.prog.stopsHeard=true:=pfacts.heard
theorem k_enter:Tryz.prog.mayEnter=true:=pfacts.mayEnter
theorem k_lifted:(Rows.engineQuietRow.lifted==Tryz.prog.liftsFinal)=true:=by rw [pfacts.lifts];rfl
theorem k_make:(Tryz.prog.make==some Rows.engineQuietRow.make)=true:=pfacts.make
theorem k_kinds:(Rows.engineQuietRow.kinds==(if Rows.engineQuietRow.domain.isEmpty then [] else Tryz.f12.params.toList.map fun t=>match Tryz.prog.underlying t with | some (.int k)=>some k | _=>none))=true:=by kernel_rfl
theorem k_pinned:(Rows.engineQuietRow.pinned==Rows.engineQuietRow.pinnedBy)=true:=by kernel_rfl
theorem k_veiled:(Rows.engineQuietRow.veiled==(Tryz.f12.params.toList++Rows.engineQuietSpec.plain.varTypes Tryz.prog++Tryz.f12.resultTypes.toList).any (Tryz.prog.veiledRec ·))=true:=by kernel_rfl
theorem k_fits:Rows.engineQuietRow.veiledFits Tryz.prog Tryz.f12.params.toList (Tryz.f12.params.toList++Rows.engineQuietSpec.plain.varTypes Tryz.prog++Tryz.f12.resultTypes.toList)=true:=by kernel_rfl
theorem closed:joinedFacts Tryz.prog 12 Tryz.f12 Rows.engineQuietSpec Rows.engineQuietRow=true:=by
 unfold joinedFacts
 exact (and_mk (and_mk (and_mk (and_mk (and_mk (and_mk (and_mk (and_mk (and_mk (and_mk (and_mk (and_mk (and_mk (and_mk (and_mk (and_mk (and_mk (and_mk (and_mk (and_mk (and_mk (and_mk (and_mk (and_mk (and_mk (and_mk (and_mk (and_mk (and_mk (and_mk (and_mk k_wf k_laid) k_rowed) k_reads) k_tie) k_cstops) k_pstops) k_cknobs) k_pknobs) k_inPlace) k_unfollowed) k_recurses) k_named) k_maps) k_ifaces) k_mapsOut) k_loops) k_wideKeys) k_varsRead) k_resRead) k_ifacesOut) k_loopsOut) k_plainKeys) k_short) k_heard) k_enter) k_lifted) k_make) k_kinds) k_pinned) k_veiled) k_fits)
theorem noWrap:Tryz.f12.isWrapper Tryz.prog Rows.engineQuietRow.wrapper Rows.engineQuietRow.mainSum:=by unfold Func.isWrapper;first | (rw [if_pos (by decide +kernel)];kernel_rfl) | (rw [if_neg (by decide +kernel)];exact ⟨rfl,rfl⟩)
theorem inst:Tryz.f12.isInstance Tryz.prog Rows.engineQuietRow.origin Rows.engineQuietRow.targs:=of_decide_eq_true (by kernel_rfl)
theorem fname:Tryz.prog.funcNamed Rows.engineQuietRow.func=some 12:=by kernel_rfl
theorem over:Rows.engineQuietRow.holds Tryz.pinned (OpenSpec.ofChange Rows.engineQuietSpec):=
 OpenClaim.holds_of_wide 12 Tryz.f12 rfl rfl rfl rfl rfl rfl rfl ⟨rfl,rfl,rfl,rfl,rfl⟩ rfl rfl rfl rfl rfl fname Tryz.func12 closed inst noWrap
  (fun os started H enc _=>lifted os started H enc)
theorem holds:Rows.EngineQuietSaid:=over
end Go.Proofs.YtklbmkaomojciaaGreat.engineQuiet
#print axioms Go.Proofs.YtklbmkaomojciaaGreat.engineQuiet.holds

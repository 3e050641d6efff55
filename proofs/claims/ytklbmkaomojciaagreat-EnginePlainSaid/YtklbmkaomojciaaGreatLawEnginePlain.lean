/- EnginePlain: for every input the law returns true, and what was read reads as it did. -/
import Derived.Test.YtklbmkaomojciaaGreatFrame
import Derived.Test.YtklbmkaomojciaaGreatPFacts
import Derived.Test.YtklbmkaomojciaaGreatPFactsA
import Derived.Test.YtklbmkaomojciaaGreatPFactsB
import Derived.Test.YtklbmkaomojciaaGreatPFactsC
import Derived.Test.YtklbmkaomojciaaGreatOpens
import Derived.Test.YtklbmkaomojciaaGreatEngPl
import Derived.Test.YtklbmkaomojciaaGreatLabAl
set_option maxRecDepth 100000
namespace Go.Proofs.YtklbmkaomojciaaGreat.enginePlain
open Go.ChangeShapes Go.WideShapes Go.ChangeAt Go.RowKit
open Go.ChangeMaps (open_string)
theorem and_mk {a b:Bool} (h:a=true) (k:b=true):(a&&b)=true:=by rw [h,k];rfl
theorem types:∀ t∈Tryz.f14.params.toList,Tryz.prog.readableRec t=true/\t<Tryz.prog.types.size:=by
 rw [Tryz.params14]
 intro t ht
 simp at ht
 rcases ht with rfl | rfl <;> exact ⟨by kernel_rfl,of_decide_eq_true (by kernel_rfl)⟩
theorem contract (H:Type) (enc:TypeId×Value->H) (W:World) (base:Nat) (args:Array Value) (ds gs:List (DataW H)) (before:List MemPlace)
 (hval:∀ (j:Nat) t v,Tryz.f14.params[j]?=some t->args[j]?=some v->Value.okWide Tryz.prog W .any base t v)
 (hW:DataW.Whole enc Tryz.prog Tryz.f14.params.toList Rows.enginePlainSpec.vars false W args.toList ds gs before) :
 Calls Tryz.prog 14 args W fun e W'=>∃ v,e=.returned v/\Rows.enginePlainSpec.post enc Tryz.prog Tryz.f14 false true false false W args v W':=by
 have hW':=hW
 obtain ⟨p,q,hA0,hV,rfl,_,_⟩:=hW
 have hA:DataW.TrodAll enc Tryz.prog W 0 (fun _=>true) true Tryz.f14.params.toList args.toList ds p:=hA0
 clear hA0
 rw [Tryz.params14] at hA hval
 obtain ⟨v0,vs0,d0,ds0,p0,q0,hargs,rfl,rfl,h0,r0⟩:=trodAll_cons hA
 obtain ⟨v1,vs1,d1,ds1,p1,q1,rfl,rfl,rfl,h1,r1⟩:=trodAll_cons r0
 obtain ⟨rfl,rfl,rfl⟩:=trodAll_nil r1
 obtain rfl:args = #[v0,v1]:=by cases args;simp_all
 obtain ⟨rfl,rfl⟩:=trodVars_none hV
 obtain ⟨a0,ch0,z0,y0⟩:=law_chgs (hval 0 22 v0 rfl rfl) h0
 obtain ⟨a1,rfl,z1⟩:=law_chg (hval 1 40 v1 rfl rfl) h1
 refine (qFb qVy _ v0 a0 a1 W ch0 (Zb _) z0 z1.1 z1.2).mono fun e W' ⟨he,hB⟩=>?_
 subst he
 exact ⟨_,rfl,post_law pfacts.laidOut rfl Tryz.underlying4 types hW' rfl ⟨rfl,rfl,rfl⟩ hB⟩
theorem lifted (os:Os) (started:os.Started) (H:Type) (enc:TypeId×Value->H) :
 ReturnsInHanded {} Tryz.checked os 14 .any (Rows.enginePlainSpec.pre6 enc Tryz.prog Tryz.f14 Rows.enginePlainRow.domain false) (Rows.enginePlainSpec.post enc Tryz.prog Tryz.f14 false true false false):=by
 refine returnsInHanded_of_change (C:=Tryz.checked) pfacts.own started (by kernel_rfl) Tryz.func14
  (ChangeSpec.witness6 (enc:=enc) (C:=Tryz.checked) false ⟨#[],#[.slice none 0 0,.agg #[.int .i64 0,.int .i64 0,.int .i64 0,.int .i64 0,.string ⟨#[]⟩,.string ⟨#[]⟩]],[]⟩ 8 (by kernel_rfl) (by kernel_rfl) (by kernel_rfl) (by kernel_rfl)) ?_
 intro W base args ds gs before hval hW _ _
 exact contract H enc W base args ds gs before hval hW
theorem k_wf:Rows.enginePlainRow.wf (OpenSpec.ofChange Rows.enginePlainSpec)=true:=by kernel_rfl
theorem k_laid:laidOutB Tryz.prog=true:=pfacts.laidOut
theorem k_rowed:mapsRowed Tryz.prog=true:=pfacts.rowed
theorem k_reads:Tryz.f14.params.all (Tryz.prog.readableRec ·)=true:=by kernel_rfl
theorem k_tie:namedTie Tryz.prog Rows.enginePlainRow.named Rows.enginePlainSpec.vars=true:=by kernel_rfl
theorem k_cstops:(Rows.enginePlainRow.stops==[])=true:=by kernel_rfl
theorem k_pstops:(Tryz.prog.stops==[])=true:=pfacts.stops
theorem k_cknobs:(Rows.enginePlainRow.knobs==[])=true:=by kernel_rfl
theorem k_pknobs:(Tryz.prog.stopKnobs==[])=true:=pfacts.stopKnobs
theorem k_inPlace:(Rows.enginePlainRow.inPlace==Tryz.prog.inPlace 14)=true:=by kernel_rfl
theorem k_unfollowed:(Rows.enginePlainRow.unfollowed==Tryz.prog.unfollowed 14)=true:=by kernel_rfl
theorem k_recurses:(Rows.enginePlainRow.recurses==Tryz.prog.recurses 14)=true:=by kernel_rfl
theorem k_named:(Rows.enginePlainRow.named==Tryz.prog.varsNamed 14)=true:=by kernel_rfl
theorem k_maps:(Rows.enginePlainRow.maps==(Tryz.f14.params.toList++Rows.enginePlainSpec.plain.varTypes Tryz.prog).any (Tryz.prog.mapsRec ·))=true:=by kernel_rfl
theorem k_ifaces:(Rows.enginePlainRow.ifaces==(Tryz.f14.params.toList++Rows.enginePlainSpec.plain.varTypes Tryz.prog).any (Tryz.prog.ifacesRec ·))=true:=by kernel_rfl
theorem k_mapsOut:(Rows.enginePlainRow.mapsOut==Tryz.prog.mapsAmong Tryz.f14.resultTypes.toList)=true:=by kernel_rfl
theorem k_loops:(Rows.enginePlainRow.loops==(Tryz.f14.params.toList++Rows.enginePlainSpec.plain.varTypes Tryz.prog).any (Tryz.prog.loopsFrom ·))=true:=by kernel_rfl
theorem k_wideKeys:(Rows.enginePlainRow.wideKeys==(Tryz.f14.params.toList++Rows.enginePlainSpec.plain.varTypes Tryz.prog++Tryz.f14.resultTypes.toList).any (Tryz.prog.wideKeysFrom ·))=true:=by kernel_rfl
theorem k_varsRead:Rows.enginePlainSpec.vars.all (Tryz.prog.varReadable ·)=true:=by kernel_rfl
theorem k_resRead:Tryz.f14.resultTypes.all (fun t=>Tryz.prog.readableRec t&&decide (t<Tryz.prog.types.size))=true:=by kernel_rfl
theorem k_ifacesOut:(Rows.enginePlainRow.ifacesOut==Tryz.f14.resultTypes.toList.any (Tryz.prog.ifacesRec ·))=true:=by kernel_rfl
theorem k_loopsOut:(Rows.enginePlainRow.loopsOut==Tryz.f14.resultTypes.toList.any (Tryz.prog.loopsFrom ·))=true:=by kernel_rfl
theorem k_plainKeys:(Rows.enginePlainRow.plainKeys==Tryz.prog.plainKeys)=true:=by rw [pfacts.plainKeys];rfl
theorem k_short:Rows.enginePlainRow.shortTexts.isNone=true:=by kernel_rfl
theorem k_heard:Tryz.prog.stopsHeard=true:=pfacts.heard
theorem k_enter:Tryz.prog.mayEnter=true:=pfacts.mayEnter
theorem k_lifted:(Rows.enginePlainRow.lifted==Tryz.prog.liftsFinal)=true:=by rw [pfacts.lifts];rfl
theorem k_make:(Tryz.prog.make==some Rows.enginePlainRow.make)=true:=pfacts.make
theorem k_kinds:(Rows.enginePlainRow.kinds==(if Rows.enginePlainRow.domain.isEmpty then [] else Tryz.f14.params.toList.map fun t=>match Tryz.prog.underlying t with | some (.int k)=>some k | _=>none))=true:=by kernel_rfl
theorem k_pinned:(Rows.enginePlainRow.pinned==Rows.enginePlainRow.pinnedBy)=true:=by kernel_rfl
theorem k_veiled:(Rows.enginePlainRow.veiled==(Tryz.f14.params.toList++Rows.enginePlainSpec.plain.varTypes Tryz.prog++Tryz.f14.resultTypes.toList).any (Tryz.prog.veiledRec ·))=true:=by kernel_rfl
theorem k_fits:Rows.enginePlainRow.veiledFits Tryz.prog Tryz.f14.params.toList (Tryz.f14.params.toList++Rows.enginePlainSpec.plain.varTypes Tryz.prog++Tryz.f14.resultTypes.toList)=true:=by kernel_rfl
theorem closed:joinedFacts Tryz.prog 14 Tryz.f14 Rows.enginePlainSpec Rows.enginePlainRow=true:=by
 unfold joinedFacts
 exact (and_mk (and_mk (and_mk (and_mk (and_mk (and_mk (and_mk (and_mk (and_mk (and_mk (and_mk (and_mk (and_mk (and_mk (and_mk (and_mk (and_mk (and_mk (and_mk (and_mk (and_mk (and_mk (and_mk (and_mk (and_mk (and_mk (and_mk (and_mk (and_mk (and_mk (and_mk k_wf k_laid) k_rowed) k_reads) k_tie) k_cstops) k_pstops) k_cknobs) k_pknobs) k_inPlace) k_unfollowed) k_recurses) k_named) k_maps) k_ifaces) k_mapsOut) k_loops) k_wideKeys) k_varsRead) k_resRead) k_ifacesOut) k_loopsOut) k_plainKeys) k_short) k_heard) k_enter) k_lifted) k_make) k_kinds) k_pinned) k_veiled) k_fits)
theorem noWrap:Tryz.f14.isWrapper Tryz.prog Rows.enginePlainRow.wrapper Rows.enginePlainRow.mainSum:=by unfold Func.isWrapper;first | (rw [if_pos (by decide +kernel)];kernel_rfl) | (rw [if_neg (by decide +kernel)];exact ⟨rfl,rfl⟩)
theorem inst:Tryz.f14.isInstance Tryz.prog Rows.enginePlainRow.origin Rows.enginePlainRow.targs:=of_decide_eq_true (by kernel_rfl)
theorem fname:Tryz.prog.funcNamed Rows.enginePlainRow.func=some 14:=by kernel_rfl
theorem over:Rows.enginePlainRow.holds Tryz.pinned (OpenSpec.ofChange Rows.enginePlainSpec):=
 OpenClaim.holds_of_wide 14 Tryz.f14 rfl rfl rfl rfl rfl rfl rfl ⟨rfl,rfl,rfl,rfl,rfl⟩ rfl rfl rfl rfl rfl fname Tryz.func14 closed inst noWrap
  (fun os started H enc _=>lifted os started H enc)
theorem holds:Rows.EnginePlainSaid:=over
end Go.Proofs.YtklbmkaomojciaaGreat.enginePlain
#print axioms Go.Proofs.YtklbmkaomojciaaGreat.enginePlain.holds

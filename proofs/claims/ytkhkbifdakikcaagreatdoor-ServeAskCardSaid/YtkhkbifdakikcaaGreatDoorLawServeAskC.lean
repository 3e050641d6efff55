/- ServeAsk: for every input the law returns true, and what was read zWv as it did. -/
import Derived.Test.YtkhkbifdakikcaaGreatDoorFrame
import Derived.Test.YtkhkbifdakikcaaGreatDoorPFacts
import Derived.Test.YtkhkbifdakikcaaGreatDoorPFactsA
import Derived.Test.YtkhkbifdakikcaaGreatDoorPFactsB
import Derived.Test.YtkhkbifdakikcaaGreatDoorPFactsC
import Derived.Test.YtkhkbifdakikcaaGreatDoorAskW
import Derived.Test.YtkhkbifdakikcaaGreatDoorCards
import Derived.Test.YtkhkbifdakikcaaGreatDoorTie
import Derived.SevenTiedAt
set_option maxRecDepth 100000
namespace Go.Proofs.YtkhkbifdakikcaaGreatDoor.serveAsk
open Go.ChangeShapes Go.WideShapes Go.ChangeAt Go.RowKit
open Go.ChangeMaps (open_string)
theorem and_mk {a b:Bool} (h:a=true) (k:b=true):(a&&b)=true:=by rw [h,k];rfl
theorem types:∀ t∈Tryz.f3.params.toList,Tryz.prog.readableRec t=true/\t<Tryz.prog.types.size:=by
 rw [Tryz.params3];intro t h;simp at h;subst h;exact ⟨by kernel_rfl,of_decide_eq_true (by kernel_rfl)⟩
theorem contract (H:Type) (enc:TypeId×Value->H) (W:World) (base:Nat) (args:Array Value) (d g:List (DataW H)) (before:List MemPlace)
 (l:∀ (j:Nat) t v,Tryz.f3.params[j]?=some t->args[j]?=some v->Value.okWide Tryz.prog W .any base t v)
 (c:DataW.Whole enc Tryz.prog Tryz.f3.params.toList Rows.serveAskSpec.vars false W args.toList d g before) (i:laidMetH Tryz.prog laidL W) :
 Calls Tryz.prog 3 args W fun e a=>∃ v,e=.returned v/\Rows.serveAskSpec.post enc Tryz.prog Tryz.f3 false true false false W args v a:=by
 have m:=c;obtain ⟨p,q,b,k,rfl,_,_⟩:=c;have h:DataW.TrodAll enc Tryz.prog W 0 (fun _=>true) true Tryz.f3.params.toList args.toList d p:=b;clear b;rw [Tryz.params3] at h l;obtain ⟨V,w,D,o,P,Q,s,rfl,rfl,f,r⟩:=trodAll_cons h;obtain ⟨rfl,rfl,rfl⟩:=trodAll_nil r;obtain rfl:args = #[V]:=by cases args;simp_all
 obtain ⟨rfl,rfl⟩:=trodVars_none k;obtain ⟨u,A,N⟩:=law_asks (l 0 22 V rfl rfl) f;refine (zQn A (Zb _) N (tab_of i)).mono fun e a ⟨n,B⟩=>?_;subst n;exact ⟨_,rfl,post_law pfacts.laidOut rfl Tryz.underlying4 types m rfl ⟨rfl,rfl,rfl⟩ B⟩
theorem zWv (o:Os) {H:Type} (enc:TypeId×Value->H):∃ p,DataW.whole enc Tryz.prog ((World.doorLaid Tryz.prog 62 o).forCall (fun _ _=>0) ⟨#[],#[.slice none 0 0],[]⟩).memory Tryz.f3.params.toList Rows.serveAskSpec.vars false #[Value.slice none 0 0].toList 8=some ([.nil],[],p):=
 ⟨[],by kernel_rfl⟩
theorem lifted (o:Os) (s:o.Started) (H:Type) (enc:TypeId×Value->H) (F:Stop.Interp) :
 ReturnsInHanded {} Tryz.checked o 3 .any ((OpenSpec.ofChange Rows.serveAskSpec).preRow enc Tryz.prog Tryz.f3 Rows.serveAskRow.domain false Rows.serveAskRow.laid) (((OpenSpec.ofChange Rows.serveAskSpec).at F).post enc Tryz.prog Tryz.f3 false true false false):=by
 obtain ⟨p,x⟩:=zWv o enc;refine returnsInHanded_of_row (C:=Tryz.checked) (s:=OpenSpec.ofChange Rows.serveAskSpec) pfacts.own s (by kernel_rfl) Tryz.func3
  (witness_row_atRef (enc:=enc) (C:=Tryz.checked) false (World.doorLaid Tryz.prog 62 o) #[.slice none 0 0] rfl (by kernel_rfl) (by kernel_rfl) (by kernel_rfl)
   (OpenSpec.preRow_of_cond 8 x (by kernel_rfl) (fun k e=>by cases e) (by kernel_rfl) (door_met o _))) ?_
 intro W b a d g B l c _ _ _ h _ _;exact contract H enc W b a d g B l c h
theorem k_wf:Rows.serveAskRow.wf (OpenSpec.ofChange (OpenSpec.ofChange Rows.serveAskSpec).bare)=true:=by kernel_rfl
theorem k_laid:laidOutB Tryz.prog=true:=pfacts.laidOut
theorem k_rowed:mapsRowed Tryz.prog=true:=pfacts.rowed
theorem k_reads:Tryz.f3.params.all (Tryz.prog.readableRec ·)=true:=by kernel_rfl
theorem k_tie:namedTie Tryz.prog Rows.serveAskRow.named (OpenSpec.ofChange Rows.serveAskSpec).bare.vars=true:=by kernel_rfl
theorem k_cstops:(Rows.serveAskRow.stops==[])=true:=by kernel_rfl
theorem k_pstops:(Tryz.prog.stops==[])=true:=pfacts.stops
theorem k_cknobs:(Rows.serveAskRow.knobs==[])=true:=by kernel_rfl
theorem k_pknobs:(Tryz.prog.stopKnobs==[])=true:=pfacts.stopKnobs
theorem k_inPlace:(Rows.serveAskRow.inPlace==Tryz.prog.inPlace 3)=true:=by kernel_rfl
theorem k_unfollowed:(Rows.serveAskRow.unfollowed==Tryz.prog.unfollowed 3)=true:=by kernel_rfl
theorem k_recurses:(Rows.serveAskRow.recurses==Tryz.prog.recurses 3)=true:=by kernel_rfl
theorem k_named:(Rows.serveAskRow.named==Tryz.prog.varsNamed 3)=true:=by kernel_rfl
theorem k_maps:(Rows.serveAskRow.maps==(Tryz.f3.params.toList++(OpenSpec.ofChange Rows.serveAskSpec).bare.plain.varTypes Tryz.prog).any (Tryz.prog.mapsRec ·))=true:=by kernel_rfl
theorem k_ifaces:(Rows.serveAskRow.ifaces==(Tryz.f3.params.toList++(OpenSpec.ofChange Rows.serveAskSpec).bare.plain.varTypes Tryz.prog).any (Tryz.prog.ifacesRec ·))=true:=by kernel_rfl
theorem k_mapsOut:(Rows.serveAskRow.mapsOut==Tryz.prog.mapsAmong Tryz.f3.resultTypes.toList)=true:=by kernel_rfl
theorem k_loops:(Rows.serveAskRow.loops==(Tryz.f3.params.toList++(OpenSpec.ofChange Rows.serveAskSpec).bare.plain.varTypes Tryz.prog).any (Tryz.prog.loopsFrom ·))=true:=by kernel_rfl
theorem k_wideKeys:(Rows.serveAskRow.wideKeys==(Tryz.f3.params.toList++(OpenSpec.ofChange Rows.serveAskSpec).bare.plain.varTypes Tryz.prog++Tryz.f3.resultTypes.toList).any (Tryz.prog.wideKeysFrom ·))=true:=by kernel_rfl
theorem k_varsRead:(OpenSpec.ofChange Rows.serveAskSpec).bare.vars.all (Tryz.prog.varReadable ·)=true:=by kernel_rfl
theorem k_resRead:Tryz.f3.resultTypes.all (fun t=>Tryz.prog.readableRec t&&decide (t<Tryz.prog.types.size))=true:=by kernel_rfl
theorem k_ifacesOut:(Rows.serveAskRow.ifacesOut==Tryz.f3.resultTypes.toList.any (Tryz.prog.ifacesRec ·))=true:=by kernel_rfl
theorem k_loopsOut:(Rows.serveAskRow.loopsOut==Tryz.f3.resultTypes.toList.any (Tryz.prog.loopsFrom ·))=true:=by kernel_rfl
theorem k_plainKeys:(Rows.serveAskRow.plainKeys==Tryz.prog.plainKeys)=true:=by rw [pfacts.plainKeys];rfl
theorem k_short:Rows.serveAskRow.shortTexts.isNone=true:=by kernel_rfl
theorem k_heard:Tryz.prog.stopsHeard=true:=pfacts.heard
theorem k_enter:Tryz.prog.mayEnter=true:=pfacts.mayEnter
theorem k_lifted:(Rows.serveAskRow.lifted==Tryz.prog.liftsFinal)=true:=by rw [pfacts.lifts];rfl
theorem k_make:(Tryz.prog.make==some Rows.serveAskRow.make)=true:=pfacts.make
theorem k_kinds:(Rows.serveAskRow.kinds==(if Rows.serveAskRow.domain.isEmpty then [] else Tryz.f3.params.toList.map fun t=>match Tryz.prog.underlying t with | some (.int k)=>some k | _=>none))=true:=by kernel_rfl
theorem k_pinned:(Rows.serveAskRow.pinned==Rows.serveAskRow.pinnedBy)=true:=by kernel_rfl
theorem k_veiled:(Rows.serveAskRow.veiled==(Tryz.f3.params.toList++(OpenSpec.ofChange Rows.serveAskSpec).bare.plain.varTypes Tryz.prog++Tryz.f3.resultTypes.toList).any (Tryz.prog.veiledRec ·))=true:=by kernel_rfl
theorem k_fits:Rows.serveAskRow.veiledFits Tryz.prog Tryz.f3.params.toList (Tryz.f3.params.toList++(OpenSpec.ofChange Rows.serveAskSpec).bare.plain.varTypes Tryz.prog++Tryz.f3.resultTypes.toList)=true:=by kernel_rfl
theorem closed:joinedFacts Tryz.prog 3 Tryz.f3 (OpenSpec.ofChange Rows.serveAskSpec).bare Rows.serveAskRow=true:=by
 unfold joinedFacts;exact (and_mk (and_mk (and_mk (and_mk (and_mk (and_mk (and_mk (and_mk (and_mk (and_mk (and_mk (and_mk (and_mk (and_mk (and_mk (and_mk (and_mk (and_mk (and_mk (and_mk (and_mk (and_mk (and_mk (and_mk (and_mk (and_mk (and_mk (and_mk (and_mk (and_mk (and_mk k_wf k_laid) k_rowed) k_reads) k_tie) k_cstops) k_pstops) k_cknobs) k_pknobs) k_inPlace) k_unfollowed) k_recurses) k_named) k_maps) k_ifaces) k_mapsOut) k_loops) k_wideKeys) k_varsRead) k_resRead) k_ifacesOut) k_loopsOut) k_plainKeys) k_short) k_heard) k_enter) k_lifted) k_make) k_kinds) k_pinned) k_veiled) k_fits)
theorem noWrap:Tryz.f3.isWrapper Tryz.prog Rows.serveAskRow.wrapper Rows.serveAskRow.mainSum:=by unfold Func.isWrapper;first | (rw [if_pos (by decide +kernel)];kernel_rfl) | (rw [if_neg (by decide +kernel)];exact ⟨rfl,rfl⟩)
theorem inst:Tryz.f3.isInstance Tryz.prog Rows.serveAskRow.origin Rows.serveAskRow.targs:=of_decide_eq_true (by kernel_rfl)
theorem fname:Tryz.prog.funcNamed Rows.serveAskRow.func=some 3:=by kernel_rfl
theorem over:Rows.serveAskRow.holds Tryz.pinned (OpenSpec.ofChange Rows.serveAskSpec):=
 OpenClaim.holds_of_cond 3 Tryz.f3 rfl rfl rfl rfl rfl rfl rfl ⟨rfl,rfl,rfl,rfl,rfl⟩ rfl rfl rfl rfl rfl fname Tryz.func3 closed inst noWrap
  (fun o s H e _ F=>by rw [OpenClaim.pre_eq_preRow];exact lifted o s H e F)
theorem plain (f:FuncId) (F:Func) (H:Tryz.pinned.checked.prog.funcNamed Rows.serveAskRow.func=some f) (n:Tryz.pinned.checked.prog.funcs[f]?=some F) :
 false=Tryz.pinned.checked.prog.looks []/\∀ (j:Nat) t,F.params[j]?=some t->Tryz.pinned.checked.prog.wantsStandIn t=false:=by
 obtain rfl:f=3:=Option.some.inj (fname.symm.trans H) |>.symm
 obtain rfl:F=Tryz.f3:=(Option.some.inj (Tryz.func3.symm.trans n)).symm;refine ⟨by kernel_rfl,fun j t a=>?_⟩;have h:Tryz.f3.params.toList.all (fun t=>Tryz.prog.wantsStandIn t==false)=true:=by kernel_rfl
 have:=List.all_eq_true.1 h t (by simpa using Array.mem_of_getElem? a);exact beq_iff_eq.1 this
theorem holds:Rows.ServeAskCardSaid:=
 Claim7.holds_tied_plain_at .later [] _ _ _ _ over (fun _ h=>by cases h) (by kernel_rfl) (fun _ h=>by cases h) serveAsk_row_tie rfl ⟨rfl,rfl⟩ (by kernel_rfl) rfl plain (by kernel_rfl)
end Go.Proofs.YtkhkbifdakikcaaGreatDoor.serveAsk
#print axioms Go.Proofs.YtkhkbifdakikcaaGreatDoor.serveAsk.holds

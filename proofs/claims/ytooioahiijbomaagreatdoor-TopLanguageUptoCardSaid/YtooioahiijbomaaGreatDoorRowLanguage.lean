/-
  TopLanguage: for every input the call returns true,and each argument reads afterwards as it read before.
-/
import Derived.Test.YtooioahiijbomaaGreatDoorRgLanguage
import Derived.Test.YtooioahiijbomaaGreatDoorMLanguage
import Derived.Test.YtooioahiijbomaaGreatDoorRows
import Derived.Test.YtooioahiijbomaaGreatDoorCards
import Derived.Test.YtooioahiijbomaaGreatDoorTie
import Derived.WalkKit
import Derived.ProofKit
import Derived.LaidMore
import Derived.OpenShut
import Derived.ShutString
import Derived.ChangeOld
import Derived.Below
import Derived.Stop.Joined
import Derived.SevenTiedAt
import Derived.Deep.DeepHandedRow
import Derived.Deep.DeepWitnessRowRef
import Derived.JoinedCond
set_option linter.unusedVariables false
set_option linter.unusedSimpArgs false
namespace Go.Proofs.YtooioahiijbomaaGreatDoor.doneLanguage
open Go Go.ChangeShapes Go.WideShapes Go.ChangeAt Go.RowKit

def laid1 : List (String × DataW Unit) := [("math/bits.deBruijn32tab", Rows.laid_math_bits_deBruijn32tab), ("math/bits.deBruijn64tab", Rows.laid_math_bits_deBruijn64tab), ("internal/strconv.uint64pow10", Rows.laid_internal_strconv_uint64pow10), ("strconv.ErrRange", Rows.laid_strconv_ErrRange), ("strconv.ErrSyntax", Rows.laid_strconv_ErrSyntax), ("supercargo/examine.alike", Rows.laid_supercargo_examine_alike), ("supercargo/token.words", Rows.laid_supercargo_token_words), ("supercargo/syntax.papers", Rows.laid_supercargo_syntax_papers)]
theorem own:ownKnob Tryz.prog.godebug=none:=by kernel_rfl
theorem laidOut:laidOutB Tryz.prog=true:=by kernel_rfl
/-- The door's own heap meets the condition. -/
theorem door_met (os:Os) (args:Array Value):laidMetH Tryz.prog laid1 ((World.doorLaid Tryz.prog 400 os).forCall (fun _ _=>0) ⟨#[],args,[]⟩).memory:=
  laidMetH_of_parts3 (fuel:=8) (laidMet_of_run' 8 (by kernel_rfl) (by kernel_rfl)) (by kernel_rfl) (by kernel_rfl)

theorem reads (os:Os) {H:Type}(enc:TypeId×Value→H):∃places,DataW.whole enc Tryz.prog ((World.doorLaid Tryz.prog 400 os).forCall (fun _ _=>0) ⟨#[],#[.agg #[.string ⟨#[]⟩,.string ⟨#[]⟩,.string ⟨#[]⟩,.string ⟨#[]⟩,.string ⟨#[]⟩,.string ⟨#[]⟩,.string ⟨#[]⟩,.string ⟨#[]⟩,.string ⟨#[]⟩,.string ⟨#[]⟩,.int .i64 0,.slice none 0 0,.int .i64 0,.int .i64 0,.int .i64 0,.int .i64 0,.int .i64 0,.int .u16 0,.int .u16 0]],[]⟩).memory Tryz.f6.params.toList Rows.topLanguageSpec.vars false #[.agg #[.string ⟨#[]⟩,.string ⟨#[]⟩,.string ⟨#[]⟩,.string ⟨#[]⟩,.string ⟨#[]⟩,.string ⟨#[]⟩,.string ⟨#[]⟩,.string ⟨#[]⟩,.string ⟨#[]⟩,.string ⟨#[]⟩,.int .i64 0,.slice none 0 0,.int .i64 0,.int .i64 0,.int .i64 0,.int .i64 0,.int .i64 0,.int .u16 0,.int .u16 0]].toList 8=some ([.agg [.agg [.lit (.string []),.lit (.string []),.lit (.string []),.lit (.string []),.lit (.string []),.lit (.string []),.lit (.string []),.lit (.string []),.lit (.string []),.agg [.lit (.string []),.lit (.int .i64 0)],.nil,.lit (.int .i64 0),.lit (.int .i64 0),.lit (.int .i64 0),.lit (.int .i64 0),.lit (.int .i64 0)],.lit (.int .u16 0),.lit (.int .u16 0)]],[],places):=
  ⟨[],by kernel_rfl⟩

set_option maxRecDepth 100000 in
theorem lifted (os:Os) (started:os.Started) (H:Type) (enc:TypeId×Value→H) (F:Stop.Interp) :
    ReturnsInHanded {} Tryz.checked os 6 .any ((Rows.OpenSpec.upto Rows.topLanguageSpec).preRow enc Tryz.prog Tryz.f6 Rows.topLanguageUptoRow.domain false Rows.topLanguageUptoRow.laid)
      (((Rows.OpenSpec.upto Rows.topLanguageSpec).at F).post enc Tryz.prog Tryz.f6 false true false false):=by
  obtain⟨places,hx⟩:=reads os enc
  refine returnsInHanded_of_row (C:=Tryz.checked) (s:=Rows.OpenSpec.upto Rows.topLanguageSpec) own started (by kernel_rfl) Tryz.func6
    (witness_row_atRef (enc:=enc) (C:=Tryz.checked) false (World.doorLaid Tryz.prog 400 os) #[.agg #[.string ⟨#[]⟩,.string ⟨#[]⟩,.string ⟨#[]⟩,.string ⟨#[]⟩,.string ⟨#[]⟩,.string ⟨#[]⟩,.string ⟨#[]⟩,.string ⟨#[]⟩,.string ⟨#[]⟩,.string ⟨#[]⟩,.int .i64 0,.slice none 0 0,.int .i64 0,.int .i64 0,.int .i64 0,.int .i64 0,.int .i64 0,.int .u16 0,.int .u16 0]] rfl (by kernel_rfl) (by kernel_rfl) (by kernel_rfl)
      (OpenSpec.preRow_of_cond 8 hx (by kernel_rfl) (fun k hk=>by cases hk;kernel_rfl) (by kernel_rfl) (door_met os _))) ?_
  intro W base args ds gs before hval0 hW _ hcond hwt hL _ _
  have hval:∀(j:Nat) t v,Tryz.f6.params[j]?=some t→args[j]?=some v→Value.okWide Tryz.prog W .any base t v:=hval0
  have hW':=hW
  obtain⟨p,q,hA0,hV,rfl,hfz,hnd⟩:=hW
  have hA:DataW.TrodAll enc Tryz.prog W 0 (fun _=>true) true Tryz.f6.params.toList args.toList ds p:=hA0
  have hwt:(DataW.weightsEach Tryz.prog (Tryz.f6.params.toList++[]) (ds++gs)).all (·≤reachBytes)=true:=hwt
  rw[Tryz.params6]at hA hval hwt
  obtain⟨v0,vs0,d0,ds0,p0,q0,hargs,rfl,rfl,h0,r0⟩:=trodAll_cons hA
  obtain⟨rfl,rfl,rfl⟩:=trodAll_nil r0
  obtain rfl:args=#[v0]:=by cases args;simp_all
  obtain⟨rfl,rfl⟩:=trodVars_none hV
  have hb:Rows.uptoBulkAll ([d0]++[])≤1048576:=of_decide_eq_true (hcond _ rfl)
  have hb0:Rows.uptoBulk d0≤1048576:=by simp only[List.cons_append,List.nil_append,Rows.uptoBulkAll]at hb;omega
  have k0:=h0
  have lt0:∀x∈p0,x.block < W.heap.size:=by obtain⟨m,hm⟩:=k0;exact DataW.trod_lt m _ _ _ hm
  obtain⟨cz0,o0,j0,b0⟩:=qT Kd (hval 0 29 v0 rfl rfl) h0
  obtain⟨x0,rfl,y0⟩:=I0 cz0 o0;rw[show NZ sG (Sb x0)=Sa x0 from RT x0]at j0
  clear hA0 hval0
  refine(M8 atR (vals:=#[v0]) (.cons j0 bO.nil) ⟨x0,rfl,rfl,Rv y0 (Nat.le_trans (Nat.le_add_right _ _) (Nat.le_trans b0 hb0)),rfl⟩ (aiP hL)).mono fun e W' ⟨he,bel⟩=>?_
  subst he
  exact⟨_,rfl,_,_,_,[],_,[],hW',trodAll_mk1 (shut_bool Tryz.underlying4 _),(trodAll_cons_mk (Below.trod laidOut (by kernel_rfl) (of_decide_eq_true (by kernel_rfl)) k0 bel lt0) trodAll_mk0),rfl,bel.frame _,fun h=>by cases h⟩

theorem j0:(Rows.topLanguageUptoRow.wf (OpenSpec.ofChange Rows.topLanguageSpec))=true:=by kernel_rfl
theorem j3:(Tryz.f6.params.all (Tryz.pinned.checked.prog.readableRec ·))=true:=by kernel_rfl
theorem j4:(namedTie Tryz.pinned.checked.prog Rows.topLanguageUptoRow.named Rows.topLanguageSpec.vars)=true:=by kernel_rfl
theorem j5:((Rows.topLanguageUptoRow.stops == []))=true:=by kernel_rfl
theorem j6:((Tryz.pinned.checked.prog.stops == []))=true:=by kernel_rfl
theorem j7:((Rows.topLanguageUptoRow.knobs == []))=true:=by kernel_rfl
theorem j8:((Tryz.pinned.checked.prog.stopKnobs == []))=true:=by kernel_rfl
theorem j9:((Rows.topLanguageUptoRow.inPlace == Tryz.pinned.checked.prog.inPlace 6))=true:=by kernel_rfl
theorem j10:((Rows.topLanguageUptoRow.unfollowed == Tryz.pinned.checked.prog.unfollowed 6))=true:=by kernel_rfl
theorem j11:((Rows.topLanguageUptoRow.recurses == Tryz.pinned.checked.prog.recurses 6))=true:=by kernel_rfl
theorem j12:((Rows.topLanguageUptoRow.named == Tryz.pinned.checked.prog.varsNamed 6))=true:=by kernel_rfl
theorem j13:((Rows.topLanguageUptoRow.maps == (Tryz.f6.params.toList++Rows.topLanguageSpec.plain.varTypes Tryz.pinned.checked.prog).any (Tryz.pinned.checked.prog.mapsRec ·)))=true:=by kernel_rfl
theorem j14:((Rows.topLanguageUptoRow.ifaces == (Tryz.f6.params.toList++Rows.topLanguageSpec.plain.varTypes Tryz.pinned.checked.prog).any (Tryz.pinned.checked.prog.ifacesRec ·)))=true:=by kernel_rfl
theorem j15:((Rows.topLanguageUptoRow.mapsOut == Tryz.pinned.checked.prog.mapsAmong Tryz.f6.resultTypes.toList))=true:=by kernel_rfl
theorem j16:((Rows.topLanguageUptoRow.loops == (Tryz.f6.params.toList++Rows.topLanguageSpec.plain.varTypes Tryz.pinned.checked.prog).any (Tryz.pinned.checked.prog.loopsFrom ·)))=true:=by kernel_rfl
theorem j17:((Rows.topLanguageUptoRow.wideKeys == (Tryz.f6.params.toList++Rows.topLanguageSpec.plain.varTypes Tryz.pinned.checked.prog++Tryz.f6.resultTypes.toList).any (Tryz.pinned.checked.prog.wideKeysFrom ·)))=true:=by kernel_rfl
theorem j18:(Rows.topLanguageSpec.vars.all (Tryz.pinned.checked.prog.varReadable ·))=true:=by kernel_rfl
theorem j19:(Tryz.f6.resultTypes.all (fun t=>Tryz.pinned.checked.prog.readableRec t && decide (t < Tryz.pinned.checked.prog.types.size)))=true:=by kernel_rfl
theorem j20:((Rows.topLanguageUptoRow.ifacesOut == Tryz.f6.resultTypes.toList.any (Tryz.pinned.checked.prog.ifacesRec ·)))=true:=by kernel_rfl
theorem j21:((Rows.topLanguageUptoRow.loopsOut == Tryz.f6.resultTypes.toList.any (Tryz.pinned.checked.prog.loopsFrom ·)))=true:=by kernel_rfl
theorem j22:((Rows.topLanguageUptoRow.plainKeys == Tryz.pinned.checked.prog.plainKeys))=true:=by kernel_rfl
theorem j23:(Rows.topLanguageUptoRow.shortTexts.isNone)=true:=by kernel_rfl
theorem j26:((Rows.topLanguageUptoRow.lifted == Tryz.pinned.checked.prog.liftsFinal))=true:=by kernel_rfl
theorem j27:((Tryz.pinned.checked.prog.make == some Rows.topLanguageUptoRow.make))=true:=by kernel_rfl
theorem j29:((Rows.topLanguageUptoRow.pinned == Rows.topLanguageUptoRow.pinnedBy))=true:=by kernel_rfl
theorem j30:((Rows.topLanguageUptoRow.veiled == (Tryz.f6.params.toList++Rows.topLanguageSpec.plain.varTypes Tryz.pinned.checked.prog++Tryz.f6.resultTypes.toList).any (Tryz.pinned.checked.prog.veiledRec ·)))=true:=by kernel_rfl
theorem j31:(Rows.topLanguageUptoRow.veiledFits Tryz.pinned.checked.prog Tryz.f6.params.toList (Tryz.f6.params.toList++Rows.topLanguageSpec.plain.varTypes Tryz.pinned.checked.prog++Tryz.f6.resultTypes.toList))=true:=by kernel_rfl
theorem closed:joinedFacts Tryz.pinned.checked.prog 6 Tryz.f6 Rows.topLanguageSpec Rows.topLanguageUptoRow=true:=O3 j0 L6 I9 j3 j4 j5 j6 j7 j8 j9 j10 j11 j12 j13 j14 j15 j16 j17 j18 j19 j20 j21 j22 j23 I3 Ls j26 j27 (by kernel_rfl) j29 j30 j31
theorem over:Rows.topLanguageUptoRow.holds Tryz.pinned (Rows.OpenSpec.upto Rows.topLanguageSpec):=
  OpenClaim.holds_of_cond 6 Tryz.f6 rfl rfl rfl rfl rfl rfl rfl ⟨rfl,rfl,rfl,rfl,rfl⟩ rfl rfl rfl rfl rfl (by kernel_rfl) Tryz.func6 closed
    (of_decide_eq_true (by kernel_rfl)) (by unfold Func.isWrapper;first|(rw[aF (by decide +kernel)];kernel_rfl)|(rw[aE (by decide +kernel)];exact⟨rfl,rfl⟩))
    (fun os started H enc _ F=>by rw[OpenClaim.pre_eq_preRow];exact lifted os started H enc F)

/-- THE STATEMENT: the tied card. -/
theorem proved:Rows.TopLanguageUptoCardSaid:=
  Claim7.holds_tied_plain_at .later [] [.data, .data, .data, .sentinel, .sentinel, .data, .data, .data] true (true, "0ffb56236305f556291ae06d797cac1f7e8586286825623809075d336fbbeded") true
    over (fun _ h=>by cases h) (by kernel_rfl) (fun _ h=>by cases h) topLanguageUpto_row_tie rfl ⟨rfl,rfl⟩ (by kernel_rfl) rfl
    (fun f fn hf hfn=>by
      obtain rfl : f = 6 := Option.some.inj ((show Tryz.prog.funcNamed "supercargo/supercargotop.TopLanguage" = some 6 by kernel_rfl).symm.trans hf) |>.symm
      obtain rfl:fn=Tryz.f6:=(Option.some.inj (Tryz.func6.symm.trans hfn)).symm
      exact⟨by kernel_rfl,fun j t ht=>by
        rw[Tryz.params6]at ht
        have hm:t∈[29]:=by simpa using Array.mem_of_getElem? ht
        have hall:([29].all fun u=>!Tryz.prog.wantsStandIn u)=true:=by kernel_rfl
        exact(show Tryz.prog.wantsStandIn t=false by simpa using aS.1 hall t hm)⟩)
    goes
#print axioms proved
end Go.Proofs.YtooioahiijbomaaGreatDoor.doneLanguage

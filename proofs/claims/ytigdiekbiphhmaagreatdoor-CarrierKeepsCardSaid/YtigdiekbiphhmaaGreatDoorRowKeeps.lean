/-
  CarrierKeeps: for every input the call returns true,and each argument reads afterwards as it read before.
-/
import Derived.Test.YtigdiekbiphhmaaGreatDoorMKeeps
import Derived.Test.YtigdiekbiphhmaaGreatDoorRows
import Derived.Test.YtigdiekbiphhmaaGreatDoorCards
import Derived.Test.YtigdiekbiphhmaaGreatDoorTie
import Derived.WalkKit
import Derived.ProofKit
import Derived.LaidMore
import Derived.OpenShut
import Derived.ShutString
import Derived.ChangeOld
import Derived.Below
import Derived.Stop.Joined
import Derived.SevenTiedAt
set_option linter.unusedVariables false
set_option linter.unusedSimpArgs false
namespace Go.Proofs.YtigdiekbiphhmaaGreatDoor.doneKeeps
open Go Go.ChangeShapes Go.WideShapes Go.ChangeAt Go.RowKit

def laid1 : List (String × DataW Unit) := [("math/bits.deBruijn32tab", Rows.laid_math_bits_deBruijn32tab), ("math/bits.deBruijn64tab", Rows.laid_math_bits_deBruijn64tab), ("internal/strconv.uint64pow10", Rows.laid_internal_strconv_uint64pow10), ("supercargo/post.kinds", Rows.laid_supercargo_post_kinds), ("supercargo/carrier.stateWords", Rows.laid_supercargo_carrier_stateWords), ("supercargo/carrier.originalWords", Rows.laid_supercargo_carrier_originalWords)]
theorem own:ownKnob Tryz.prog.godebug=none:=by kernel_rfl
theorem laidOut:laidOutB Tryz.prog=true:=by kernel_rfl
/-- The door's own heap meets the condition. -/
theorem door_met (os:Os) (args:Array Value):laidMetH Tryz.prog laid1 ((World.doorLaid Tryz.prog 400 os).forCall (fun _ _=>0) ⟨#[],args,[]⟩).memory:=
  laidMetH_of_parts3 (fuel:=8) (laidMet_of_run' 8 (by kernel_rfl) (by kernel_rfl)) (by kernel_rfl) (by kernel_rfl)

set_option maxRecDepth 100000 in
theorem lifted (os:Os) (started:os.Started) (H:Type) (enc:TypeId×Value→H) :
    ReturnsInHanded {} Tryz.checked os 10 .any (fun w args=>(Rows.carrierKeepsSpec.pre enc Tryz.prog Tryz.f10 [] false w args∧laidMetH Tryz.prog laid1 w)∧sizedMet enc Tryz.prog Tryz.f10 (OpenSpec.ofChange Rows.carrierKeepsSpec) false w args)
      (Rows.carrierKeepsSpec.post enc Tryz.prog Tryz.f10 false true false false):=by
  refine returnsInHanded_of_change_and (C:=Tryz.checked) (X:=fun w _=>laidMetH Tryz.prog laid1 w) (fun _ _ _ hh h=>h.of_heap hh) own started (by kernel_rfl) Tryz.func10
    (ChangeSpec.witness_shaped (enc:=enc) (C:=Tryz.checked) (os:=os) (X:=fun w _=>laidMetH Tryz.prog laid1 w) false (World.doorLaid Tryz.prog 400 os) #[.agg #[.slice none 0 0,.slice none 0 0,.slice none 0 0,.slice none 0 0,.slice none 0 0],.string ⟨#[]⟩,.slice none 0 0] 8 rfl (World.shaped_of_RefB (by kernel_rfl) (by kernel_rfl)) (by kernel_rfl) (by kernel_rfl) (by kernel_rfl) (door_met os _)) ?_
  intro W base args ds gs before hval0 hW _ hwt hL _
  have hval:∀(j:Nat) t v,Tryz.f10.params[j]?=some t→args[j]?=some v→Value.okWide Tryz.prog W .any base t v:=hval0
  have hW':=hW
  obtain⟨p,q,hA0,hV,rfl,hfz,hnd⟩:=hW
  have hA:DataW.TrodAll enc Tryz.prog W 0 (fun _=>true) true Tryz.f10.params.toList args.toList ds p:=hA0
  have hwt:(DataW.weightsEach Tryz.prog (Tryz.f10.params.toList++[]) (ds++gs)).all (·≤reachBytes)=true:=hwt
  rw[Tryz.params10]at hA hval hwt
  obtain⟨v0,vs0,d0,ds0,p0,q0,hargs,rfl,rfl,h0,r0⟩:=trodAll_cons hA
  obtain⟨v1,vs1,d1,ds1,p1,q1,rfl,rfl,rfl,h1,r1⟩:=trodAll_cons r0
  obtain⟨v2,vs2,d2,ds2,p2,q2,rfl,rfl,rfl,h2,r2⟩:=trodAll_cons r1
  obtain⟨rfl,rfl,rfl⟩:=trodAll_nil r2
  obtain rfl:args=#[v0,v1,v2]:=by cases args;simp_all
  obtain⟨rfl,rfl⟩:=trodVars_none hV
  have l0:Sa reachBytes Tryz.prog 29 d0:=.inr ⟨aN _,fun m hm=>by have:=aT.1 hwt m (rG (i:=0) (t:=29) (d:=d0) rfl rfl m hm);simpa using this⟩
  have l1:Sa reachBytes Tryz.prog 9 d1:=.inr ⟨aN _,fun m hm=>by have:=aT.1 hwt m (rG (i:=1) (t:=9) (d:=d1) rfl rfl m hm);simpa using this⟩
  have l2:Sa reachBytes Tryz.prog 30 d2:=.inr ⟨aN _,fun m hm=>by have:=aT.1 hwt m (rG (i:=2) (t:=30) (d:=d2) rfl rfl m hm);simpa using this⟩
  have k0:=h0
  have oN:∀x∈p0,x.block < W.heap.size:=by obtain⟨m,hm⟩:=k0;exact DataW.trod_lt m _ _ _ hm
  obtain⟨cz0,o0,j0⟩:=Ax (B:=reachBytes) NH (hval 0 29 v0 rfl rfl) h0 l0
  obtain⟨x0,hx0,y0⟩:=Ns cz0 o0;rw[show Sb zC cz0=Jq x0 from (congrArg AV.agg hx0).trans (WE x0)]at j0
  have k1:=h1
  have lt1:∀x∈p1,x.block < W.heap.size:=by obtain⟨m,hm⟩:=k1;exact DataW.trod_lt m _ _ _ hm
  obtain⟨cz1,o1,j1⟩:=Ax (B:=reachBytes) (n:=9) (s:=.str) (by kernel_rfl) (hval 1 9 v1 rfl rfl) h1 l1
  unfold Op at o1;obtain⟨x1,rfl,_,w1⟩:=o1
  have k2:=h2
  have lt2:∀x∈p2,x.block < W.heap.size:=by obtain⟨m,hm⟩:=k2;exact DataW.trod_lt m _ _ _ hm
  obtain⟨cz2,o2,j2⟩:=Ax (B:=reachBytes) Pt (hval 2 30 v2 rfl rfl) h2 l2
  obtain⟨x2,rfl,w2,y2⟩:=Ph o2
  clear hA0 hval0
  refine(Rc GS (vals:=#[v0,v1,v2]) (.cons j0 (.cons j1 (.cons j2 bR.nil))) ⟨⟨x0,x1,x2⟩,rfl,rfl,Vq y0 w1 w2 y2,rfl⟩ (Q9 hL)).mono fun e W' ⟨he,bel⟩=>?_
  subst he
  exact⟨_,rfl,_,_,_,[],_,[],hW',trodAll_mk1 (shut_bool Tryz.underlying4 _),(trodAll_cons_mk (Below.trod laidOut (by kernel_rfl) (of_decide_eq_true (by kernel_rfl)) k0 bel oN) (trodAll_cons_mk (Below.trod laidOut (by kernel_rfl) (of_decide_eq_true (by kernel_rfl)) k1 bel lt1) (trodAll_cons_mk (Below.trod laidOut (by kernel_rfl) (of_decide_eq_true (by kernel_rfl)) k2 bel lt2) trodAll_mk0))),rfl,bel.frame _,fun h=>by cases h⟩

theorem j0:(Rows.carrierKeepsRow.wf (OpenSpec.ofChange Rows.carrierKeepsSpec))=true:=by kernel_rfl
theorem j3:(Tryz.f10.params.all (Tryz.pinned.checked.prog.readableRec ·))=true:=by kernel_rfl
theorem j4:(namedTie Tryz.pinned.checked.prog Rows.carrierKeepsRow.named Rows.carrierKeepsSpec.vars)=true:=by kernel_rfl
theorem j5:((Rows.carrierKeepsRow.stops == []))=true:=by kernel_rfl
theorem j6:((Tryz.pinned.checked.prog.stops == []))=true:=by kernel_rfl
theorem j7:((Rows.carrierKeepsRow.knobs == []))=true:=by kernel_rfl
theorem j8:((Tryz.pinned.checked.prog.stopKnobs == []))=true:=by kernel_rfl
theorem j9:((Rows.carrierKeepsRow.inPlace == Tryz.pinned.checked.prog.inPlace 10))=true:=by kernel_rfl
theorem j10:((Rows.carrierKeepsRow.unfollowed == Tryz.pinned.checked.prog.unfollowed 10))=true:=by kernel_rfl
theorem j11:((Rows.carrierKeepsRow.recurses == Tryz.pinned.checked.prog.recurses 10))=true:=by kernel_rfl
theorem j12:((Rows.carrierKeepsRow.named == Tryz.pinned.checked.prog.varsNamed 10))=true:=by kernel_rfl
theorem j13:((Rows.carrierKeepsRow.maps == (Tryz.f10.params.toList++Rows.carrierKeepsSpec.plain.varTypes Tryz.pinned.checked.prog).any (Tryz.pinned.checked.prog.mapsRec ·)))=true:=by kernel_rfl
theorem j14:((Rows.carrierKeepsRow.ifaces == (Tryz.f10.params.toList++Rows.carrierKeepsSpec.plain.varTypes Tryz.pinned.checked.prog).any (Tryz.pinned.checked.prog.ifacesRec ·)))=true:=by kernel_rfl
theorem j15:((Rows.carrierKeepsRow.mapsOut == Tryz.pinned.checked.prog.mapsAmong Tryz.f10.resultTypes.toList))=true:=by kernel_rfl
theorem j16:((Rows.carrierKeepsRow.loops == (Tryz.f10.params.toList++Rows.carrierKeepsSpec.plain.varTypes Tryz.pinned.checked.prog).any (Tryz.pinned.checked.prog.loopsFrom ·)))=true:=by kernel_rfl
theorem j17:((Rows.carrierKeepsRow.wideKeys == (Tryz.f10.params.toList++Rows.carrierKeepsSpec.plain.varTypes Tryz.pinned.checked.prog++Tryz.f10.resultTypes.toList).any (Tryz.pinned.checked.prog.wideKeysFrom ·)))=true:=by kernel_rfl
theorem j18:(Rows.carrierKeepsSpec.vars.all (Tryz.pinned.checked.prog.varReadable ·))=true:=by kernel_rfl
theorem j19:(Tryz.f10.resultTypes.all (fun t=>Tryz.pinned.checked.prog.readableRec t && decide (t < Tryz.pinned.checked.prog.types.size)))=true:=by kernel_rfl
theorem j20:((Rows.carrierKeepsRow.ifacesOut == Tryz.f10.resultTypes.toList.any (Tryz.pinned.checked.prog.ifacesRec ·)))=true:=by kernel_rfl
theorem j21:((Rows.carrierKeepsRow.loopsOut == Tryz.f10.resultTypes.toList.any (Tryz.pinned.checked.prog.loopsFrom ·)))=true:=by kernel_rfl
theorem j22:((Rows.carrierKeepsRow.plainKeys == Tryz.pinned.checked.prog.plainKeys))=true:=by kernel_rfl
theorem j23:(Rows.carrierKeepsRow.shortTexts.isNone)=true:=by kernel_rfl
theorem j26:((Rows.carrierKeepsRow.lifted == Tryz.pinned.checked.prog.liftsFinal))=true:=by kernel_rfl
theorem j27:((Tryz.pinned.checked.prog.make == some Rows.carrierKeepsRow.make))=true:=by kernel_rfl
theorem j29:((Rows.carrierKeepsRow.pinned == Rows.carrierKeepsRow.pinnedBy))=true:=by kernel_rfl
theorem j30:((Rows.carrierKeepsRow.veiled == (Tryz.f10.params.toList++Rows.carrierKeepsSpec.plain.varTypes Tryz.pinned.checked.prog++Tryz.f10.resultTypes.toList).any (Tryz.pinned.checked.prog.veiledRec ·)))=true:=by kernel_rfl
theorem j31:(Rows.carrierKeepsRow.veiledFits Tryz.pinned.checked.prog Tryz.f10.params.toList (Tryz.f10.params.toList++Rows.carrierKeepsSpec.plain.varTypes Tryz.pinned.checked.prog++Tryz.f10.resultTypes.toList))=true:=by kernel_rfl
theorem closed:joinedFacts Tryz.pinned.checked.prog 10 Tryz.f10 Rows.carrierKeepsSpec Rows.carrierKeepsRow=true:=S0 j0 Qy MT j3 j4 j5 j6 j7 j8 j9 j10 j11 j12 j13 j14 j15 j16 j17 j18 j19 j20 j21 j22 j23 Oe OO j26 j27 (by kernel_rfl) j29 j30 j31
theorem over:Rows.carrierKeepsRow.holds Tryz.pinned (OpenSpec.ofChange Rows.carrierKeepsSpec):=
  OpenClaim.holds_of_wide 10 Tryz.f10 rfl rfl rfl rfl rfl rfl rfl ⟨rfl,rfl,rfl,rfl,rfl⟩ rfl rfl rfl rfl rfl (by kernel_rfl) Tryz.func10 closed
    (of_decide_eq_true (by kernel_rfl)) (by unfold Func.isWrapper;first|(rw[aF (by decide +kernel)];kernel_rfl)|(rw[aE (by decide +kernel)];exact⟨rfl,rfl⟩))
    (fun os started H enc _=>lifted os started H enc)

/-- THE STATEMENT: the tied card. -/
theorem proved:Rows.CarrierKeepsCardSaid:=
  Claim7.holds_tied_plain_at .later [] [.data, .data, .data, .data, .data, .data] true (true, "804befdee86c77b656e67377c387d7a02b31d3f4aa08ffcd56f2d8e820343bf3") false
    over (fun _ h=>by cases h) (by kernel_rfl) (fun _ h=>by cases h) carrierKeeps_row_tie rfl ⟨rfl,rfl⟩ (by kernel_rfl) rfl
    (fun f fn hf hfn=>by
      obtain rfl : f = 10 := Option.some.inj ((show Tryz.prog.funcNamed "supercargo/supercargolaw51.CarrierKeeps" = some 10 by kernel_rfl).symm.trans hf) |>.symm
      obtain rfl:fn=Tryz.f10:=(Option.some.inj (Tryz.func10.symm.trans hfn)).symm
      exact⟨by kernel_rfl,fun j t ht=>by
        rw[Tryz.params10]at ht
        have hm:t∈[29,9,30]:=by simpa using Array.mem_of_getElem? ht
        have hall:([29,9,30].all fun u=>!Tryz.prog.wantsStandIn u)=true:=by kernel_rfl
        exact(show Tryz.prog.wantsStandIn t=false by simpa using aT.1 hall t hm)⟩)
    (by kernel_rfl)
#print axioms proved
end Go.Proofs.YtigdiekbiphhmaaGreatDoor.doneKeeps

/-
  CarrierGives: for every input the call returns true,and each argument reads afterwards as it read before.
-/
import Derived.Test.YtigdiekbiphhmaaGreatDoorMGives
import Derived.Test.YtigdiekbiphhmaaGreatDoorRows
import Derived.Test.YtigdiekbiphhmaaGreatDoorCards
import Derived.Test.YtigdiekbiphhmaaGreatDoorTie
import Derived.WalkKit
import Derived.ProofKit
import Derived.LaidMore
import Derived.OpenShut
import Derived.ShutString
import Derived.ChangeOld
import Derived.Below
import Derived.Stop.Joined
import Derived.SevenTiedAt
set_option linter.unusedVariables false
set_option linter.unusedSimpArgs false
namespace Go.Proofs.YtigdiekbiphhmaaGreatDoor.doneGives
open Go Go.ChangeShapes Go.WideShapes Go.ChangeAt Go.RowKit

def laid1 : List (String × DataW Unit) := [("math/bits.deBruijn32tab", Rows.laid_math_bits_deBruijn32tab), ("math/bits.deBruijn64tab", Rows.laid_math_bits_deBruijn64tab), ("internal/strconv.uint64pow10", Rows.laid_internal_strconv_uint64pow10), ("supercargo/post.kinds", Rows.laid_supercargo_post_kinds)]
theorem own:ownKnob Tryz.prog.godebug=none:=by kernel_rfl
theorem laidOut:laidOutB Tryz.prog=true:=by kernel_rfl
/-- The door's own heap meets the condition. -/
theorem door_met (os:Os) (args:Array Value):laidMetH Tryz.prog laid1 ((World.doorLaid Tryz.prog 400 os).forCall (fun _ _=>0) ⟨#[],args,[]⟩).memory:=
  laidMetH_of_parts3 (fuel:=8) (laidMet_of_run' 8 (by kernel_rfl) (by kernel_rfl)) (by kernel_rfl) (by kernel_rfl)

set_option maxRecDepth 100000 in
theorem lifted (os:Os) (started:os.Started) (H:Type) (enc:TypeId×Value→H) :
    ReturnsInHanded {} Tryz.checked os 3 .any (fun w args=>(Rows.carrierGivesSpec.pre enc Tryz.prog Tryz.f3 [] false w args∧laidMetH Tryz.prog laid1 w)∧sizedMet enc Tryz.prog Tryz.f3 (OpenSpec.ofChange Rows.carrierGivesSpec) false w args)
      (Rows.carrierGivesSpec.post enc Tryz.prog Tryz.f3 false true false false):=by
  refine returnsInHanded_of_change_and (C:=Tryz.checked) (X:=fun w _=>laidMetH Tryz.prog laid1 w) (fun _ _ _ hh h=>h.of_heap hh) own started (by kernel_rfl) Tryz.func3
    (ChangeSpec.witness_shaped (enc:=enc) (C:=Tryz.checked) (os:=os) (X:=fun w _=>laidMetH Tryz.prog laid1 w) false (World.doorLaid Tryz.prog 400 os) #[.agg #[.slice none 0 0,.slice none 0 0,.slice none 0 0,.slice none 0 0,.slice none 0 0],.string ⟨#[]⟩,.slice none 0 0,.string ⟨#[]⟩,.int .i64 0,.int .i64 0] 8 rfl (World.shaped_of_RefB (by kernel_rfl) (by kernel_rfl)) (by kernel_rfl) (by kernel_rfl) (by kernel_rfl) (door_met os _)) ?_
  intro W base args ds gs before hval0 hW _ hwt hL _
  have hval:∀(j:Nat) t v,Tryz.f3.params[j]?=some t→args[j]?=some v→Value.okWide Tryz.prog W .any base t v:=hval0
  have hW':=hW
  obtain⟨p,q,hA0,hV,rfl,hfz,hnd⟩:=hW
  have hA:DataW.TrodAll enc Tryz.prog W 0 (fun _=>true) true Tryz.f3.params.toList args.toList ds p:=hA0
  have hwt:(DataW.weightsEach Tryz.prog (Tryz.f3.params.toList++[]) (ds++gs)).all (·≤reachBytes)=true:=hwt
  rw[Tryz.params3]at hA hval hwt
  obtain⟨v0,vs0,d0,ds0,p0,q0,hargs,rfl,rfl,h0,r0⟩:=trodAll_cons hA
  obtain⟨v1,vs1,d1,ds1,p1,q1,rfl,rfl,rfl,h1,r1⟩:=trodAll_cons r0
  obtain⟨v2,vs2,d2,ds2,p2,q2,rfl,rfl,rfl,h2,r2⟩:=trodAll_cons r1
  obtain⟨v3,vs3,d3,ds3,p3,q3,rfl,rfl,rfl,h3,r3⟩:=trodAll_cons r2
  obtain⟨v4,vs4,d4,ds4,p4,q4,rfl,rfl,rfl,h4,r4⟩:=trodAll_cons r3
  obtain⟨v5,vs5,d5,ds5,p5,q5,rfl,rfl,rfl,h5,r5⟩:=trodAll_cons r4
  obtain⟨rfl,rfl,rfl⟩:=trodAll_nil r5
  obtain rfl:args=#[v0,v1,v2,v3,v4,v5]:=by cases args;simp_all
  obtain⟨rfl,rfl⟩:=trodVars_none hV
  have l0:K0 reachBytes Tryz.prog 29 d0:=.inr ⟨aN _,fun m hm=>by have:=aT.1 hwt m (kO (i:=0) (t:=29) (d:=d0) rfl rfl m hm);simpa using this⟩
  have l1:K0 reachBytes Tryz.prog 9 d1:=.inr ⟨aN _,fun m hm=>by have:=aT.1 hwt m (kO (i:=1) (t:=9) (d:=d1) rfl rfl m hm);simpa using this⟩
  have l2:K0 reachBytes Tryz.prog 30 d2:=.inr ⟨aN _,fun m hm=>by have:=aT.1 hwt m (kO (i:=2) (t:=30) (d:=d2) rfl rfl m hm);simpa using this⟩
  have l3:K0 reachBytes Tryz.prog 9 d3:=.inr ⟨aN _,fun m hm=>by have:=aT.1 hwt m (kO (i:=3) (t:=9) (d:=d3) rfl rfl m hm);simpa using this⟩
  have l4:K0 reachBytes Tryz.prog 3 d4:=.inr ⟨aN _,fun m hm=>by have:=aT.1 hwt m (kO (i:=4) (t:=3) (d:=d4) rfl rfl m hm);simpa using this⟩
  have l5:K0 reachBytes Tryz.prog 3 d5:=.inr ⟨aN _,fun m hm=>by have:=aT.1 hwt m (kO (i:=5) (t:=3) (d:=d5) rfl rfl m hm);simpa using this⟩
  have k0:=h0
  have lX:∀x∈p0,x.block < W.heap.size:=by obtain⟨m,hm⟩:=k0;exact DataW.trod_lt m _ _ _ hm
  obtain⟨cz0,o0,j0⟩:=nH (B:=reachBytes) LF (hval 0 29 v0 rfl rfl) h0 l0
  obtain⟨x0,hx0,y0⟩:=Lt cz0 o0;rw[show Ph xS cz0=HM x0 from (congrArg AV.agg hx0).trans (Tp x0)]at j0
  have k1:=h1
  have lt1:∀x∈p1,x.block < W.heap.size:=by obtain⟨m,hm⟩:=k1;exact DataW.trod_lt m _ _ _ hm
  obtain⟨cz1,o1,j1⟩:=nH (B:=reachBytes) (n:=9) (s:=.str) (by kernel_rfl) (hval 1 9 v1 rfl rfl) h1 l1
  unfold Op at o1;obtain⟨x1,rfl,_,w1⟩:=o1
  have k2:=h2
  have lt2:∀x∈p2,x.block < W.heap.size:=by obtain⟨m,hm⟩:=k2;exact DataW.trod_lt m _ _ _ hm
  obtain⟨cz2,o2,j2⟩:=nH (B:=reachBytes) Nb (hval 2 30 v2 rfl rfl) h2 l2
  obtain⟨x2,rfl,w2,y2⟩:=M3 o2
  have k3:=h3
  have lt3:∀x∈p3,x.block < W.heap.size:=by obtain⟨m,hm⟩:=k3;exact DataW.trod_lt m _ _ _ hm
  obtain⟨cz3,o3,j3⟩:=nH (B:=reachBytes) (n:=9) (s:=.str) (by kernel_rfl) (hval 3 9 v3 rfl rfl) h3 l3
  unfold Op at o3;obtain⟨x3,rfl,_,w3⟩:=o3
  have k4:=h4
  have lt4:∀x∈p4,x.block < W.heap.size:=by obtain⟨m,hm⟩:=k4;exact DataW.trod_lt m _ _ _ hm
  obtain⟨cz4,o4,j4⟩:=nH (B:=reachBytes) (n:=9) (s:=.int .i64) (by kernel_rfl) (hval 4 3 v4 rfl rfl) h4 l4
  unfold Op at o4;obtain⟨x4,rfl,w4⟩:=o4
  have k5:=h5
  have lt5:∀x∈p5,x.block < W.heap.size:=by obtain⟨m,hm⟩:=k5;exact DataW.trod_lt m _ _ _ hm
  obtain⟨cz5,o5,j5⟩:=nH (B:=reachBytes) (n:=9) (s:=.int .i64) (by kernel_rfl) (hval 5 3 v5 rfl rfl) h5 l5
  unfold Op at o5;obtain⟨x5,rfl,w5⟩:=o5
  clear hA0 hval0
  refine(OI FW (vals:=#[v0,v1,v2,v3,v4,v5]) (.cons j0 (.cons j1 (.cons j2 (.cons j3 (.cons j4 (.cons j5 bT.nil)))))) ⟨⟨x0,x1,x2,x3,x4,x5⟩,rfl,rfl,⟨(Pe y0 w1 w2 y2).f,(Pe y0 w1 w2 y2).d,Nat.le_trans w3 B3⟩,rfl⟩ (OE hL)).mono fun e W' ⟨he,bel⟩=>?_
  subst he
  exact⟨_,rfl,_,_,_,[],_,[],hW',trodAll_mk1 (shut_bool Tryz.underlying4 _),(trodAll_cons_mk (Below.trod laidOut (by kernel_rfl) (of_decide_eq_true (by kernel_rfl)) k0 bel lX) (trodAll_cons_mk (Below.trod laidOut (by kernel_rfl) (of_decide_eq_true (by kernel_rfl)) k1 bel lt1) (trodAll_cons_mk (Below.trod laidOut (by kernel_rfl) (of_decide_eq_true (by kernel_rfl)) k2 bel lt2) (trodAll_cons_mk (Below.trod laidOut (by kernel_rfl) (of_decide_eq_true (by kernel_rfl)) k3 bel lt3) (trodAll_cons_mk (Below.trod laidOut (by kernel_rfl) (of_decide_eq_true (by kernel_rfl)) k4 bel lt4) (trodAll_cons_mk (Below.trod laidOut (by kernel_rfl) (of_decide_eq_true (by kernel_rfl)) k5 bel lt5) trodAll_mk0)))))),rfl,bel.frame _,fun h=>by cases h⟩

theorem j0:(Rows.carrierGivesRow.wf (OpenSpec.ofChange Rows.carrierGivesSpec))=true:=by kernel_rfl
theorem j3:(Tryz.f3.params.all (Tryz.pinned.checked.prog.readableRec ·))=true:=by kernel_rfl
theorem j4:(namedTie Tryz.pinned.checked.prog Rows.carrierGivesRow.named Rows.carrierGivesSpec.vars)=true:=by kernel_rfl
theorem j5:((Rows.carrierGivesRow.stops == []))=true:=by kernel_rfl
theorem j6:((Tryz.pinned.checked.prog.stops == []))=true:=by kernel_rfl
theorem j7:((Rows.carrierGivesRow.knobs == []))=true:=by kernel_rfl
theorem j8:((Tryz.pinned.checked.prog.stopKnobs == []))=true:=by kernel_rfl
theorem j9:((Rows.carrierGivesRow.inPlace == Tryz.pinned.checked.prog.inPlace 3))=true:=by kernel_rfl
theorem j10:((Rows.carrierGivesRow.unfollowed == Tryz.pinned.checked.prog.unfollowed 3))=true:=by kernel_rfl
theorem j11:((Rows.carrierGivesRow.recurses == Tryz.pinned.checked.prog.recurses 3))=true:=by kernel_rfl
theorem j12:((Rows.carrierGivesRow.named == Tryz.pinned.checked.prog.varsNamed 3))=true:=by kernel_rfl
theorem j13:((Rows.carrierGivesRow.maps == (Tryz.f3.params.toList++Rows.carrierGivesSpec.plain.varTypes Tryz.pinned.checked.prog).any (Tryz.pinned.checked.prog.mapsRec ·)))=true:=by kernel_rfl
theorem j14:((Rows.carrierGivesRow.ifaces == (Tryz.f3.params.toList++Rows.carrierGivesSpec.plain.varTypes Tryz.pinned.checked.prog).any (Tryz.pinned.checked.prog.ifacesRec ·)))=true:=by kernel_rfl
theorem j15:((Rows.carrierGivesRow.mapsOut == Tryz.pinned.checked.prog.mapsAmong Tryz.f3.resultTypes.toList))=true:=by kernel_rfl
theorem j16:((Rows.carrierGivesRow.loops == (Tryz.f3.params.toList++Rows.carrierGivesSpec.plain.varTypes Tryz.pinned.checked.prog).any (Tryz.pinned.checked.prog.loopsFrom ·)))=true:=by kernel_rfl
theorem j17:((Rows.carrierGivesRow.wideKeys == (Tryz.f3.params.toList++Rows.carrierGivesSpec.plain.varTypes Tryz.pinned.checked.prog++Tryz.f3.resultTypes.toList).any (Tryz.pinned.checked.prog.wideKeysFrom ·)))=true:=by kernel_rfl
theorem j18:(Rows.carrierGivesSpec.vars.all (Tryz.pinned.checked.prog.varReadable ·))=true:=by kernel_rfl
theorem j19:(Tryz.f3.resultTypes.all (fun t=>Tryz.pinned.checked.prog.readableRec t && decide (t < Tryz.pinned.checked.prog.types.size)))=true:=by kernel_rfl
theorem j20:((Rows.carrierGivesRow.ifacesOut == Tryz.f3.resultTypes.toList.any (Tryz.pinned.checked.prog.ifacesRec ·)))=true:=by kernel_rfl
theorem j21:((Rows.carrierGivesRow.loopsOut == Tryz.f3.resultTypes.toList.any (Tryz.pinned.checked.prog.loopsFrom ·)))=true:=by kernel_rfl
theorem j22:((Rows.carrierGivesRow.plainKeys == Tryz.pinned.checked.prog.plainKeys))=true:=by kernel_rfl
theorem j23:(Rows.carrierGivesRow.shortTexts.isNone)=true:=by kernel_rfl
theorem j26:((Rows.carrierGivesRow.lifted == Tryz.pinned.checked.prog.liftsFinal))=true:=by kernel_rfl
theorem j27:((Tryz.pinned.checked.prog.make == some Rows.carrierGivesRow.make))=true:=by kernel_rfl
theorem j29:((Rows.carrierGivesRow.pinned == Rows.carrierGivesRow.pinnedBy))=true:=by kernel_rfl
theorem j30:((Rows.carrierGivesRow.veiled == (Tryz.f3.params.toList++Rows.carrierGivesSpec.plain.varTypes Tryz.pinned.checked.prog++Tryz.f3.resultTypes.toList).any (Tryz.pinned.checked.prog.veiledRec ·)))=true:=by kernel_rfl
theorem j31:(Rows.carrierGivesRow.veiledFits Tryz.pinned.checked.prog Tryz.f3.params.toList (Tryz.f3.params.toList++Rows.carrierGivesSpec.plain.varTypes Tryz.pinned.checked.prog++Tryz.f3.resultTypes.toList))=true:=by kernel_rfl
theorem closed:joinedFacts Tryz.pinned.checked.prog 3 Tryz.f3 Rows.carrierGivesSpec Rows.carrierGivesRow=true:=PS j0 N5 KV j3 j4 j5 j6 j7 j8 j9 j10 j11 j12 j13 j14 j15 j16 j17 j18 j19 j20 j21 j22 j23 Mc MH j26 j27 (by kernel_rfl) j29 j30 j31
theorem over:Rows.carrierGivesRow.holds Tryz.pinned (OpenSpec.ofChange Rows.carrierGivesSpec):=
  OpenClaim.holds_of_wide 3 Tryz.f3 rfl rfl rfl rfl rfl rfl rfl ⟨rfl,rfl,rfl,rfl,rfl⟩ rfl rfl rfl rfl rfl (by kernel_rfl) Tryz.func3 closed
    (of_decide_eq_true (by kernel_rfl)) (by unfold Func.isWrapper;first|(rw[aF (by decide +kernel)];kernel_rfl)|(rw[aE (by decide +kernel)];exact⟨rfl,rfl⟩))
    (fun os started H enc _=>lifted os started H enc)

/-- THE STATEMENT: the tied card. -/
theorem proved:Rows.CarrierGivesCardSaid:=
  Claim7.holds_tied_plain_at .later [] [.data, .data, .data, .data] true (true, "804befdee86c77b656e67377c387d7a02b31d3f4aa08ffcd56f2d8e820343bf3") false
    over (fun _ h=>by cases h) (by kernel_rfl) (fun _ h=>by cases h) carrierGives_row_tie rfl ⟨rfl,rfl⟩ (by kernel_rfl) rfl
    (fun f fn hf hfn=>by
      obtain rfl : f = 3 := Option.some.inj ((show Tryz.prog.funcNamed "supercargo/supercargolaw51.CarrierGives" = some 3 by kernel_rfl).symm.trans hf) |>.symm
      obtain rfl:fn=Tryz.f3:=(Option.some.inj (Tryz.func3.symm.trans hfn)).symm
      exact⟨by kernel_rfl,fun j t ht=>by
        rw[Tryz.params3]at ht
        have hm:t∈[29,9,30,9,3,3]:=by simpa using Array.mem_of_getElem? ht
        have hall:([29,9,30,9,3,3].all fun u=>!Tryz.prog.wantsStandIn u)=true:=by kernel_rfl
        exact(show Tryz.prog.wantsStandIn t=false by simpa using aT.1 hall t hm)⟩)
    (by kernel_rfl)
#print axioms proved
end Go.Proofs.YtigdiekbiphhmaaGreatDoor.doneGives

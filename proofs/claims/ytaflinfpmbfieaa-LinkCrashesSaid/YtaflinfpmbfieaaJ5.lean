/-
  Texts of this proof, joined: TO, VO, TQ, TR, TP, TS, TU, TW, TY, TZ, UA, UB, UC, UD, UG, UE, VL, UF, UH.
-/
import Derived.Test.YtaflinfpmbfieaaJ4
import Derived.Deep.Slices
import Derived.Deep.Fields
import Derived.ChangeSame
import Derived.ProofKit
import Derived.OpenShut
import Derived.ChangeOld
import Derived.Below
import Derived.KernelRfl
namespace Go.Proofs.Ytaflinfpmbfieaa
open Go.RowKit
set_option maxHeartbeats 8000000
set_option maxRecDepth 100000
abbrev PIn := List Dd × List Dd × ByteArray × ByteArray × List Lt × Int × Int
noncomputable def LPartsC : Ctr := spec (fun i : PIn => [.sl 16 (mapA DdA i.1), .sl 16 (mapA DdA i.2.1), .str i.2.2.1, .str i.2.2.2.1, .sl 14 (mapA LtA i.2.2.2.2.1), .i i.2.2.2.2.2.1, .i i.2.2.2.2.2.2]) (fun _ => [])
  (fun i => (∀ d ∈ i.1, IntsD d) ∧ (∀ d ∈ i.2.1, IntsD d) ∧ (∀ l ∈ i.2.2.2.2.1, IntsL l) ∧ i64 i.2.2.2.2.2.1 ∧ i64 i.2.2.2.2.2.2) (fun _ => .bl true) fun _ => []
theorem lparts_body (P : Program) (F : Fns2 P) (O : OfFns P) (hbig : FnOk P 24 BigC) (hparts : FnOk P 16 PartsC) : BodyOk P x8 LPartsC := by
  intro args H K hc
  obtain ⟨⟨L, L2, a, b, sent, acked, got⟩, rfl, rfl, ⟨hints, hints2, hsi, hai, hgi⟩, hK⟩ := hc
  refine ⟨Nat.le_of_ble_eq_true rfl, ?_⟩
  dsimp only at hints hints2 hsi hai hgi hK ⊢
  obtain ⟨n, hn⟩ : ∃ n, n = L.length := ⟨_, rfl⟩
  obtain ⟨n2, hn2⟩ : ∃ n, n = L2.length := ⟨_, rfl⟩
  obtain ⟨ns, hns⟩ : ∃ n, n = sent.length := ⟨_, rfl⟩
  cbv; repeat' ((first | refine .e ?_ | refine .n fun h => ?_ | refine .y fun h => ?_ | refine .q fun z hz hz0 hz1 => ?_ | refine .mk (fun h => ?_) fun h => ?_ | refine .k fun z hz => ?_ | refine .o ?_ | refine .l fun ys hys hyl => ?_ | refine .zl fun zs hzs hzl => ?_ | refine .u fun u hu hul => ?_ | refine .z fun zs hzs => ?_ | refine .mk (fun h => ?_) ?_ | refine .ms fun ms hms => ?_ | refine .s fun s hs hsl => ?_ | refine And.intro ?_ ?_) <;> cbv)
  (refine callG_spec0 F.awake () trivial rfl rfl rfl ?_; try dsimp only)
  cbv; repeat' ((first | refine .e ?_ | refine .n fun h => ?_ | refine .y fun h => ?_ | refine .q fun z hz hz0 hz1 => ?_ | refine .mk (fun h => ?_) fun h => ?_ | refine .k fun z hz => ?_ | refine .o ?_ | refine .l fun ys hys hyl => ?_ | refine .zl fun zs hzs hzl => ?_ | refine .u fun u hu hul => ?_ | refine .z fun zs hzs => ?_ | refine .mk (fun h => ?_) ?_ | refine .ms fun ms hms => ?_ | refine .s fun s hs hsl => ?_ | refine And.intro ?_ ?_) <;> cbv)
  refine callG_heavy F.heavy L 20 (by omega) rfl (fun hlen hnb => ?_) ?_
  rotate_left
  · cbv; repeat' ((first | refine .e ?_ | refine .n fun h => ?_ | refine .y fun h => ?_ | refine .q fun z hz hz0 hz1 => ?_ | refine .mk (fun h => ?_) fun h => ?_ | refine .k fun z hz => ?_ | refine .o ?_ | refine .l fun ys hys hyl => ?_ | refine .zl fun zs hzs hzl => ?_ | refine .u fun u hu hul => ?_ | refine .z fun zs hzs => ?_ | refine .mk (fun h => ?_) ?_ | refine .ms fun ms hms => ?_ | refine .s fun s hs hsl => ?_ | refine And.intro ?_ ?_) <;> cbv)
    exact FinK.mk ⟨_, Gh.refl _, .inl (CutK.val rfl (Le.refl _) hK)⟩
  cbv; repeat' ((first | refine .e ?_ | refine .n fun h => ?_ | refine .y fun h => ?_ | refine .q fun z hz hz0 hz1 => ?_ | refine .mk (fun h => ?_) fun h => ?_ | refine .k fun z hz => ?_ | refine .o ?_ | refine .l fun ys hys hyl => ?_ | refine .zl fun zs hzs hzl => ?_ | refine .u fun u hu hul => ?_ | refine .z fun zs hzs => ?_ | refine .mk (fun h => ?_) ?_ | refine .ms fun ms hms => ?_ | refine .s fun s hs hsl => ?_ | refine And.intro ?_ ?_) <;> cbv)
  refine callG_heavy F.heavy L2 8 (by omega) rfl (fun hlen2 hnb2 => ?_) ?_
  rotate_left
  · cbv; repeat' ((first | refine .e ?_ | refine .n fun h => ?_ | refine .y fun h => ?_ | refine .q fun z hz hz0 hz1 => ?_ | refine .mk (fun h => ?_) fun h => ?_ | refine .k fun z hz => ?_ | refine .o ?_ | refine .l fun ys hys hyl => ?_ | refine .zl fun zs hzs hzl => ?_ | refine .u fun u hu hul => ?_ | refine .z fun zs hzs => ?_ | refine .mk (fun h => ?_) ?_ | refine .ms fun ms hms => ?_ | refine .s fun s hs hsl => ?_ | refine And.intro ?_ ?_) <;> cbv)
    exact FinK.mk ⟨_, Gh.refl _, .inl (CutK.val rfl (Le.refl _) hK)⟩
  cbv; repeat' ((first | refine .e ?_ | refine .n fun h => ?_ | refine .y fun h => ?_ | refine .q fun z hz hz0 hz1 => ?_ | refine .mk (fun h => ?_) fun h => ?_ | refine .k fun z hz => ?_ | refine .o ?_ | refine .l fun ys hys hyl => ?_ | refine .zl fun zs hzs hzl => ?_ | refine .u fun u hu hul => ?_ | refine .z fun zs hzs => ?_ | refine .mk (fun h => ?_) ?_ | refine .ms fun ms hms => ?_ | refine .s fun s hs hsl => ?_ | refine And.intro ?_ ?_) <;> cbv)
  · exact FinK.mk ⟨_, Gh.refl _, .inl (CutK.val rfl (Le.refl _) hK)⟩
  · exact FinK.mk ⟨_, Gh.refl _, .inl (CutK.val rfl (Le.refl _) hK)⟩
  · exact FinK.mk ⟨_, Gh.refl _, .inl (CutK.val rfl (Le.refl _) hK)⟩
  have hslen : sent.length ≤ 10 := by ((try simp only [vn] at *) <;> omega)
  have hal : a.size ≤ 100 := by ((try simp only [vn] at *) <;> omega)
  have hbl : b.size ≤ 100 := by ((try simp only [vn] at *) <;> omega)
  refine xloopV [] (fun p : { p : Nat // p ≤ sent.length ∧ ∀ l ∈ sent.take p, NotBig l } => [(15, .i (nI p.1))]) (fun _ => []) (fun p => lft ns p.1) ⟨0, Nat.zero_le _, fun b h => by simp at h⟩ ?_
  rintro ⟨i, hi, hall⟩
  cbv; repeat' ((first | refine .e ?_ | refine .n fun h => ?_ | refine .y fun h => ?_ | refine .q fun z hz hz0 hz1 => ?_ | refine .mk (fun h => ?_) fun h => ?_ | refine .k fun z hz => ?_ | refine .o ?_ | refine .l fun ys hys hyl => ?_ | refine .zl fun zs hzs hzl => ?_ | refine .u fun u hu hul => ?_ | refine .z fun zs hzs => ?_ | refine .mk (fun h => ?_) ?_ | refine .ms fun ms hms => ?_ | refine .s fun s hs hsl => ?_ | refine And.intro ?_ ?_) <;> cbv)
  · have hil : i < sent.length := by ((try simp only [vn] at *) <;> omega)
    obtain ⟨l, hg⟩ := some_at hil
    have e := take_some hg
    have hst : NotBig l → ∀ x ∈ sent.take (i + 1), NotBig x := fun h x hx => by
      rw [e] at hx
      rcases List.mem_append.1 hx with hx | hx
      · exact hall x hx
      · simp at hx; subst hx; exact h
    obtain ⟨frm, to, number, kind, ack, deal, text, party, index, day, cur, amt, docs, boxes⟩ := l
    cbv; repeat' ((first | refine .e ?_ | refine .n fun h => ?_ | refine .y fun h => ?_ | refine .q fun z hz hz0 hz1 => ?_ | refine .mk (fun h => ?_) fun h => ?_ | refine .k fun z hz => ?_ | refine .o ?_ | refine .l fun ys hys hyl => ?_ | refine .zl fun zs hzs hzl => ?_ | refine .u fun u hu hul => ?_ | refine .z fun zs hzs => ?_ | refine .mk (fun h => ?_) ?_ | refine .ms fun ms hms => ?_ | refine .s fun s hs hsl => ?_ | refine And.intro ?_ ?_) <;> cbv)
    refine callG_big hbig ⟨frm, to, number, kind, ack, deal, text, party, index, day, cur, amt, docs, boxes⟩ rfl (fun hnb => ?_) (fun hnb => ?_)
    · cbv; repeat' ((first | refine .e ?_ | refine .n fun h => ?_ | refine .y fun h => ?_ | refine .q fun z hz hz0 hz1 => ?_ | refine .mk (fun h => ?_) fun h => ?_ | refine .k fun z hz => ?_ | refine .o ?_ | refine .l fun ys hys hyl => ?_ | refine .zl fun zs hzs hzl => ?_ | refine .u fun u hu hul => ?_ | refine .z fun zs hzs => ?_ | refine .mk (fun h => ?_) ?_ | refine .ms fun ms hms => ?_ | refine .s fun s hs hsl => ?_ | refine And.intro ?_ ?_) <;> cbv)
      obtain rfl := hz
      exact roundV ⟨i + 1, hil, hst hnb⟩ (lft_lt (by ((try simp only [vn] at *) <;> omega)))
    · cbv; repeat' ((first | refine .e ?_ | refine .n fun h => ?_ | refine .y fun h => ?_ | refine .q fun z hz hz0 hz1 => ?_ | refine .mk (fun h => ?_) fun h => ?_ | refine .k fun z hz => ?_ | refine .o ?_ | refine .l fun ys hys hyl => ?_ | refine .zl fun zs hzs hzl => ?_ | refine .u fun u hu hul => ?_ | refine .z fun zs hzs => ?_ | refine .mk (fun h => ?_) ?_ | refine .ms fun ms hms => ?_ | refine .s fun s hs hsl => ?_ | refine And.intro ?_ ?_) <;> cbv)
      exact FinK.mk ⟨_, Gh.refl _, .inl (CutK.val rfl (Le.refl _) hK)⟩
  have hnbs : ∀ l ∈ sent, NotBig l := by rw [List.take_of_length_le (by ((try simp only [vn] at *) <;> omega))] at hall; exact hall
  have hfit : ofFit (a, b, sent, acked, got) := ⟨hal, hbl, by dsimp only; omega, fun l hl => small_of (hnbs l hl) (hsi l hl)⟩
  by_cases hA : ofA (a, b, sent, acked, got)
  · (refine callG_spec0 O.a (a, b, sent, acked, got) ⟨hfit, hA⟩ rfl rfl rfl ?_; try dsimp only)
    cbv; repeat' ((first | refine .e ?_ | refine .n fun h => ?_ | refine .y fun h => ?_ | refine .q fun z hz hz0 hz1 => ?_ | refine .mk (fun h => ?_) fun h => ?_ | refine .k fun z hz => ?_ | refine .o ?_ | refine .l fun ys hys hyl => ?_ | refine .zl fun zs hzs hzl => ?_ | refine .u fun u hu hul => ?_ | refine .z fun zs hzs => ?_ | refine .mk (fun h => ?_) ?_ | refine .ms fun ms hms => ?_ | refine .s fun s hs hsl => ?_ | refine And.intro ?_ ?_) <;> cbv)
    (refine callG_spec0 O.ra (a, b, sent, acked, got) ⟨hfit, hA⟩ rfl rfl rfl ?_; try dsimp only)
    cbv; repeat' ((first | refine .e ?_ | refine .n fun h => ?_ | refine .y fun h => ?_ | refine .q fun z hz hz0 hz1 => ?_ | refine .mk (fun h => ?_) fun h => ?_ | refine .k fun z hz => ?_ | refine .o ?_ | refine .l fun ys hys hyl => ?_ | refine .zl fun zs hzs hzl => ?_ | refine .u fun u hu hul => ?_ | refine .z fun zs hzs => ?_ | refine .mk (fun h => ?_) ?_ | refine .ms fun ms hms => ?_ | refine .s fun s hs hsl => ?_ | refine And.intro ?_ ?_) <;> cbv)
    have hinv := newE_inv (a := ⟨#[112]⟩) (b := ⟨#[113]⟩) (by decide) (by decide)
    have hout : OutOk (newE ⟨#[112]⟩ ⟨#[113]⟩) := ⟨fun l hl => by simp [newE] at hl⟩
    (refine callG_new F.new (⟨#[112]⟩, ⟨#[113]⟩) ⟨⟨by decide, by decide⟩, by rfl⟩ rfl rfl ?_; try dsimp only)
    cbv; repeat' ((first | refine .e ?_ | refine .n fun h => ?_ | refine .y fun h => ?_ | refine .q fun z hz hz0 hz1 => ?_ | refine .mk (fun h => ?_) fun h => ?_ | refine .k fun z hz => ?_ | refine .o ?_ | refine .l fun ys hys hyl => ?_ | refine .zl fun zs hzs hzl => ?_ | refine .u fun u hu hul => ?_ | refine .z fun zs hzs => ?_ | refine .mk (fun h => ?_) ?_ | refine .ms fun ms hms => ?_ | refine .s fun s hs hsl => ?_ | refine And.intro ?_ ?_) <;> cbv)
    refine xloopG (Gh.le ([] ++ renH [0, 1, 2, 3] 0 (BothH (newE ⟨#[112]⟩ ⟨#[113]⟩))) (LeH.cons (LeE.refl _) (LeH.cons (LeE.refl _) (LeH.cons (LeE.refl _) (LeH.cons (LeE.blk (by repeat' (first | exact LeL.nil | exact LeL0.nil | exact LeH.nil | exact LeE.refl _ | exact Le.refl _ | exact Le0.one (.refl _) | exact Le0.one (.nil _) | exact Le1.refl _ | exact Le1.nil _ | refine LeH.cons ?_ ?_ | refine LeE.row ?_ | refine LeE.blk ?_ | refine LeL0.cons ?_ ?_ | refine LeL.cons ?_ ?_ | refine Le0.agg ?_ | refine Le.tup ?_ | exact Le.one (.one (.nil _)) | refine Le.one (.agg ?_)))) LeH.nil))))) ?_
    refine xloopV [] (fun p : { p : Nat × En // p.1 ≤ L.length ∧ InvE p.1 p.2 ∧ OutOk p.2 ∧ p.2.self = ⟨#[112]⟩ ∧ p.2.other = ⟨#[113]⟩ ∧ p.2.sent ≤ p.1 } => [(21, .i (nI p.1.1))]) (fun p => [] ++ renH [0, 1, 2, 3] 0 (BothH p.1.2)) (fun p => lft n p.1.1) ⟨(0, newE ⟨#[112]⟩ ⟨#[113]⟩), Nat.zero_le _, hinv, hout, rfl, rfl, Int.le_refl _⟩ ?_
    rintro ⟨⟨i, E⟩, hi, hE, hO, hs1, hs2, hs3⟩
    dsimp only at hi hE hO hs1 hs2 hs3
    have hform := of_form hE hO
    have hinv2 := ofE_inv hE
    obtain ⟨self, other, out, wait, sent0, got0, sure, owes⟩ := E
    dsimp only at hs1 hs2 hs3 hform hinv2
    subst hs1 hs2
    cbv; repeat' ((first | refine .e ?_ | refine .n fun h => ?_ | refine .y fun h => ?_ | refine .q fun z hz hz0 hz1 => ?_ | refine .mk (fun h => ?_) fun h => ?_ | refine .k fun z hz => ?_ | refine .o ?_ | refine .l fun ys hys hyl => ?_ | refine .zl fun zs hzs hzl => ?_ | refine .u fun u hu hul => ?_ | refine .z fun zs hzs => ?_ | refine .mk (fun h => ?_) ?_ | refine .ms fun ms hms => ?_ | refine .s fun s hs hsl => ?_ | refine And.intro ?_ ?_) <;> cbv)
    · have hil : i < L.length := by ((try simp only [vn] at *) <;> omega)
      obtain ⟨d, hg⟩ := some_at hil
      have hfit := fit_of (hnb d (mem_some hg)) (hints d (mem_some hg))
      obtain ⟨E', hE'⟩ : ∃ E', E' = stepE ⟨⟨#[112]⟩, ⟨#[113]⟩, out, wait, sent0, got0, sure, owes⟩ d := ⟨_, rfl⟩
      have hE2 := hE.step hfit
      have hO2 := hO.step d
      obtain ⟨q1, q2, q3⟩ := step_same ⟨⟨#[112]⟩, ⟨#[113]⟩, out, wait, sent0, got0, sure, owes⟩ d
      rw [← hE'] at hE2 hO2 q1 q2 q3
      obtain ⟨⟩ := E'
      dsimp only at q1 q2 q3
      obtain ⟨dk, l, dn⟩ := d
      obtain ⟨frm, to, number, kind, ack, deal, text, party, index, day, cur, amt, docs, boxes⟩ := l
      cbv; repeat' ((first | refine .e ?_ | refine .n fun h => ?_ | refine .y fun h => ?_ | refine .q fun z hz hz0 hz1 => ?_ | refine .mk (fun h => ?_) fun h => ?_ | refine .k fun z hz => ?_ | refine .o ?_ | refine .l fun ys hys hyl => ?_ | refine .zl fun zs hzs hzl => ?_ | refine .u fun u hu hul => ?_ | refine .z fun zs hzs => ?_ | refine .mk (fun h => ?_) ?_ | refine .ms fun ms hms => ?_ | refine .s fun s hs hsl => ?_ | refine And.intro ?_ ?_) <;> cbv)
      (refine callG_spec F.done (⟨⟨#[112]⟩, ⟨#[113]⟩, out, wait, sent0, got0, sure, owes⟩, i, ⟨dk, ⟨frm, to, number, kind, ack, deal, text, party, index, day, cur, amt, docs, boxes⟩, dn⟩) [0, 1, 2, 3] ⟨hE, hfit, by dsimp only; ((try simp only [vn] at *) <;> omega)⟩ rfl rfl (by decide) rfl rfl rfl rfl rfl ?_; try dsimp only)
      rw [← hE']
      cbv; repeat' ((first | refine .e ?_ | refine .n fun h => ?_ | refine .y fun h => ?_ | refine .q fun z hz hz0 hz1 => ?_ | refine .mk (fun h => ?_) fun h => ?_ | refine .k fun z hz => ?_ | refine .o ?_ | refine .l fun ys hys hyl => ?_ | refine .zl fun zs hzs hzl => ?_ | refine .u fun u hu hul => ?_ | refine .z fun zs hzs => ?_ | refine .mk (fun h => ?_) ?_ | refine .ms fun ms hms => ?_ | refine .s fun s hs hsl => ?_ | refine And.intro ?_ ?_) <;> cbv)
      obtain rfl := hz
      exact roundV ⟨(i + 1, ⟨_, _, _, _, _, _, _, _⟩), hil, hE2, hO2, q1, q2, by dsimp only; ((try simp only [vn] at *) <;> omega)⟩ (lft_lt (by ((try simp only [vn] at *) <;> omega)))
    · obtain ⟨q, hq⟩ : ∃ q, q = sent0 - (out.length : Int) := ⟨_, rfl⟩
      rw [← hq] at hform hinv2
      have e5 : ofE ⟨#[112]⟩ ⟨#[113]⟩ out q got0 = ⟨⟨#[112]⟩, ⟨#[113]⟩, out, [], sent0, got0, got0, false⟩ := by rw [ofE, hq]; congr 1; omega
      rw [e5] at hinv2
      have w0 := hE.sent0
      have w1 := hE.gotM
      have w2 := hE.got0
      have w3 := hE.outL
      have w4 := hE.outS
      dsimp only at w0 w1 w2 w3 w4
      (refine callG_spec hparts (⟨⟨#[112]⟩, ⟨#[113]⟩, out, wait, sent0, got0, sure, owes⟩, i, q) [0, 1, 2] ⟨hE, hq⟩ rfl rfl (by decide) rfl rfl rfl rfl rfl ?_; try dsimp only)
      cbv; repeat' ((first | refine .e ?_ | refine .n fun h => ?_ | refine .y fun h => ?_ | refine .q fun z hz hz0 hz1 => ?_ | refine .mk (fun h => ?_) fun h => ?_ | refine .k fun z hz => ?_ | refine .o ?_ | refine .l fun ys hys hyl => ?_ | refine .zl fun zs hzs hzl => ?_ | refine .u fun u hu hul => ?_ | refine .z fun zs hzs => ?_ | refine .mk (fun h => ?_) ?_ | refine .ms fun ms hms => ?_ | refine .s fun s hs hsl => ?_ | refine And.intro ?_ ?_) <;> cbv)
      (refine callG_new O.c (⟨#[112]⟩, ⟨#[113]⟩, out, q, got0) ⟨⟨by dsimp only; decide, by dsimp only; decide, by dsimp only; omega, w4⟩, fun hh => by (obtain hh | hh := hh; (· exact absurd hh (by dsimp only; decide)); dsimp only at hh; ((try simp only [vn] at *) <;> omega)), fun ⟨k, hk, hf⟩ => hform k hk hf⟩ rfl rfl ?_; try dsimp only)
      rw [e5]
      cbv; repeat' ((first | refine .e ?_ | refine .n fun h => ?_ | refine .y fun h => ?_ | refine .q fun z hz hz0 hz1 => ?_ | refine .mk (fun h => ?_) fun h => ?_ | refine .k fun z hz => ?_ | refine .o ?_ | refine .l fun ys hys hyl => ?_ | refine .zl fun zs hzs hzl => ?_ | refine .u fun u hu hul => ?_ | refine .z fun zs hzs => ?_ | refine .mk (fun h => ?_) ?_ | refine .ms fun ms hms => ?_ | refine .s fun s hs hsl => ?_ | refine And.intro ?_ ?_) <;> cbv)
      refine xloopG (Gh.le ([] ++ renH [0, 1, 2, 3] 0 (BothH ⟨⟨#[112]⟩, ⟨#[113]⟩, out, wait, sent0, got0, sure, owes⟩) ++ renH [4, 5, 6, 7] 0 (BothH ⟨⟨#[112]⟩, ⟨#[113]⟩, out, [], sent0, got0, got0, false⟩)) (LeH.cons (LeE.refl _) (LeH.cons (LeE.refl _) (LeH.cons (LeE.refl _) (LeH.cons (LeE.refl _) (LeH.cons (LeE.refl _) (LeH.cons (LeE.refl _) (LeH.cons (LeE.refl _) (LeH.cons (LeE.blk (by repeat' (first | exact LeL.nil | exact LeL0.nil | exact LeH.nil | exact LeE.refl _ | exact Le.refl _ | exact Le0.one (.refl _) | exact Le0.one (.nil _) | exact Le1.refl _ | exact Le1.nil _ | refine LeH.cons ?_ ?_ | refine LeE.row ?_ | refine LeE.blk ?_ | refine LeL0.cons ?_ ?_ | refine LeL.cons ?_ ?_ | refine Le0.agg ?_ | refine Le.tup ?_ | exact Le.one (.one (.nil _)) | refine Le.one (.agg ?_)))) LeH.nil))))))))) ?_
      refine xloopV [] (fun p : { p : Nat × En // p.1 ≤ L2.length ∧ InvE (i + p.1) p.2 } => [(28, .i (nI p.1.1))]) (fun p => [] ++ renH [0, 1, 2, 3] 0 (BothH ⟨⟨#[112]⟩, ⟨#[113]⟩, out, wait, sent0, got0, sure, owes⟩) ++ renH [4, 5, 6, 7] 0 (BothH p.1.2)) (fun p => lft n2 p.1.1) ⟨(0, ⟨⟨#[112]⟩, ⟨#[113]⟩, out, [], sent0, got0, got0, false⟩), Nat.zero_le _, hinv2⟩ ?_
      rintro ⟨⟨j, E⟩, hj, hEj⟩
      dsimp only at hj hEj
      obtain ⟨selfj, otherj, outj, waitj, sentj, gotj, surej, owesj⟩ := E
      cbv; repeat' ((first | refine .e ?_ | refine .n fun h => ?_ | refine .y fun h => ?_ | refine .q fun z hz hz0 hz1 => ?_ | refine .mk (fun h => ?_) fun h => ?_ | refine .k fun z hz => ?_ | refine .o ?_ | refine .l fun ys hys hyl => ?_ | refine .zl fun zs hzs hzl => ?_ | refine .u fun u hu hul => ?_ | refine .z fun zs hzs => ?_ | refine .mk (fun h => ?_) ?_ | refine .ms fun ms hms => ?_ | refine .s fun s hs hsl => ?_ | refine And.intro ?_ ?_) <;> cbv)
      · have hjl : j < L2.length := by ((try simp only [vn] at *) <;> omega)
        obtain ⟨d, hg⟩ := some_at hjl
        have hfit := fit_of (hnb2 d (mem_some hg)) (hints2 d (mem_some hg))
        obtain ⟨E', hE'⟩ : ∃ E', E' = stepE ⟨selfj, otherj, outj, waitj, sentj, gotj, surej, owesj⟩ d := ⟨_, rfl⟩
        have hE2 := hEj.step hfit
        rw [← hE'] at hE2
        obtain ⟨⟩ := E'
        obtain ⟨dk, l, dn⟩ := d
        obtain ⟨frm, to, number, kind, ack, deal, text, party, index, day, cur, amt, docs, boxes⟩ := l
        cbv; repeat' ((first | refine .e ?_ | refine .n fun h => ?_ | refine .y fun h => ?_ | refine .q fun z hz hz0 hz1 => ?_ | refine .mk (fun h => ?_) fun h => ?_ | refine .k fun z hz => ?_ | refine .o ?_ | refine .l fun ys hys hyl => ?_ | refine .zl fun zs hzs hzl => ?_ | refine .u fun u hu hul => ?_ | refine .z fun zs hzs => ?_ | refine .mk (fun h => ?_) ?_ | refine .ms fun ms hms => ?_ | refine .s fun s hs hsl => ?_ | refine And.intro ?_ ?_) <;> cbv)
        (refine callG_spec F.done (⟨selfj, otherj, outj, waitj, sentj, gotj, surej, owesj⟩, i + j, ⟨dk, ⟨frm, to, number, kind, ack, deal, text, party, index, day, cur, amt, docs, boxes⟩, dn⟩) [4, 5, 6, 7] ⟨hEj, hfit, by dsimp only; ((try simp only [vn] at *) <;> omega)⟩ rfl rfl (by decide) rfl rfl rfl rfl rfl ?_; try dsimp only)
        rw [← hE']
        cbv; repeat' ((first | refine .e ?_ | refine .n fun h => ?_ | refine .y fun h => ?_ | refine .q fun z hz hz0 hz1 => ?_ | refine .mk (fun h => ?_) fun h => ?_ | refine .k fun z hz => ?_ | refine .o ?_ | refine .l fun ys hys hyl => ?_ | refine .zl fun zs hzs hzl => ?_ | refine .u fun u hu hul => ?_ | refine .z fun zs hzs => ?_ | refine .mk (fun h => ?_) ?_ | refine .ms fun ms hms => ?_ | refine .s fun s hs hsl => ?_ | refine And.intro ?_ ?_) <;> cbv)
        (refine callG_spec F.even (⟨_, _, _, _, _, _, _, _⟩, i + j + 1) [4, 5, 6, 7] hE2 rfl rfl (by decide) rfl rfl rfl rfl rfl ?_; try dsimp only)
        cbv; repeat' ((first | refine .e ?_ | refine .n fun h => ?_ | refine .y fun h => ?_ | refine .q fun z hz hz0 hz1 => ?_ | refine .mk (fun h => ?_) fun h => ?_ | refine .k fun z hz => ?_ | refine .o ?_ | refine .l fun ys hys hyl => ?_ | refine .zl fun zs hzs hzl => ?_ | refine .u fun u hu hul => ?_ | refine .z fun zs hzs => ?_ | refine .mk (fun h => ?_) ?_ | refine .ms fun ms hms => ?_ | refine .s fun s hs hsl => ?_ | refine And.intro ?_ ?_) <;> cbv)
        obtain rfl := hz
        exact roundV ⟨(j + 1, ⟨_, _, _, _, _, _, _, _⟩), hjl, hE2⟩ (lft_lt (by ((try simp only [vn] at *) <;> omega)))
      · (refine callG_spec F.even (⟨⟨#[112]⟩, ⟨#[113]⟩, out, wait, sent0, got0, sure, owes⟩, i) [0, 1, 2, 3] hE rfl rfl (by decide) rfl rfl rfl rfl rfl ?_; try dsimp only)
        cbv; repeat' ((first | refine .e ?_ | refine .n fun h => ?_ | refine .y fun h => ?_ | refine .q fun z hz hz0 hz1 => ?_ | refine .mk (fun h => ?_) fun h => ?_ | refine .k fun z hz => ?_ | refine .o ?_ | refine .l fun ys hys hyl => ?_ | refine .zl fun zs hzs hzl => ?_ | refine .u fun u hu hul => ?_ | refine .z fun zs hzs => ?_ | refine .mk (fun h => ?_) ?_ | refine .ms fun ms hms => ?_ | refine .s fun s hs hsl => ?_ | refine And.intro ?_ ?_) <;> cbv)
        exact FinK.mk ⟨_, Gh.refl _, .inl (CutK.val rfl (Le.refl _) hK)⟩
  by_cases hB : ofB (a, b, sent, acked, got)
  · (refine callG_spec0 O.b (a, b, sent, acked, got) ⟨hfit, hA, hB⟩ rfl rfl rfl ?_; try dsimp only)
    cbv; repeat' ((first | refine .e ?_ | refine .n fun h => ?_ | refine .y fun h => ?_ | refine .q fun z hz hz0 hz1 => ?_ | refine .mk (fun h => ?_) fun h => ?_ | refine .k fun z hz => ?_ | refine .o ?_ | refine .l fun ys hys hyl => ?_ | refine .zl fun zs hzs hzl => ?_ | refine .u fun u hu hul => ?_ | refine .z fun zs hzs => ?_ | refine .mk (fun h => ?_) ?_ | refine .ms fun ms hms => ?_ | refine .s fun s hs hsl => ?_ | refine And.intro ?_ ?_) <;> cbv)
    (refine callG_spec0 O.rb (a, b, sent, acked, got) ⟨hfit, hA, hB⟩ rfl rfl rfl ?_; try dsimp only)
    cbv; repeat' ((first | refine .e ?_ | refine .n fun h => ?_ | refine .y fun h => ?_ | refine .q fun z hz hz0 hz1 => ?_ | refine .mk (fun h => ?_) fun h => ?_ | refine .k fun z hz => ?_ | refine .o ?_ | refine .l fun ys hys hyl => ?_ | refine .zl fun zs hzs hzl => ?_ | refine .u fun u hu hul => ?_ | refine .z fun zs hzs => ?_ | refine .mk (fun h => ?_) ?_ | refine .ms fun ms hms => ?_ | refine .s fun s hs hsl => ?_ | refine And.intro ?_ ?_) <;> cbv)
    have hinv := newE_inv (a := ⟨#[112]⟩) (b := ⟨#[113]⟩) (by decide) (by decide)
    have hout : OutOk (newE ⟨#[112]⟩ ⟨#[113]⟩) := ⟨fun l hl => by simp [newE] at hl⟩
    (refine callG_new F.new (⟨#[112]⟩, ⟨#[113]⟩) ⟨⟨by decide, by decide⟩, by rfl⟩ rfl rfl ?_; try dsimp only)
    cbv; repeat' ((first | refine .e ?_ | refine .n fun h => ?_ | refine .y fun h => ?_ | refine .q fun z hz hz0 hz1 => ?_ | refine .mk (fun h => ?_) fun h => ?_ | refine .k fun z hz => ?_ | refine .o ?_ | refine .l fun ys hys hyl => ?_ | refine .zl fun zs hzs hzl => ?_ | refine .u fun u hu hul => ?_ | refine .z fun zs hzs => ?_ | refine .mk (fun h => ?_) ?_ | refine .ms fun ms hms => ?_ | refine .s fun s hs hsl => ?_ | refine And.intro ?_ ?_) <;> cbv)
    refine xloopG (Gh.le ([] ++ renH [0, 1, 2, 3] 0 (BothH (newE ⟨#[112]⟩ ⟨#[113]⟩))) (LeH.cons (LeE.refl _) (LeH.cons (LeE.refl _) (LeH.cons (LeE.refl _) (LeH.cons (LeE.blk (by repeat' (first | exact LeL.nil | exact LeL0.nil | exact LeH.nil | exact LeE.refl _ | exact Le.refl _ | exact Le0.one (.refl _) | exact Le0.one (.nil _) | exact Le1.refl _ | exact Le1.nil _ | refine LeH.cons ?_ ?_ | refine LeE.row ?_ | refine LeE.blk ?_ | refine LeL0.cons ?_ ?_ | refine LeL.cons ?_ ?_ | refine Le0.agg ?_ | refine Le.tup ?_ | exact Le.one (.one (.nil _)) | refine Le.one (.agg ?_)))) LeH.nil))))) ?_
    refine xloopV [] (fun p : { p : Nat × En // p.1 ≤ L.length ∧ InvE p.1 p.2 ∧ OutOk p.2 ∧ p.2.self = ⟨#[112]⟩ ∧ p.2.other = ⟨#[113]⟩ ∧ p.2.sent ≤ p.1 } => [(21, .i (nI p.1.1))]) (fun p => [] ++ renH [0, 1, 2, 3] 0 (BothH p.1.2)) (fun p => lft n p.1.1) ⟨(0, newE ⟨#[112]⟩ ⟨#[113]⟩), Nat.zero_le _, hinv, hout, rfl, rfl, Int.le_refl _⟩ ?_
    rintro ⟨⟨i, E⟩, hi, hE, hO, hs1, hs2, hs3⟩
    dsimp only at hi hE hO hs1 hs2 hs3
    have hform := of_form hE hO
    have hinv2 := ofE_inv hE
    obtain ⟨self, other, out, wait, sent0, got0, sure, owes⟩ := E
    dsimp only at hs1 hs2 hs3 hform hinv2
    subst hs1 hs2
    cbv; repeat' ((first | refine .e ?_ | refine .n fun h => ?_ | refine .y fun h => ?_ | refine .q fun z hz hz0 hz1 => ?_ | refine .mk (fun h => ?_) fun h => ?_ | refine .k fun z hz => ?_ | refine .o ?_ | refine .l fun ys hys hyl => ?_ | refine .zl fun zs hzs hzl => ?_ | refine .u fun u hu hul => ?_ | refine .z fun zs hzs => ?_ | refine .mk (fun h => ?_) ?_ | refine .ms fun ms hms => ?_ | refine .s fun s hs hsl => ?_ | refine And.intro ?_ ?_) <;> cbv)
    · have hil : i < L.length := by ((try simp only [vn] at *) <;> omega)
      obtain ⟨d, hg⟩ := some_at hil
      have hfit := fit_of (hnb d (mem_some hg)) (hints d (mem_some hg))
      obtain ⟨E', hE'⟩ : ∃ E', E' = stepE ⟨⟨#[112]⟩, ⟨#[113]⟩, out, wait, sent0, got0, sure, owes⟩ d := ⟨_, rfl⟩
      have hE2 := hE.step hfit
      have hO2 := hO.step d
      obtain ⟨q1, q2, q3⟩ := step_same ⟨⟨#[112]⟩, ⟨#[113]⟩, out, wait, sent0, got0, sure, owes⟩ d
      rw [← hE'] at hE2 hO2 q1 q2 q3
      obtain ⟨⟩ := E'
      dsimp only at q1 q2 q3
      obtain ⟨dk, l, dn⟩ := d
      obtain ⟨frm, to, number, kind, ack, deal, text, party, index, day, cur, amt, docs, boxes⟩ := l
      cbv; repeat' ((first | refine .e ?_ | refine .n fun h => ?_ | refine .y fun h => ?_ | refine .q fun z hz hz0 hz1 => ?_ | refine .mk (fun h => ?_) fun h => ?_ | refine .k fun z hz => ?_ | refine .o ?_ | refine .l fun ys hys hyl => ?_ | refine .zl fun zs hzs hzl => ?_ | refine .u fun u hu hul => ?_ | refine .z fun zs hzs => ?_ | refine .mk (fun h => ?_) ?_ | refine .ms fun ms hms => ?_ | refine .s fun s hs hsl => ?_ | refine And.intro ?_ ?_) <;> cbv)
      (refine callG_spec F.done (⟨⟨#[112]⟩, ⟨#[113]⟩, out, wait, sent0, got0, sure, owes⟩, i, ⟨dk, ⟨frm, to, number, kind, ack, deal, text, party, index, day, cur, amt, docs, boxes⟩, dn⟩) [0, 1, 2, 3] ⟨hE, hfit, by dsimp only; ((try simp only [vn] at *) <;> omega)⟩ rfl rfl (by decide) rfl rfl rfl rfl rfl ?_; try dsimp only)
      rw [← hE']
      cbv; repeat' ((first | refine .e ?_ | refine .n fun h => ?_ | refine .y fun h => ?_ | refine .q fun z hz hz0 hz1 => ?_ | refine .mk (fun h => ?_) fun h => ?_ | refine .k fun z hz => ?_ | refine .o ?_ | refine .l fun ys hys hyl => ?_ | refine .zl fun zs hzs hzl => ?_ | refine .u fun u hu hul => ?_ | refine .z fun zs hzs => ?_ | refine .mk (fun h => ?_) ?_ | refine .ms fun ms hms => ?_ | refine .s fun s hs hsl => ?_ | refine And.intro ?_ ?_) <;> cbv)
      obtain rfl := hz
      exact roundV ⟨(i + 1, ⟨_, _, _, _, _, _, _, _⟩), hil, hE2, hO2, q1, q2, by dsimp only; ((try simp only [vn] at *) <;> omega)⟩ (lft_lt (by ((try simp only [vn] at *) <;> omega)))
    · obtain ⟨q, hq⟩ : ∃ q, q = sent0 - (out.length : Int) := ⟨_, rfl⟩
      rw [← hq] at hform hinv2
      have e5 : ofE ⟨#[112]⟩ ⟨#[113]⟩ out q got0 = ⟨⟨#[112]⟩, ⟨#[113]⟩, out, [], sent0, got0, got0, false⟩ := by rw [ofE, hq]; congr 1; omega
      rw [e5] at hinv2
      have w0 := hE.sent0
      have w1 := hE.gotM
      have w2 := hE.got0
      have w3 := hE.outL
      have w4 := hE.outS
      dsimp only at w0 w1 w2 w3 w4
      (refine callG_spec hparts (⟨⟨#[112]⟩, ⟨#[113]⟩, out, wait, sent0, got0, sure, owes⟩, i, q) [0, 1, 2] ⟨hE, hq⟩ rfl rfl (by decide) rfl rfl rfl rfl rfl ?_; try dsimp only)
      cbv; repeat' ((first | refine .e ?_ | refine .n fun h => ?_ | refine .y fun h => ?_ | refine .q fun z hz hz0 hz1 => ?_ | refine .mk (fun h => ?_) fun h => ?_ | refine .k fun z hz => ?_ | refine .o ?_ | refine .l fun ys hys hyl => ?_ | refine .zl fun zs hzs hzl => ?_ | refine .u fun u hu hul => ?_ | refine .z fun zs hzs => ?_ | refine .mk (fun h => ?_) ?_ | refine .ms fun ms hms => ?_ | refine .s fun s hs hsl => ?_ | refine And.intro ?_ ?_) <;> cbv)
      (refine callG_new O.c (⟨#[112]⟩, ⟨#[113]⟩, out, q, got0) ⟨⟨by dsimp only; decide, by dsimp only; decide, by dsimp only; omega, w4⟩, fun hh => by (obtain hh | hh := hh; (· exact absurd hh (by dsimp only; decide)); dsimp only at hh; ((try simp only [vn] at *) <;> omega)), fun ⟨k, hk, hf⟩ => hform k hk hf⟩ rfl rfl ?_; try dsimp only)
      rw [e5]
      cbv; repeat' ((first | refine .e ?_ | refine .n fun h => ?_ | refine .y fun h => ?_ | refine .q fun z hz hz0 hz1 => ?_ | refine .mk (fun h => ?_) fun h => ?_ | refine .k fun z hz => ?_ | refine .o ?_ | refine .l fun ys hys hyl => ?_ | refine .zl fun zs hzs hzl => ?_ | refine .u fun u hu hul => ?_ | refine .z fun zs hzs => ?_ | refine .mk (fun h => ?_) ?_ | refine .ms fun ms hms => ?_ | refine .s fun s hs hsl => ?_ | refine And.intro ?_ ?_) <;> cbv)
      refine xloopG (Gh.le ([] ++ renH [0, 1, 2, 3] 0 (BothH ⟨⟨#[112]⟩, ⟨#[113]⟩, out, wait, sent0, got0, sure, owes⟩) ++ renH [4, 5, 6, 7] 0 (BothH ⟨⟨#[112]⟩, ⟨#[113]⟩, out, [], sent0, got0, got0, false⟩)) (LeH.cons (LeE.refl _) (LeH.cons (LeE.refl _) (LeH.cons (LeE.refl _) (LeH.cons (LeE.refl _) (LeH.cons (LeE.refl _) (LeH.cons (LeE.refl _) (LeH.cons (LeE.refl _) (LeH.cons (LeE.blk (by repeat' (first | exact LeL.nil | exact LeL0.nil | exact LeH.nil | exact LeE.refl _ | exact Le.refl _ | exact Le0.one (.refl _) | exact Le0.one (.nil _) | exact Le1.refl _ | exact Le1.nil _ | refine LeH.cons ?_ ?_ | refine LeE.row ?_ | refine LeE.blk ?_ | refine LeL0.cons ?_ ?_ | refine LeL.cons ?_ ?_ | refine Le0.agg ?_ | refine Le.tup ?_ | exact Le.one (.one (.nil _)) | refine Le.one (.agg ?_)))) LeH.nil))))))))) ?_
      refine xloopV [] (fun p : { p : Nat × En // p.1 ≤ L2.length ∧ InvE (i + p.1) p.2 } => [(28, .i (nI p.1.1))]) (fun p => [] ++ renH [0, 1, 2, 3] 0 (BothH ⟨⟨#[112]⟩, ⟨#[113]⟩, out, wait, sent0, got0, sure, owes⟩) ++ renH [4, 5, 6, 7] 0 (BothH p.1.2)) (fun p => lft n2 p.1.1) ⟨(0, ⟨⟨#[112]⟩, ⟨#[113]⟩, out, [], sent0, got0, got0, false⟩), Nat.zero_le _, hinv2⟩ ?_
      rintro ⟨⟨j, E⟩, hj, hEj⟩
      dsimp only at hj hEj
      obtain ⟨selfj, otherj, outj, waitj, sentj, gotj, surej, owesj⟩ := E
      cbv; repeat' ((first | refine .e ?_ | refine .n fun h => ?_ | refine .y fun h => ?_ | refine .q fun z hz hz0 hz1 => ?_ | refine .mk (fun h => ?_) fun h => ?_ | refine .k fun z hz => ?_ | refine .o ?_ | refine .l fun ys hys hyl => ?_ | refine .zl fun zs hzs hzl => ?_ | refine .u fun u hu hul => ?_ | refine .z fun zs hzs => ?_ | refine .mk (fun h => ?_) ?_ | refine .ms fun ms hms => ?_ | refine .s fun s hs hsl => ?_ | refine And.intro ?_ ?_) <;> cbv)
      · have hjl : j < L2.length := by ((try simp only [vn] at *) <;> omega)
        obtain ⟨d, hg⟩ := some_at hjl
        have hfit := fit_of (hnb2 d (mem_some hg)) (hints2 d (mem_some hg))
        obtain ⟨E', hE'⟩ : ∃ E', E' = stepE ⟨selfj, otherj, outj, waitj, sentj, gotj, surej, owesj⟩ d := ⟨_, rfl⟩
        have hE2 := hEj.step hfit
        rw [← hE'] at hE2
        obtain ⟨⟩ := E'
        obtain ⟨dk, l, dn⟩ := d
        obtain ⟨frm, to, number, kind, ack, deal, text, party, index, day, cur, amt, docs, boxes⟩ := l
        cbv; repeat' ((first | refine .e ?_ | refine .n fun h => ?_ | refine .y fun h => ?_ | refine .q fun z hz hz0 hz1 => ?_ | refine .mk (fun h => ?_) fun h => ?_ | refine .k fun z hz => ?_ | refine .o ?_ | refine .l fun ys hys hyl => ?_ | refine .zl fun zs hzs hzl => ?_ | refine .u fun u hu hul => ?_ | refine .z fun zs hzs => ?_ | refine .mk (fun h => ?_) ?_ | refine .ms fun ms hms => ?_ | refine .s fun s hs hsl => ?_ | refine And.intro ?_ ?_) <;> cbv)
        (refine callG_spec F.done (⟨selfj, otherj, outj, waitj, sentj, gotj, surej, owesj⟩, i + j, ⟨dk, ⟨frm, to, number, kind, ack, deal, text, party, index, day, cur, amt, docs, boxes⟩, dn⟩) [4, 5, 6, 7] ⟨hEj, hfit, by dsimp only; ((try simp only [vn] at *) <;> omega)⟩ rfl rfl (by decide) rfl rfl rfl rfl rfl ?_; try dsimp only)
        rw [← hE']
        cbv; repeat' ((first | refine .e ?_ | refine .n fun h => ?_ | refine .y fun h => ?_ | refine .q fun z hz hz0 hz1 => ?_ | refine .mk (fun h => ?_) fun h => ?_ | refine .k fun z hz => ?_ | refine .o ?_ | refine .l fun ys hys hyl => ?_ | refine .zl fun zs hzs hzl => ?_ | refine .u fun u hu hul => ?_ | refine .z fun zs hzs => ?_ | refine .mk (fun h => ?_) ?_ | refine .ms fun ms hms => ?_ | refine .s fun s hs hsl => ?_ | refine And.intro ?_ ?_) <;> cbv)
        (refine callG_spec F.even (⟨_, _, _, _, _, _, _, _⟩, i + j + 1) [4, 5, 6, 7] hE2 rfl rfl (by decide) rfl rfl rfl rfl rfl ?_; try dsimp only)
        cbv; repeat' ((first | refine .e ?_ | refine .n fun h => ?_ | refine .y fun h => ?_ | refine .q fun z hz hz0 hz1 => ?_ | refine .mk (fun h => ?_) fun h => ?_ | refine .k fun z hz => ?_ | refine .o ?_ | refine .l fun ys hys hyl => ?_ | refine .zl fun zs hzs hzl => ?_ | refine .u fun u hu hul => ?_ | refine .z fun zs hzs => ?_ | refine .mk (fun h => ?_) ?_ | refine .ms fun ms hms => ?_ | refine .s fun s hs hsl => ?_ | refine And.intro ?_ ?_) <;> cbv)
        obtain rfl := hz
        exact roundV ⟨(j + 1, ⟨_, _, _, _, _, _, _, _⟩), hjl, hE2⟩ (lft_lt (by ((try simp only [vn] at *) <;> omega)))
      · (refine callG_spec F.even (⟨⟨#[112]⟩, ⟨#[113]⟩, out, wait, sent0, got0, sure, owes⟩, i) [0, 1, 2, 3] hE rfl rfl (by decide) rfl rfl rfl rfl rfl ?_; try dsimp only)
        cbv; repeat' ((first | refine .e ?_ | refine .n fun h => ?_ | refine .y fun h => ?_ | refine .q fun z hz hz0 hz1 => ?_ | refine .mk (fun h => ?_) fun h => ?_ | refine .k fun z hz => ?_ | refine .o ?_ | refine .l fun ys hys hyl => ?_ | refine .zl fun zs hzs hzl => ?_ | refine .u fun u hu hul => ?_ | refine .z fun zs hzs => ?_ | refine .mk (fun h => ?_) ?_ | refine .ms fun ms hms => ?_ | refine .s fun s hs hsl => ?_ | refine And.intro ?_ ?_) <;> cbv)
        exact FinK.mk ⟨_, Gh.refl _, .inl (CutK.val rfl (Le.refl _) hK)⟩
  · obtain ⟨sx, hsx⟩ : ∃ sx, sx = acked + (sent.length : Int) := ⟨_, rfl⟩
    have e0 : ofE a b sent acked got = ⟨a, b, sent, [], sx, got, got, false⟩ := by rw [ofE, hsx]
    (refine callG_new O.c (a, b, sent, acked, got) ⟨hfit, hA, hB⟩ rfl rfl ?_; try dsimp only)
    rw [e0]
    cbv; repeat' ((first | refine .e ?_ | refine .n fun h => ?_ | refine .y fun h => ?_ | refine .q fun z hz hz0 hz1 => ?_ | refine .mk (fun h => ?_) fun h => ?_ | refine .k fun z hz => ?_ | refine .o ?_ | refine .l fun ys hys hyl => ?_ | refine .zl fun zs hzs hzl => ?_ | refine .u fun u hu hul => ?_ | refine .z fun zs hzs => ?_ | refine .mk (fun h => ?_) ?_ | refine .ms fun ms hms => ?_ | refine .s fun s hs hsl => ?_ | refine And.intro ?_ ?_) <;> cbv)
    (refine callG_spec0 O.rc (a, b, sent, acked, got) ⟨hfit, hA, hB⟩ rfl rfl rfl ?_; try dsimp only)
    cbv; repeat' ((first | refine .e ?_ | refine .n fun h => ?_ | refine .y fun h => ?_ | refine .q fun z hz hz0 hz1 => ?_ | refine .mk (fun h => ?_) fun h => ?_ | refine .k fun z hz => ?_ | refine .o ?_ | refine .l fun ys hys hyl => ?_ | refine .zl fun zs hzs hzl => ?_ | refine .u fun u hu hul => ?_ | refine .z fun zs hzs => ?_ | refine .mk (fun h => ?_) ?_ | refine .ms fun ms hms => ?_ | refine .s fun s hs hsl => ?_ | refine And.intro ?_ ?_) <;> cbv)
    have hinv := newE_inv (a := ⟨#[112]⟩) (b := ⟨#[113]⟩) (by decide) (by decide)
    have hout : OutOk (newE ⟨#[112]⟩ ⟨#[113]⟩) := ⟨fun l hl => by simp [newE] at hl⟩
    (refine callG_new F.new (⟨#[112]⟩, ⟨#[113]⟩) ⟨⟨by decide, by decide⟩, by rfl⟩ rfl rfl ?_; try dsimp only)
    cbv; repeat' ((first | refine .e ?_ | refine .n fun h => ?_ | refine .y fun h => ?_ | refine .q fun z hz hz0 hz1 => ?_ | refine .mk (fun h => ?_) fun h => ?_ | refine .k fun z hz => ?_ | refine .o ?_ | refine .l fun ys hys hyl => ?_ | refine .zl fun zs hzs hzl => ?_ | refine .u fun u hu hul => ?_ | refine .z fun zs hzs => ?_ | refine .mk (fun h => ?_) ?_ | refine .ms fun ms hms => ?_ | refine .s fun s hs hsl => ?_ | refine And.intro ?_ ?_) <;> cbv)
    refine xloopG (Gh.le (EndH ⟨a, b, sent, [], sx, got, got, false⟩ ++ renH [3, 4, 5, 6] 0 (BothH (newE ⟨#[112]⟩ ⟨#[113]⟩))) (LeH.cons (LeE.refl _) (LeH.cons (LeE.refl _) (LeH.cons (LeE.refl _) (LeH.cons (LeE.refl _) (LeH.cons (LeE.refl _) (LeH.cons (LeE.refl _) (LeH.cons (LeE.blk (by repeat' (first | exact LeL.nil | exact LeL0.nil | exact LeH.nil | exact LeE.refl _ | exact Le.refl _ | exact Le0.one (.refl _) | exact Le0.one (.nil _) | exact Le1.refl _ | exact Le1.nil _ | refine LeH.cons ?_ ?_ | refine LeE.row ?_ | refine LeE.blk ?_ | refine LeL0.cons ?_ ?_ | refine LeL.cons ?_ ?_ | refine Le0.agg ?_ | refine Le.tup ?_ | exact Le.one (.one (.nil _)) | refine Le.one (.agg ?_)))) LeH.nil)))))))) ?_
    refine xloopV [] (fun p : { p : Nat × En // p.1 ≤ L.length ∧ InvE p.1 p.2 ∧ OutOk p.2 ∧ p.2.self = ⟨#[112]⟩ ∧ p.2.other = ⟨#[113]⟩ ∧ p.2.sent ≤ p.1 } => [(21, .i (nI p.1.1))]) (fun p => EndH ⟨a, b, sent, [], sx, got, got, false⟩ ++ renH [3, 4, 5, 6] 0 (BothH p.1.2)) (fun p => lft n p.1.1) ⟨(0, newE ⟨#[112]⟩ ⟨#[113]⟩), Nat.zero_le _, hinv, hout, rfl, rfl, Int.le_refl _⟩ ?_
    rintro ⟨⟨i, E⟩, hi, hE, hO, hs1, hs2, hs3⟩
    dsimp only at hi hE hO hs1 hs2 hs3
    have hform := of_form hE hO
    have hinv2 := ofE_inv hE
    obtain ⟨self, other, out, wait, sent0, got0, sure, owes⟩ := E
    dsimp only at hs1 hs2 hs3 hform hinv2
    subst hs1 hs2
    cbv; repeat' ((first | refine .e ?_ | refine .n fun h => ?_ | refine .y fun h => ?_ | refine .q fun z hz hz0 hz1 => ?_ | refine .mk (fun h => ?_) fun h => ?_ | refine .k fun z hz => ?_ | refine .o ?_ | refine .l fun ys hys hyl => ?_ | refine .zl fun zs hzs hzl => ?_ | refine .u fun u hu hul => ?_ | refine .z fun zs hzs => ?_ | refine .mk (fun h => ?_) ?_ | refine .ms fun ms hms => ?_ | refine .s fun s hs hsl => ?_ | refine And.intro ?_ ?_) <;> cbv)
    · have hil : i < L.length := by ((try simp only [vn] at *) <;> omega)
      obtain ⟨d, hg⟩ := some_at hil
      have hfit := fit_of (hnb d (mem_some hg)) (hints d (mem_some hg))
      obtain ⟨E', hE'⟩ : ∃ E', E' = stepE ⟨⟨#[112]⟩, ⟨#[113]⟩, out, wait, sent0, got0, sure, owes⟩ d := ⟨_, rfl⟩
      have hE2 := hE.step hfit
      have hO2 := hO.step d
      obtain ⟨q1, q2, q3⟩ := step_same ⟨⟨#[112]⟩, ⟨#[113]⟩, out, wait, sent0, got0, sure, owes⟩ d
      rw [← hE'] at hE2 hO2 q1 q2 q3
      obtain ⟨⟩ := E'
      dsimp only at q1 q2 q3
      obtain ⟨dk, l, dn⟩ := d
      obtain ⟨frm, to, number, kind, ack, deal, text, party, index, day, cur, amt, docs, boxes⟩ := l
      cbv; repeat' ((first | refine .e ?_ | refine .n fun h => ?_ | refine .y fun h => ?_ | refine .q fun z hz hz0 hz1 => ?_ | refine .mk (fun h => ?_) fun h => ?_ | refine .k fun z hz => ?_ | refine .o ?_ | refine .l fun ys hys hyl => ?_ | refine .zl fun zs hzs hzl => ?_ | refine .u fun u hu hul => ?_ | refine .z fun zs hzs => ?_ | refine .mk (fun h => ?_) ?_ | refine .ms fun ms hms => ?_ | refine .s fun s hs hsl => ?_ | refine And.intro ?_ ?_) <;> cbv)
      (refine callG_spec F.done (⟨⟨#[112]⟩, ⟨#[113]⟩, out, wait, sent0, got0, sure, owes⟩, i, ⟨dk, ⟨frm, to, number, kind, ack, deal, text, party, index, day, cur, amt, docs, boxes⟩, dn⟩) [3, 4, 5, 6] ⟨hE, hfit, by dsimp only; ((try simp only [vn] at *) <;> omega)⟩ rfl rfl (by decide) rfl rfl rfl rfl rfl ?_; try dsimp only)
      rw [← hE']
      cbv; repeat' ((first | refine .e ?_ | refine .n fun h => ?_ | refine .y fun h => ?_ | refine .q fun z hz hz0 hz1 => ?_ | refine .mk (fun h => ?_) fun h => ?_ | refine .k fun z hz => ?_ | refine .o ?_ | refine .l fun ys hys hyl => ?_ | refine .zl fun zs hzs hzl => ?_ | refine .u fun u hu hul => ?_ | refine .z fun zs hzs => ?_ | refine .mk (fun h => ?_) ?_ | refine .ms fun ms hms => ?_ | refine .s fun s hs hsl => ?_ | refine And.intro ?_ ?_) <;> cbv)
      obtain rfl := hz
      exact roundV ⟨(i + 1, ⟨_, _, _, _, _, _, _, _⟩), hil, hE2, hO2, q1, q2, by dsimp only; ((try simp only [vn] at *) <;> omega)⟩ (lft_lt (by ((try simp only [vn] at *) <;> omega)))
    · obtain ⟨q, hq⟩ : ∃ q, q = sent0 - (out.length : Int) := ⟨_, rfl⟩
      rw [← hq] at hform hinv2
      have e5 : ofE ⟨#[112]⟩ ⟨#[113]⟩ out q got0 = ⟨⟨#[112]⟩, ⟨#[113]⟩, out, [], sent0, got0, got0, false⟩ := by rw [ofE, hq]; congr 1; omega
      rw [e5] at hinv2
      have w0 := hE.sent0
      have w1 := hE.gotM
      have w2 := hE.got0
      have w3 := hE.outL
      have w4 := hE.outS
      dsimp only at w0 w1 w2 w3 w4
      (refine callG_spec hparts (⟨⟨#[112]⟩, ⟨#[113]⟩, out, wait, sent0, got0, sure, owes⟩, i, q) [3, 4, 5] ⟨hE, hq⟩ rfl rfl (by decide) rfl rfl rfl rfl rfl ?_; try dsimp only)
      cbv; repeat' ((first | refine .e ?_ | refine .n fun h => ?_ | refine .y fun h => ?_ | refine .q fun z hz hz0 hz1 => ?_ | refine .mk (fun h => ?_) fun h => ?_ | refine .k fun z hz => ?_ | refine .o ?_ | refine .l fun ys hys hyl => ?_ | refine .zl fun zs hzs hzl => ?_ | refine .u fun u hu hul => ?_ | refine .z fun zs hzs => ?_ | refine .mk (fun h => ?_) ?_ | refine .ms fun ms hms => ?_ | refine .s fun s hs hsl => ?_ | refine And.intro ?_ ?_) <;> cbv)
      (refine callG_new O.c (⟨#[112]⟩, ⟨#[113]⟩, out, q, got0) ⟨⟨by dsimp only; decide, by dsimp only; decide, by dsimp only; omega, w4⟩, fun hh => by (obtain hh | hh := hh; (· exact absurd hh (by dsimp only; decide)); dsimp only at hh; ((try simp only [vn] at *) <;> omega)), fun ⟨k, hk, hf⟩ => hform k hk hf⟩ rfl rfl ?_; try dsimp only)
      rw [e5]
      cbv; repeat' ((first | refine .e ?_ | refine .n fun h => ?_ | refine .y fun h => ?_ | refine .q fun z hz hz0 hz1 => ?_ | refine .mk (fun h => ?_) fun h => ?_ | refine .k fun z hz => ?_ | refine .o ?_ | refine .l fun ys hys hyl => ?_ | refine .zl fun zs hzs hzl => ?_ | refine .u fun u hu hul => ?_ | refine .z fun zs hzs => ?_ | refine .mk (fun h => ?_) ?_ | refine .ms fun ms hms => ?_ | refine .s fun s hs hsl => ?_ | refine And.intro ?_ ?_) <;> cbv)
      refine xloopG (Gh.le (EndH ⟨a, b, sent, [], sx, got, got, false⟩ ++ renH [3, 4, 5, 6] 0 (BothH ⟨⟨#[112]⟩, ⟨#[113]⟩, out, wait, sent0, got0, sure, owes⟩) ++ renH [7, 8, 9, 10] 0 (BothH ⟨⟨#[112]⟩, ⟨#[113]⟩, out, [], sent0, got0, got0, false⟩)) (LeH.cons (LeE.refl _) (LeH.cons (LeE.refl _) (LeH.cons (LeE.refl _) (LeH.cons (LeE.refl _) (LeH.cons (LeE.refl _) (LeH.cons (LeE.refl _) (LeH.cons (LeE.refl _) (LeH.cons (LeE.refl _) (LeH.cons (LeE.refl _) (LeH.cons (LeE.refl _) (LeH.cons (LeE.blk (by repeat' (first | exact LeL.nil | exact LeL0.nil | exact LeH.nil | exact LeE.refl _ | exact Le.refl _ | exact Le0.one (.refl _) | exact Le0.one (.nil _) | exact Le1.refl _ | exact Le1.nil _ | refine LeH.cons ?_ ?_ | refine LeE.row ?_ | refine LeE.blk ?_ | refine LeL0.cons ?_ ?_ | refine LeL.cons ?_ ?_ | refine Le0.agg ?_ | refine Le.tup ?_ | exact Le.one (.one (.nil _)) | refine Le.one (.agg ?_)))) LeH.nil)))))))))))) ?_
      refine xloopV [] (fun p : { p : Nat × En // p.1 ≤ L2.length ∧ InvE (i + p.1) p.2 } => [(28, .i (nI p.1.1))]) (fun p => EndH ⟨a, b, sent, [], sx, got, got, false⟩ ++ renH [3, 4, 5, 6] 0 (BothH ⟨⟨#[112]⟩, ⟨#[113]⟩, out, wait, sent0, got0, sure, owes⟩) ++ renH [7, 8, 9, 10] 0 (BothH p.1.2)) (fun p => lft n2 p.1.1) ⟨(0, ⟨⟨#[112]⟩, ⟨#[113]⟩, out, [], sent0, got0, got0, false⟩), Nat.zero_le _, hinv2⟩ ?_
      rintro ⟨⟨j, E⟩, hj, hEj⟩
      dsimp only at hj hEj
      obtain ⟨selfj, otherj, outj, waitj, sentj, gotj, surej, owesj⟩ := E
      cbv; repeat' ((first | refine .e ?_ | refine .n fun h => ?_ | refine .y fun h => ?_ | refine .q fun z hz hz0 hz1 => ?_ | refine .mk (fun h => ?_) fun h => ?_ | refine .k fun z hz => ?_ | refine .o ?_ | refine .l fun ys hys hyl => ?_ | refine .zl fun zs hzs hzl => ?_ | refine .u fun u hu hul => ?_ | refine .z fun zs hzs => ?_ | refine .mk (fun h => ?_) ?_ | refine .ms fun ms hms => ?_ | refine .s fun s hs hsl => ?_ | refine And.intro ?_ ?_) <;> cbv)
      · have hjl : j < L2.length := by ((try simp only [vn] at *) <;> omega)
        obtain ⟨d, hg⟩ := some_at hjl
        have hfit := fit_of (hnb2 d (mem_some hg)) (hints2 d (mem_some hg))
        obtain ⟨E', hE'⟩ : ∃ E', E' = stepE ⟨selfj, otherj, outj, waitj, sentj, gotj, surej, owesj⟩ d := ⟨_, rfl⟩
        have hE2 := hEj.step hfit
        rw [← hE'] at hE2
        obtain ⟨⟩ := E'
        obtain ⟨dk, l, dn⟩ := d
        obtain ⟨frm, to, number, kind, ack, deal, text, party, index, day, cur, amt, docs, boxes⟩ := l
        cbv; repeat' ((first | refine .e ?_ | refine .n fun h => ?_ | refine .y fun h => ?_ | refine .q fun z hz hz0 hz1 => ?_ | refine .mk (fun h => ?_) fun h => ?_ | refine .k fun z hz => ?_ | refine .o ?_ | refine .l fun ys hys hyl => ?_ | refine .zl fun zs hzs hzl => ?_ | refine .u fun u hu hul => ?_ | refine .z fun zs hzs => ?_ | refine .mk (fun h => ?_) ?_ | refine .ms fun ms hms => ?_ | refine .s fun s hs hsl => ?_ | refine And.intro ?_ ?_) <;> cbv)
        (refine callG_spec F.done (⟨selfj, otherj, outj, waitj, sentj, gotj, surej, owesj⟩, i + j, ⟨dk, ⟨frm, to, number, kind, ack, deal, text, party, index, day, cur, amt, docs, boxes⟩, dn⟩) [7, 8, 9, 10] ⟨hEj, hfit, by dsimp only; ((try simp only [vn] at *) <;> omega)⟩ rfl rfl (by decide) rfl rfl rfl rfl rfl ?_; try dsimp only)
        rw [← hE']
        cbv; repeat' ((first | refine .e ?_ | refine .n fun h => ?_ | refine .y fun h => ?_ | refine .q fun z hz hz0 hz1 => ?_ | refine .mk (fun h => ?_) fun h => ?_ | refine .k fun z hz => ?_ | refine .o ?_ | refine .l fun ys hys hyl => ?_ | refine .zl fun zs hzs hzl => ?_ | refine .u fun u hu hul => ?_ | refine .z fun zs hzs => ?_ | refine .mk (fun h => ?_) ?_ | refine .ms fun ms hms => ?_ | refine .s fun s hs hsl => ?_ | refine And.intro ?_ ?_) <;> cbv)
        (refine callG_spec F.even (⟨_, _, _, _, _, _, _, _⟩, i + j + 1) [7, 8, 9, 10] hE2 rfl rfl (by decide) rfl rfl rfl rfl rfl ?_; try dsimp only)
        cbv; repeat' ((first | refine .e ?_ | refine .n fun h => ?_ | refine .y fun h => ?_ | refine .q fun z hz hz0 hz1 => ?_ | refine .mk (fun h => ?_) fun h => ?_ | refine .k fun z hz => ?_ | refine .o ?_ | refine .l fun ys hys hyl => ?_ | refine .zl fun zs hzs hzl => ?_ | refine .u fun u hu hul => ?_ | refine .z fun zs hzs => ?_ | refine .mk (fun h => ?_) ?_ | refine .ms fun ms hms => ?_ | refine .s fun s hs hsl => ?_ | refine And.intro ?_ ?_) <;> cbv)
        obtain rfl := hz
        exact roundV ⟨(j + 1, ⟨_, _, _, _, _, _, _, _⟩), hjl, hE2⟩ (lft_lt (by ((try simp only [vn] at *) <;> omega)))
      · (refine callG_spec F.even (⟨⟨#[112]⟩, ⟨#[113]⟩, out, wait, sent0, got0, sure, owes⟩, i) [3, 4, 5, 6] hE rfl rfl (by decide) rfl rfl rfl rfl rfl ?_; try dsimp only)
        cbv; repeat' ((first | refine .e ?_ | refine .n fun h => ?_ | refine .y fun h => ?_ | refine .q fun z hz hz0 hz1 => ?_ | refine .mk (fun h => ?_) fun h => ?_ | refine .k fun z hz => ?_ | refine .o ?_ | refine .l fun ys hys hyl => ?_ | refine .zl fun zs hzs hzl => ?_ | refine .u fun u hu hul => ?_ | refine .z fun zs hzs => ?_ | refine .mk (fun h => ?_) ?_ | refine .ms fun ms hms => ?_ | refine .s fun s hs hsl => ?_ | refine And.intro ?_ ?_) <;> cbv)
        exact FinK.mk ⟨_, Gh.refl _, .inl (CutK.val rfl (Le.refl _) hK)⟩
end Go.Proofs.Ytaflinfpmbfieaa
/-
  The door: arguments as they come in, as abstract values, by their type's shape; a contract as what a row asks.
-/
namespace Go.Proofs.Ytaflinfpmbfieaa
open Go.ChangeShapes Go.WideShapes Go.Deep Go.RowKit

inductive Sh where
  | int (k : IntKind)
  | str
  | bl
  | sl (sz : Nat) (e : Sh)
  | st (l : List Sh)
mutual
def Sh.width : Sh → Nat
  | .int _ => 1
  | .str => 1
  | .bl => 1
  | .sl _ _ => 1
  | .st l => Sh.widthL l
def Sh.widthL : List Sh → Nat
  | [] => 0
  | s :: l => s.width + Sh.widthL l
end
mutual
/-- The cells of a value of that shape. -/
def Op : Sh → List AV → Prop
  | .int k, cs => ∃ n, cs = [.int k n] ∧ (Lit.int k n).wf = true
  | .str, cs => ∃ s, cs = [.str s] ∧ s.size ≤ maxLen
  | .bl, cs => ∃ b, cs = [.bl b]
  | .sl sz e, cs => ∃ xs, cs = [.sl sz xs] ∧ xs.length ≤ maxLen ∧ ∀ x ∈ xs, x = elemAV sz x.cells ∧ Op e x.cells
  | .st l, cs => OpL l cs
def OpL : List Sh → List AV → Prop
  | [], cs => cs = []
  | s :: l, cs => ∃ a b, cs = a ++ b ∧ Op s a ∧ OpL l b
end
mutual
theorem Op.one : ∀ (s : Sh) (cs : List AV), Op s cs → cs.all AV.one = true
  | .int k, cs, h => by unfold Op at h; obtain ⟨n, rfl, _⟩ := h; rfl
  | .str, cs, h => by unfold Op at h; obtain ⟨n, rfl, _⟩ := h; rfl
  | .bl, cs, h => by unfold Op at h; obtain ⟨n, rfl⟩ := h; rfl
  | .sl sz e, cs, h => by unfold Op at h; obtain ⟨xs, rfl, _⟩ := h; rfl
  | .st l, cs, h => by unfold Op at h; exact OpL.one l cs h
theorem OpL.one : ∀ (l : List Sh) (cs : List AV), OpL l cs → cs.all AV.one = true
  | [], cs, h => by unfold OpL at h; subst h; rfl
  | s :: l, cs, h => by
    unfold OpL at h
    obtain ⟨a, b, rfl, h1, h2⟩ := h
    rw [List.all_append, Op.one s a h1, OpL.one l b h2]
    rfl
end
def shFs (P : Program) (g : TypeId → Option Sh) : List Field → Nat → Nat → Option (List Sh)
  | [], off, tot => if off = tot then some [] else none
  | f :: l, off, tot => if f.offset = off then match g f.type, shFs P g l (off + P.cellsOf f.type) tot with
      | some s, some r => some (s :: r)
      | _, _ => none
    else none
mutual
theorem Op.len : ∀ (s : Sh) (cs : List AV), Op s cs → cs.length = s.width
  | .int k, cs, h => by unfold Op at h; obtain ⟨n, rfl, _⟩ := h; rfl
  | .str, cs, h => by unfold Op at h; obtain ⟨n, rfl, _⟩ := h; rfl
  | .bl, cs, h => by unfold Op at h; obtain ⟨n, rfl⟩ := h; rfl
  | .sl sz e, cs, h => by unfold Op at h; obtain ⟨xs, rfl, _⟩ := h; rfl
  | .st l, cs, h => by unfold Op at h; exact OpL.len l cs h
theorem OpL.len : ∀ (l : List Sh) (cs : List AV), OpL l cs → cs.length = Sh.widthL l
  | [], cs, h => by unfold OpL at h; subst h; rfl
  | s :: l, cs, h => by
    unfold OpL at h
    obtain ⟨a, b, rfl, h1, h2⟩ := h
    rw [List.length_append, Op.len s a h1, OpL.len l b h2]
    rfl
end
/-- A type's shape, as the program tells it: structs' fields one behind the other. -/
def shOf (P : Program) : Nat → TypeId → Option Sh
  | 0, _ => none
  | n + 1, t => match P.underlying t with
    | some .bool => some .bl
    | some (.int k) => some (.int k)
    | some .string => some .str
    | some (.slice e) => match shOf P n e with
      | some s => if s.width = P.cellsOf e then some (.sl (P.cellsOf e) s) else none
      | none => none
    | some (.struct fs) => (shFs P (shOf P n) fs.toList 0 (P.cellsOf t)).map .st
    | _ => none
/-- All of memory is published. -/
def pubW (w : World) : Pub := fun b => match w.heap[b]? with
  | some (.cells arr _ _) => arr.size
  | _ => 0
theorem pubW_cell {w : World} {b i : Nat} {u : Value} (h : w.cell? ⟨b, i, none⟩ = some u) : i < pubW w b := by
  unfold World.cell? at h
  unfold pubW
  cases hb : w.heap[b]? with
  | none => simp [hb] at h
  | some o =>
    cases o <;> simp [hb] at h ⊢
    rename_i arr _ _
    rcases Nat.lt_or_ge i arr.size with h1 | h1
    · exact h1
    · rw [Array.getElem?_eq_none h1] at h; simp at h
theorem pubW_there {w : World} {b i : Nat} (h : i < pubW w b) : ∃ u, w.cell? ⟨b, i, none⟩ = some u := by
  unfold pubW at h
  cases hb : w.heap[b]? with
  | none => simp [hb] at h
  | some o =>
    cases o <;> simp [hb] at h
    rename_i arr _ _
    exact ⟨arr[i], by unfold World.cell?; simp [hb, Array.getElem?_eq_getElem h]⟩
theorem Mod.door (w : World) : Mod (pubW w) w rho0 [] :=
  ⟨fun k e he => (by simp at he), fun _ _ => rfl, (fun _ _ _ _ _ h => by cases h), (fun b hb => by unfold pubW; rw [Array.getElem?_eq_none hb]), fun b i hi => pubW_there hi⟩
theorem elemAV_cells_ {sz : Nat} {l : List AV} (hl : l.length = sz) (h1 : l.all AV.one = true) : (elemAV sz l).cells = l := elemAV_cells hl h1
theorem of_each_ {α : Type} {p : Nat → α → Prop} : ∀ (n : Nat), (∀ i, i < n → ∃ a, p i a) → ∃ l : List α, l.length = n ∧ ∀ i (h : i < l.length), p i l[i]
  | 0, _ => ⟨[], rfl, fun i h => by simp at h⟩
  | n + 1, h => by
    obtain ⟨l, hl, hp⟩ := of_each_ n (fun i hi => h i (by omega))
    obtain ⟨a, ha⟩ := h n (by omega)
    refine ⟨l ++ [a], by simp [hl], fun i hi => ?_⟩
    by_cases h1 : i < l.length
    · rw [List.getElem_append_left h1]; exact hp i h1
    · simp at hi
      obtain rfl : i = n := by omega
      subst hl
      simpa using ha
theorem Addr_add_none (b o n : Nat) : (⟨b, o, none⟩ : Addr).add n = ⟨b, o + n, none⟩ := by unfold Addr.add; split <;> simp_all
section
variable {H : Type} {enc : TypeId × Value → H} {P : Program} {w : World} {base : Nat} {spare : Nat → Bool} {held : Bool}
theorem open_fs {g : TypeId → Option Sh} {cs : List Value} (hg : ∀ t s, g t = some s → ∀ fuel cs x, DataW.trod enc P w base spare held fuel t cs = some x → ∃ cz, Op s cz ∧ VRels (pubW w) w rho0 cz cs) :
    ∀ (l : List Field) (off tot : Nat) (ss : List Sh), shFs P g l off tot = some ss → cs.length = tot → (∀ f ∈ l, ∃ fuel y, DataW.trod enc P w base spare held fuel f.type ((cs.drop f.offset).take (P.cellsOf f.type)) = some y) →
      ∃ cz, OpL ss cz ∧ VRels (pubW w) w rho0 cz (cs.drop off)
  | [], off, tot, ss, h, hl, _ => by
    unfold shFs at h
    split at h
    · cases h
      rename_i e
      refine ⟨[], by unfold OpL; rfl, ?_⟩
      rw [List.drop_eq_nil_of_le (by omega)]
      exact .nil
    · cases h
  | f :: l, off, tot, ss, h, hl, hf => by
    unfold shFs at h
    split at h
    · rename_i e
      split at h
      · rename_i s r hs hr
        cases h
        obtain ⟨fuel, y, hy⟩ := hf f (List.mem_cons_self ..)
        obtain ⟨cz1, h1, h2⟩ := hg _ _ hs _ _ _ hy
        obtain ⟨cz2, h3, h4⟩ := open_fs hg l _ tot r hr hl (fun f hm => hf f (List.mem_cons_of_mem _ hm))
        refine ⟨cz1 ++ cz2, by unfold OpL; exact ⟨cz1, cz2, rfl, h1, h3⟩, ?_⟩
        rw [e] at h2
        have := h2.app h4
        rw [← List.drop_drop, List.take_append_drop] at this
        exact this
      · cases h
    · cases h
theorem VRels.single {x : AV} {u : Value} {pub : Pub} {r : Rho} (h : VRel pub w r x u) : VRels pub w r [x] [u] := .cons h .nil
theorem open_cells : ∀ (n : Nat) (t : TypeId) (s : Sh), shOf P n t = some s → ∀ (fuel : Nat) (cs : List Value) (x : DataW H × List MemPlace), DataW.trod enc P w base spare held fuel t cs = some x → ∃ cz, Op s cz ∧ VRels (pubW w) w rho0 cz cs
  | 0, t, s, h => by cases h
  | n + 1, t, s, h => by
    intro fuel cs x hx
    have ih := open_cells n
    unfold shOf at h
    split at h
    · rename_i ht
      cases h
      obtain ⟨b, rfl, _⟩ := DataW.trod_bool ht hx
      exact ⟨[.bl b], by unfold Op; exact ⟨b, rfl⟩, .single (.bl b)⟩
    · rename_i k ht
      cases h
      obtain ⟨b, rfl, _, hw⟩ := DataW.trod_int ht hx
      exact ⟨[.int k b], by unfold Op; exact ⟨b, rfl, hw⟩, .single (.int k b)⟩
    · rename_i ht
      cases h
      obtain ⟨b, rfl, _, hw⟩ := DataW.trod_string ht hx
      exact ⟨[.str b], by unfold Op; exact ⟨b, rfl, hw⟩, .single (.str b)⟩
    · rename_i e ht
      split at h
      · rename_i se hse
        split at h
        · rename_i hwd
          cases h
          rcases open_slice ht hx with ⟨rfl, _⟩ | ⟨a, len, cap, m, n', D, Pl, rfl, _, hl, hm, hmm, _, hi⟩
          · refine ⟨[.sl (P.cellsOf e) []], by unfold Op; exact ⟨[], rfl, Nat.zero_le _, fun x hx => by cases hx⟩, .single (.sl (A := none) (c := 0) (xs := []) (Nat.le_refl _) (by unfold maxLen; omega) (fun _ => ⟨rfl, rfl⟩) (fun x hx => by cases hx) (fun _ _ => undef) (fun i x j u hx => by simp at hx) (fun i x j u hx => by simp at hx))⟩
          · have hle : len ≤ m := by rw [hmm]; split <;> omega
            have each : ∀ i, i < len → ∃ cz, Op se cz ∧ ∃ vs : List Value, VRels (pubW w) w rho0 cz vs ∧ ∀ j v, vs[j]? = some v → w.cell? ((a.add (i * P.cellsOf e)).add j) = some v := fun i hil => by
              obtain ⟨cs', hc, ht'⟩ := hi i (by omega)
              obtain ⟨cz, h1, h2⟩ := ih e se hse _ _ _ ht'
              obtain ⟨_, hcl, hat⟩ := World.cells?_some hc
              exact ⟨cz, h1, cs', h2, fun j v hv => by rw [hat j (by rw [← hcl]; exact (List.getElem?_eq_some_iff.1 hv).1), hv]⟩
            obtain ⟨A, hAl, hA⟩ : ∃ A : List (List AV), A.length = len ∧ ∀ i (h : i < A.length), Op se A[i] ∧ ∃ vs : List Value, VRels (pubW w) w rho0 A[i] vs ∧ ∀ j v, vs[j]? = some v → w.cell? ((a.add (i * P.cellsOf e)).add j) = some v := of_each_ len (p := fun i cz => Op se cz ∧ ∃ vs : List Value, VRels (pubW w) w rho0 cz vs ∧ ∀ j v, vs[j]? = some v → w.cell? ((a.add (i * P.cellsOf e)).add j) = some v) each
            have hcells : ∀ (cz : List AV), Op se cz → (elemAV (P.cellsOf e) cz).cells = cz := fun cz ho => elemAV_cells_ ((Op.len _ _ ho).trans hwd) (Op.one _ _ ho)
            refine ⟨[.sl (P.cellsOf e) (A.map (elemAV (P.cellsOf e)))], ?_, ?_⟩
            · unfold Op
              refine ⟨_, rfl, by rw [List.length_map, hAl]; omega, fun x hx => ?_⟩
              obtain ⟨cz, has, rfl⟩ := List.mem_map.1 hx
              obtain ⟨i, hil, rfl⟩ := List.getElem_of_mem has
              rw [hcells _ (hA i hil).1]
              exact ⟨rfl, (hA i hil).1⟩
            · refine .single ?_
              rw [← hAl, ← List.length_map (f := elemAV (P.cellsOf e))]
              have get : ∀ (i : Nat) (x : AV) (j : Nat) (u : AV), (A.map (elemAV (P.cellsOf e)))[i]? = some x → x.cells[j]? = some u → ∃ v, w.cell? ((a.add (i * P.cellsOf e)).add j) = some v ∧ VRel (pubW w) w rho0 u v := fun i x j u hx hu => by
                rw [List.getElem?_map] at hx
                rcases Nat.lt_or_ge i A.length with hil | hil
                · rw [List.getElem?_eq_getElem hil] at hx
                  cases hx
                  obtain ⟨ho, vs, hvs, hc⟩ := hA i hil
                  rw [hcells _ ho] at hu
                  obtain ⟨v, hv, hr⟩ := hvs.get hu
                  exact ⟨v, hc j v hv, hr⟩
                · rw [List.getElem?_eq_none hil] at hx; cases hx
              refine .sl (by rw [List.length_map]; omega) (by omega) (fun h => by cases h) (fun x hx => ?_) (fun i j => (w.cell? ((a.add (i * P.cellsOf e)).add j)).getD undef) (fun i x j u hx hu => ?_) (fun i x j u hx hu => ?_)
              · obtain ⟨cz, has, rfl⟩ := List.mem_map.1 hx
                obtain ⟨i, hil, rfl⟩ := List.getElem_of_mem has
                rw [hcells _ (hA i hil).1]
                exact ⟨(Op.len _ _ (hA i hil).1).trans hwd, Op.one _ _ (hA i hil).1⟩
              · obtain ⟨v, hv, hr⟩ := get i x j u hx hu
                rw [hv]
                exact hr
              · obtain ⟨v, hv, hr⟩ := get i x j u hx hu
                have hsp : a.spot = none := by
                  rw [List.getElem?_map] at hx
                  cases hAi : A[i]? with
                  | none => rw [hAi] at hx; cases hx
                  | some cz =>
                    rw [hAi] at hx
                    cases hx
                    obtain ⟨hil, rfl⟩ := List.getElem?_eq_some_iff.1 hAi
                    have hju : j < A[i].length := by rw [hcells _ (hA i hil).1] at hu; exact (List.getElem?_eq_some_iff.1 hu).1
                    have hli := Op.len _ _ (hA i hil).1
                    obtain ⟨ho, vs, hvs, hc⟩ := hA 0 (by omega)
                    have hl0 := Op.len _ _ ho
                    have hv0 : 0 < vs.length := by rw [hvs.len]; omega
                    have := World.cell?_spot (hc 0 vs[0] (List.getElem?_eq_getElem hv0))
                    simpa [Addr.add] using this
                obtain ⟨b, o, spot⟩ := a
                dsimp only at hsp
                subst hsp
                rw [hv]
                have e1 : ((⟨b, o, none⟩ : Addr).add (i * P.cellsOf e)).add j = ⟨b, o + i * P.cellsOf e + j, none⟩ := by
                  rw [Addr_add_none, Addr_add_none]
                rw [e1] at hv
                exact ⟨b, o, rfl, pubW_cell hv, hv⟩
        · cases h
      · cases h
    · rename_i fs ht
      obtain ⟨ss, hss, rfl⟩ := map_some h
      obtain ⟨xs, n', _, _, hl, hlen, hf⟩ := DataW.trod_struct ht hx
      obtain ⟨cz, h1, h2⟩ := open_fs (cs := cs) ih fs.toList 0 _ ss hss hl (fun f hm => by
        obtain ⟨j, hj⟩ := List.getElem?_of_mem hm
        have hjl : j < xs.length := by rw [hlen]; simpa using (List.getElem?_eq_some_iff.1 hj).1
        exact ⟨n', xs[j], by rw [hf j f (by simpa using hj), List.getElem?_eq_getElem hjl]⟩)
      exact ⟨cz, by unfold Op; exact h1, by simpa using h2⟩
    · cases h
def topAV : Sh → List AV → AV
  | .st _, cz => .agg cz
  | _, cz => cz.headD .any
theorem cells_one_ {v : Value} (h : ∀ cs, v ≠ .agg cs) : v.cells.toList = [v] := by
  cases v with
  | agg cs => exact absurd rfl (h cs)
  | _ => rfl
theorem open_val {n : Nat} {t : TypeId} {s : Sh} {r : Reach} {b0 : Nat} {v : Value} {d : DataW H} {p : List MemPlace} (hs : shOf P n t = some s) (hv : Value.okWide P w r b0 t v) (hd : DataW.Trod enc P w base spare held t v d p) :
    ∃ cz, Op s cz ∧ VRel (pubW w) w rho0 (topAV s cz) v := by
  obtain ⟨fuel, hf⟩ := hd
  obtain ⟨cz, h1, h2⟩ := open_cells n t s hs _ _ _ hf
  refine ⟨cz, h1, ?_⟩
  have scal : (∀ cs, v ≠ .agg cs) → ∀ a, cz = [a] → VRel (pubW w) w rho0 a v := fun hne a ha => by
    rw [cells_one_ hne, ha] at h2
    exact h2.at_ 0 a v rfl rfl
  cases n with
  | zero => cases hs
  | succ n =>
    unfold shOf at hs
    split at hs
    · rename_i ht
      cases hs
      unfold Op at h1
      obtain ⟨b, rfl⟩ := h1
      exact scal (fun cs hc => by subst hc; simp [Value.okWide, ht, Cell.okWide, Cell.ok] at hv) _ rfl
    · rename_i k ht
      cases hs
      unfold Op at h1
      obtain ⟨b, rfl, _⟩ := h1
      exact scal (fun cs hc => by subst hc; simp [Value.okWide, ht, Cell.okWide, Cell.ok] at hv) _ rfl
    · rename_i ht
      cases hs
      unfold Op at h1
      obtain ⟨b, rfl, _⟩ := h1
      exact scal (fun cs hc => by subst hc; simp [Value.okWide, ht, Cell.okWide, Cell.ok] at hv) _ rfl
    · rename_i e ht
      split at hs
      · split at hs
        · cases hs
          unfold Op at h1
          obtain ⟨b, rfl, _⟩ := h1
          exact scal (fun cs hc => by subst hc; simp [Value.okWide, ht, Cell.okWide, Cell.ok] at hv) _ rfl
        · cases hs
      · cases hs
    · rename_i fs ht
      obtain ⟨ss, hss, rfl⟩ := map_some hs
      simp only [Value.okWide, ht] at hv
      obtain ⟨cs, rfl, _⟩ := hv
      exact .agg (by simpa [Value.cells] using h2.len) fun i x u hx hu => h2.at_ i x u hx (by simpa [Value.cells] using hu)
    · cases hs
theorem op_list {α : Type} {sz : Nat} {e : Sh} {f : α → AV} {q : α → Prop} (h : ∀ cz, Op e cz → ∃ x : α, elemAV sz cz = f x ∧ q x) {cs : List AV} (ho : Op (.sl sz e) cs) : ∃ L : List α, cs = [.sl sz (mapA f L)] ∧ L.length ≤ maxLen ∧ ∀ x ∈ L, q x := by
  unfold Op at ho
  obtain ⟨xs, rfl, hl, hx⟩ := ho
  have key : ∀ xs : List AV, (∀ x ∈ xs, x = elemAV sz x.cells ∧ Op e x.cells) → ∃ L : List α, xs = mapA f L ∧ ∀ x ∈ L, q x := fun xs => by
    induction xs with
    | nil => exact fun _ => ⟨[], rfl, fun x hx => by cases hx⟩
    | cons y ys ih =>
      intro hx
      obtain ⟨L, rfl, hL⟩ := ih fun x hm => hx x (List.mem_cons_of_mem _ hm)
      obtain ⟨e1, e2⟩ := hx y (List.mem_cons_self ..)
      obtain ⟨x, hf, hq⟩ := h _ e2
      refine ⟨x :: L, ?_, fun z hz => ?_⟩
      · show y :: mapA f L = f x :: mapA f L
        rw [e1, hf]
      · rcases List.mem_cons.1 hz with rfl | hz
        · exact hq
        · exact hL z hz
  obtain ⟨L, rfl, hL⟩ := key xs hx
  exact ⟨L, rfl, by rwa [mapA_len] at hl, hL⟩
theorem wf_i64 {n : Int} (h : (Lit.int .i64 n).wf = true) : -9223372036854775808 ≤ n ∧ n ≤ 9223372036854775807 := by
  simp only [Lit.wf, Bool.and_eq_true, decide_eq_true_eq] at h
  have h1 : IntKind.i64.min = -9223372036854775808 := rfl
  have h2 : IntKind.i64.max = 9223372036854775807 := rfl
  omega
theorem wf_u8 {n : Int} (h : (Lit.int .u8 n).wf = true) : 0 ≤ n ∧ n ≤ 255 := by
  simp only [Lit.wf, Bool.and_eq_true, decide_eq_true_eq] at h
  have h1 : IntKind.u8.min = 0 := rfl
  have h2 : IntKind.u8.max = 255 := rfl
  omega
/-- A contract as what a row asks: true, and all that came in as it was. -/
theorem walk_of {f : Nat} {c : Ctr} (hf : FnOk P f c) {args : List AV} {vals : Array Value} (hv : VRels (pubW w) w rho0 args vals.toList) (hc : c args [] fun x _ => x = .bl true) :
    Calls P f vals w fun e w' => e = .returned (.bool true) ∧ Below w.heap.size w w' := by
  refine (hf args [] _ hc w rho0 (pubW w) vals (Mod.door w) hv).mono fun e w' ⟨v, x, H', r', pub', he, hx, hvx, _, hfr, _⟩ => ?_
  subst he
  subst hx
  cases hvx
  exact ⟨rfl, hfr.os, hfr.tape, hfr.output, hfr.size, fun j hj => (hfr.keep j hj (fun ⟨_, _, h, _⟩ => by cases h)).1⟩
end
end Go.Proofs.Ytaflinfpmbfieaa
namespace Go.Proofs.Ytaflinfpmbfieaa
open Go.RowKit
set_option maxRecDepth 100000
/-! What came in, cz letters and deeds. -/
def fieldSh : Sh := .st [.str, .str]
def docSh : Sh := .st [.int .i64, .str, .str, .sl 2 fieldSh]
def letterSh : Sh := .st [.str, .str, .int .i64, .int .i64, .int .i64, .str, .str, .str, .int .i64, .int .i64, .st [.str, .int .i64], .sl 4 docSh, .sl 1 .str]
def deedSh : Sh := .st [.int .u8, letterSh, .int .i64]
theorem op_field (cz : List AV) (h : Op fieldSh cz) : ∃ x : Fd, elemAV 2 cz = FdA x ∧ True := by
  unfold fieldSh Op at h
  (unfold OpL at h; obtain ⟨_, _, rfl, h1, h⟩ := h; unfold Op at h1; obtain ⟨a0, rfl, w0⟩ := h1)
  (unfold OpL at h; obtain ⟨_, _, rfl, h1, h⟩ := h; unfold Op at h1; obtain ⟨a1, rfl, w1⟩ := h1)
  (unfold OpL at h; subst h)
  exact ⟨⟨a0, a1⟩, rfl, trivial⟩
theorem op_doc (cz : List AV) (h : Op docSh cz) : ∃ x : Dc, elemAV 4 cz = DcA x ∧ i64 x.kind := by
  unfold docSh Op at h
  (unfold OpL at h; obtain ⟨_, _, rfl, h1, h⟩ := h; unfold Op at h1; obtain ⟨a0, rfl, w0⟩ := h1)
  (unfold OpL at h; obtain ⟨_, _, rfl, h1, h⟩ := h; unfold Op at h1; obtain ⟨a1, rfl, w1⟩ := h1)
  (unfold OpL at h; obtain ⟨_, _, rfl, h1, h⟩ := h; unfold Op at h1; obtain ⟨a2, rfl, w2⟩ := h1)
  unfold OpL at h
  obtain ⟨_, _, rfl, h1, h⟩ := h
  obtain ⟨L, rfl, _⟩ := op_list op_field h1
  (unfold OpL at h; subst h)
  exact ⟨⟨a0, a1, a2, L⟩, rfl, wf_i64 w0⟩
theorem op_letter (cz : List AV) (h : Op letterSh cz) : ∃ x : Lt, .agg cz = LtA x ∧ IntsL x := by
  unfold letterSh Op at h
  (unfold OpL at h; obtain ⟨_, _, rfl, h1, h⟩ := h; unfold Op at h1; obtain ⟨a0, rfl, w0⟩ := h1)
  (unfold OpL at h; obtain ⟨_, _, rfl, h1, h⟩ := h; unfold Op at h1; obtain ⟨a1, rfl, w1⟩ := h1)
  (unfold OpL at h; obtain ⟨_, _, rfl, h1, h⟩ := h; unfold Op at h1; obtain ⟨a2, rfl, w2⟩ := h1)
  (unfold OpL at h; obtain ⟨_, _, rfl, h1, h⟩ := h; unfold Op at h1; obtain ⟨a3, rfl, w3⟩ := h1)
  (unfold OpL at h; obtain ⟨_, _, rfl, h1, h⟩ := h; unfold Op at h1; obtain ⟨a4, rfl, w4⟩ := h1)
  (unfold OpL at h; obtain ⟨_, _, rfl, h1, h⟩ := h; unfold Op at h1; obtain ⟨a5, rfl, w5⟩ := h1)
  (unfold OpL at h; obtain ⟨_, _, rfl, h1, h⟩ := h; unfold Op at h1; obtain ⟨a6, rfl, w6⟩ := h1)
  (unfold OpL at h; obtain ⟨_, _, rfl, h1, h⟩ := h; unfold Op at h1; obtain ⟨a7, rfl, w7⟩ := h1)
  (unfold OpL at h; obtain ⟨_, _, rfl, h1, h⟩ := h; unfold Op at h1; obtain ⟨a8, rfl, w8⟩ := h1)
  (unfold OpL at h; obtain ⟨_, _, rfl, h1, h⟩ := h; unfold Op at h1; obtain ⟨a9, rfl, w9⟩ := h1)
  unfold OpL at h
  obtain ⟨_, _, rfl, hm, h'⟩ := h
  have h := hm
  unfold Op at h
  (unfold OpL at h; obtain ⟨_, _, rfl, h1, h⟩ := h; unfold Op at h1; obtain ⟨b0, rfl, v0⟩ := h1)
  (unfold OpL at h; obtain ⟨_, _, rfl, h1, h⟩ := h; unfold Op at h1; obtain ⟨b1, rfl, v1⟩ := h1)
  (unfold OpL at h; subst h)
  have h := h'
  unfold OpL at h
  obtain ⟨_, _, rfl, h1, h⟩ := h
  obtain ⟨L, rfl, _, hL⟩ := op_list op_doc h1
  unfold OpL at h
  obtain ⟨_, _, rfl, h1, h⟩ := h
  obtain ⟨B, rfl, _⟩ := op_list (f := AV.str) (q := fun _ => True) (fun cz h => by unfold Op at h; obtain ⟨s, rfl, _⟩ := h; exact ⟨s, rfl, trivial⟩) h1
  (unfold OpL at h; subst h)
  exact ⟨⟨a0, a1, a2, a3, a4, a5, a6, a7, a8, a9, b0, b1, L, B⟩, rfl, ⟨wf_i64 w2, wf_i64 w3, wf_i64 w4, wf_i64 w8, wf_i64 w9, wf_i64 v1, hL⟩⟩
theorem op_deed (cz : List AV) (h : Op deedSh cz) : ∃ x : Dd, elemAV 16 cz = DdA x ∧ IntsD x := by
  unfold deedSh Op at h
  (unfold OpL at h; obtain ⟨_, _, rfl, h1, h⟩ := h; unfold Op at h1; obtain ⟨a0, rfl, w0⟩ := h1)
  unfold OpL at h
  obtain ⟨ls, _, rfl, hl, h⟩ := h
  obtain ⟨x, hx, hi⟩ := op_letter ls hl
  (unfold OpL at h; obtain ⟨_, _, rfl, h1, h⟩ := h; unfold Op at h1; obtain ⟨a2, rfl, w2⟩ := h1)
  (unfold OpL at h; subst h)
  refine ⟨⟨a0, x, a2⟩, ?_, hi, wf_i64 w2⟩
  obtain ⟨⟩ := x
  unfold LtA at hx
  cases hx
  rfl
theorem op_letters {cs : List AV} (h : Op (.sl 14 letterSh) cs) : ∃ L : List Lt, cs = [.sl 14 (mapA LtA L)] ∧ L.length ≤ maxLen ∧ ∀ x ∈ L, IntsL x := op_list (fun cz h => by obtain ⟨x, h1, h2⟩ := op_letter cz h; exact ⟨x, h1, h2⟩) h
theorem op_deeds {cs : List AV} (h : Op (.sl 16 deedSh) cs) : ∃ L : List Dd, cs = [.sl 16 (mapA DdA L)] ∧ L.length ≤ maxLen ∧ ∀ x ∈ L, IntsD x := op_list op_deed h
theorem sh_deeds : shOf Try.prog 9 47 = some (.sl 16 deedSh) := by kernel_rfl
theorem sh_letters : shOf Try.prog 9 30 = some (.sl 14 letterSh) := by kernel_rfl
theorem sh_letter : shOf Try.prog 9 40 = some letterSh := by kernel_rfl
end Go.Proofs.Ytaflinfpmbfieaa
namespace Go.Proofs.Ytaflinfpmbfieaa
open Go.RowKit
set_option maxRecDepth 100000
/-! All functions of the chapter, by their contracts. -/
theorem own : ownKnob Try.prog.godebug = none := by kernel_rfl
theorem laidOut : laidOutB Try.prog = true := by kernel_rfl
theorem k_name : FnOk Try.prog 46 NameC := fn_strB fun s w h => name_any s w h
theorem k_rname : FnOk Try.prog 36 NameC := fn_strB fun s w h => refName_any s w h
theorem k_parties : FnOk Try.prog 35 PartC := body_ok (by kernel_rfl) (areParties_body _ k_name)
theorem k_rnames : FnOk Try.prog 21 PartC := body_ok (by kernel_rfl) (rnames_body _ k_rname)
theorem k_new : FnOk Try.prog 20 NewC := body_ok (by kernel_rfl) (new_body _ k_parties)
theorem k_newNo : FnOk Try.prog 20 NewNoC := body_ok (by kernel_rfl) (newNo_body _ k_parties)
theorem k_cloneLR : FnOk Try.prog 48 (CloneR 40 14 192) := body_ok (by kernel_rfl) (cloneLR_body _)
theorem k_cloneDR : FnOk Try.prog 49 (CloneR 78 4 64) := body_ok (by kernel_rfl) (cloneDR_body _)
theorem k_cloneF : FnOk Try.prog 50 (CloneC 2 32) := body_ok (by kernel_rfl) (cloneF_body _)
theorem k_cloneS : FnOk Try.prog 51 (CloneC 1 16) := body_ok (by kernel_rfl) (cloneS_body _)
theorem k_own : FnOk Try.prog 44 OwnC := body_ok (by kernel_rfl) (own_body _ k_cloneDR k_cloneF k_cloneS)
theorem k_owns : FnOk Try.prog 32 OwnsR := body_ok (by kernel_rfl) (owns_body _ k_own)
theorem k_due : FnOk Try.prog 12 DueC := body_ok (by kernel_rfl) (due_body _ k_owns)
theorem k_send : FnOk Try.prog 31 SendC := body_ok (by kernel_rfl) (send_body _ k_own)
theorem k_ack : FnOk Try.prog 18 AckC := body_ok (by kernel_rfl) (ack_body _)
theorem k_sent : FnOk Try.prog 42 SentC := body_ok (by kernel_rfl) (sent_body _)
theorem k_got : FnOk Try.prog 15 GotC := body_ok (by kernel_rfl) (got_body _)
theorem k_inAcked : FnOk Try.prog 33 InAckedC := body_ok (by kernel_rfl) (inAcked_body _)
theorem k_isOwn : FnOk Try.prog 43 IsOwnC := body_ok (by kernel_rfl) (isOwn_body _)
theorem k_sure : FnOk Try.prog 14 SureC := body_ok (by kernel_rfl) (sure_body _)
theorem k_parts : FnOk Try.prog 16 PartsC := body_ok (by kernel_rfl) (parts_body _ k_owns k_inAcked)
theorem k_acked : FnOk Try.prog 40 AckedC := body_ok (by kernel_rfl) (acked_body _ k_cloneLR k_inAcked)
theorem k_take : FnOk Try.prog 26 TakeC := body_ok (by kernel_rfl) (take_body _ k_isOwn k_acked k_own)
theorem k_of : FnOk Try.prog 29 OfC := body_ok (by kernel_rfl) (of_body _ k_parties k_new k_owns)
theorem k_rof : FnOk Try.prog 30 ROfC := body_ok (by kernel_rfl) (rof_body _ k_rnames)
theorem k_rown : FnOk Try.prog 25 ROwnC := body_ok (by kernel_rfl) (rown_body _)
theorem k_find : FnOk Try.prog 47 FindC := body_ok (by kernel_rfl) (rfind_body _)
theorem k_rsure : FnOk Try.prog 39 RSureC := body_ok (by kernel_rfl) (rsure_body _)
theorem k_racked : FnOk Try.prog 41 RAckedC := body_ok (by kernel_rfl) (racked_body _)
theorem k_rsend : FnOk Try.prog 37 RSendC := body_ok (by kernel_rfl) (rsend_body _)
theorem k_rdue : FnOk Try.prog 28 RDueC := body_ok (by kernel_rfl) (rdue_body _)
theorem k_rtake : FnOk Try.prog 38 RTakeC := body_ok (by kernel_rfl) (rtake_body _ k_rown k_racked k_find)
theorem k_digP : FnOk Try.prog 45 DigP := body_ok (by kernel_rfl) (digP_body _)
theorem k_digits : FnOk Try.prog 45 DigC := body_ok (by kernel_rfl) (digits_body _ k_digP)
theorem k_text : FnOk Try.prog 34 TextC := body_ok (by kernel_rfl) (text_body _ k_digits)
theorem k_same : FnOk Try.prog 27 SameC := body_ok (by kernel_rfl) (same_body _ k_text)
theorem k_big : FnOk Try.prog 24 BigC := body_ok (by kernel_rfl) (big_body _)
theorem k_heavy : FnOk Try.prog 19 HeavyC := body_ok (by kernel_rfl) (heavy_body _ k_big)
theorem k_even : FnOk Try.prog 23 EvenC := body_ok (by kernel_rfl) (even_body _ k_parts k_ack k_sent k_got k_same)
theorem k_fns : Fns Try.prog := ⟨k_send, k_rsend, k_text, k_take, k_rtake, k_same, k_due, k_rdue, k_sure, k_rsure, k_acked, k_racked⟩
theorem k_done : FnOk Try.prog 22 DoneC := body_ok (by kernel_rfl) (done_body _ k_fns)
theorem k_awake : FnOk Try.prog 9 AwakeC := body_ok (by kernel_rfl) (awake_body _ k_new k_take k_got)
theorem k_fns2 : Fns2 Try.prog := ⟨k_awake, k_heavy, k_new, k_newNo, k_rnames, k_done, k_even⟩
theorem k_plays : FnOk Try.prog 5 PlaysC := body_ok (by kernel_rfl) (plays_body _ k_fns2)
theorem k_strange : FnOk Try.prog 6 StrangeC := body_ok (by kernel_rfl) (strange_body _ k_fns2 k_fns k_big k_rown)
theorem k_lparts : FnOk Try.prog 8 LPartsC := body_ok (by kernel_rfl) (lparts_body _ k_fns2 (of_fns k_of k_rof) k_big k_parts)
end Go.Proofs.Ytaflinfpmbfieaa
namespace Go.Proofs.Ytaflinfpmbfieaa
open Go.RowKit
set_option maxHeartbeats 4000000
set_option maxRecDepth 100000
/-! Two ends and what flies. -/
structure Pr where
  a : En
  b : En
  fly : List Lt
  atA : List Lt
  atB : List Lt
  fromA : List Lt
  toA : List Lt
noncomputable def PairH : Pr → List Ent
  | ⟨⟨self, other, out, wait, sent, got, sure, owes⟩, ⟨self2, other2, out2, wait2, sent2, got2, sure2, owes2⟩, fly, atA, atB, fromA, toA⟩ =>
    [.blk 73 [.str self, .str other, .hd 1, .i sent, .i got, .i sure, .hd 2, .bl owes], .tip 40 14 (mapA LtA out), .map 71 (mapA (fun l => (.i l.number, LtA l)) wait),
     .blk 73 [.str self2, .str other2, .hd 4, .i sent2, .i got2, .i sure2, .hd 5, .bl owes2], .tip 40 14 (mapA LtA out2), .map 71 (mapA (fun l => (.i l.number, LtA l)) wait2),
     .blk 32 [.ptr 0 0, .ptr 3 0, .hd 7, .hd 8, .hd 9, .hd 10, .hd 11], .tip 40 14 (mapA LtA fly), .tip 40 14 (mapA LtA atA), .tip 40 14 (mapA LtA atB), .tip 40 14 (mapA LtA fromA), .tip 40 14 (mapA LtA toA)]
/-- What is asked at any time. -/
structure FitP (M : Nat) (S : Pr) : Prop where
  a : InvE M S.a
  b : InvE M S.b
  m : M ≤ 10000
  fly : S.fly.length ≤ 10000
  atA : S.atA.length ≤ 1000000
  atB : S.atB.length ≤ 1000000
  flyS : ∀ l ∈ S.fly, Small l
  atAS : ∀ l ∈ S.atA, Small l
  atBS : ∀ l ∈ S.atB, Small l
  fromS : ∀ l ∈ S.fromA, Small l
  toS : ∀ l ∈ S.toA, Small l
def comeS (S : Pr) (l : Lt) : Pr :=
  if l.to = ⟨#[112]⟩ then { S with a := (takeR S.a l).1, atA := S.atA ++ (takeR S.a l).2 } else { S with b := (takeR S.b l).1, atB := S.atB ++ (takeR S.b l).2 }
def comeB (S : Pr) (l : Lt) : Bool := if l.to = ⟨#[112]⟩ then decide (OwnL S.a l) else decide (OwnL S.b l)
noncomputable def ComeC : Ctr := spec (fun i : Pr × Nat × Lt => [.ptr 6 0, LtA i.2.2]) (fun i => PairH i.1) (fun i => FitP i.2.1 i.1 ∧ Small i.2.2) (fun i => .bl (comeB i.1 i.2.2)) fun i => PairH (comeS i.1 i.2.2)
theorem come_body (P : Program) (htake : FnOk P 26 TakeC) : BodyOk P x13 ComeC := by
  intro args H K hc
  obtain ⟨⟨S, M, l⟩, rfl, rfl, ⟨hi, hs⟩, hK⟩ := hc
  refine ⟨Nat.le_of_ble_eq_true rfl, ?_⟩
  dsimp only at hi hs hK ⊢
  obtain ⟨Ra, hRa⟩ : ∃ R, R = takeR S.a l := ⟨_, rfl⟩
  obtain ⟨Rb, hRb⟩ : ∃ R, R = takeR S.b l := ⟨_, rfl⟩
  obtain ⟨ba, hba⟩ : ∃ R, R = decide (OwnL S.a l) := ⟨_, rfl⟩
  obtain ⟨bb, hbb⟩ : ∃ R, R = decide (OwnL S.b l) := ⟨_, rfl⟩
  have ta := take_len (l := l) hi.a
  have tb := take_len (l := l) hi.b
  have hA : l.to = ⟨#[112]⟩ → ∀ at2, at2 = S.atA ++ Ra.2 → K (.bl ba) (PairH { S with a := Ra.1, atA := at2 }) := fun h a2 e => by subst e; rw [comeS, comeB, if_pos h, if_pos h, ← hRa, ← hba] at hK; exact hK
  have hB : l.to ≠ ⟨#[112]⟩ → ∀ at2, at2 = S.atB ++ Rb.2 → K (.bl bb) (PairH { S with b := Rb.1, atB := at2 }) := fun h a2 e => by subst e; rw [comeS, comeB, if_neg h, if_neg h, ← hRb, ← hbb] at hK; exact hK
  have h1 := hi.atA
  have h2 := hi.atB
  have h3 := hi.m
  have ia := hi.a
  have ib := hi.b
  clear hK hi
  rw [← hRa] at ta
  rw [← hRb] at tb
  obtain ⟨⟨self, other, out, wait, sent, got, sure, owes⟩, ⟨self2, other2, out2, wait2, sent2, got2, sure2, owes2⟩, fly, atA, atB, fromA, toA⟩ := S
  obtain ⟨Ra1, Ra2⟩ := Ra
  obtain ⟨Rb1, Rb2⟩ := Rb
  obtain ⟨⟩ := Ra1
  obtain ⟨⟩ := Rb1
  obtain ⟨frm, to, number, kind, ack, deal, text, party, index, day, cur, amt, docs, boxes⟩ := l
  dsimp only at hRa hRb hba hbb ta tb hA hB h1 h2 ia ib
  cbv; repeat' ((first | refine .e ?_ | refine .n fun h => ?_ | refine .y fun h => ?_ | refine .q fun z hz hz0 hz1 => ?_ | refine .mk (fun h => ?_) fun h => ?_ | refine .k fun z hz => ?_ | refine .o ?_ | refine .l fun ys hys hyl => ?_ | refine .zl fun zs hzs hzl => ?_ | refine .u fun u hu hul => ?_ | refine .z fun zs hzs => ?_ | refine .mk (fun h => ?_) ?_ | refine .ms fun ms hms => ?_ | refine .s fun s hs hsl => ?_ | refine And.intro ?_ ?_) <;> cbv)
  · (refine callG_spec htake (⟨self, other, out, wait, sent, got, sure, owes⟩, M, ⟨frm, to, number, kind, ack, deal, text, party, index, day, cur, amt, docs, boxes⟩) [0, 1, 2] ⟨ia, hs, by dsimp only; ((try simp only [vn] at *) <;> omega)⟩ rfl rfl (by decide) rfl rfl rfl rfl rfl ?_; try dsimp only)
    rw [← hRa, ← hba]
    cbv; repeat' ((first | refine .e ?_ | refine .n fun h => ?_ | refine .y fun h => ?_ | refine .q fun z hz hz0 hz1 => ?_ | refine .mk (fun h => ?_) fun h => ?_ | refine .k fun z hz => ?_ | refine .o ?_ | refine .l fun ys hys hyl => ?_ | refine .zl fun zs hzs hzl => ?_ | refine .u fun u hu hul => ?_ | refine .z fun zs hzs => ?_ | refine .mk (fun h => ?_) ?_ | refine .ms fun ms hms => ?_ | refine .s fun s hs hsl => ?_ | refine And.intro ?_ ?_) <;> cbv)
    exact FinK.mk ⟨_, Gh.refl _, .inl (CutK.pre _ (by rfl) (by exact Nat.le_of_ble_eq_true rfl) (by rfl) (by rfl) (Le.refl _) (LeH.refl _) (hA h ys hys))⟩
  · (refine callG_spec htake (⟨self2, other2, out2, wait2, sent2, got2, sure2, owes2⟩, M, ⟨frm, to, number, kind, ack, deal, text, party, index, day, cur, amt, docs, boxes⟩) [3, 4, 5] ⟨ib, hs, by dsimp only; ((try simp only [vn] at *) <;> omega)⟩ rfl rfl (by decide) rfl rfl rfl rfl rfl ?_; try dsimp only)
    rw [← hRb, ← hbb]
    cbv; repeat' ((first | refine .e ?_ | refine .n fun h => ?_ | refine .y fun h => ?_ | refine .q fun z hz hz0 hz1 => ?_ | refine .mk (fun h => ?_) fun h => ?_ | refine .k fun z hz => ?_ | refine .o ?_ | refine .l fun ys hys hyl => ?_ | refine .zl fun zs hzs hzl => ?_ | refine .u fun u hu hul => ?_ | refine .z fun zs hzs => ?_ | refine .mk (fun h => ?_) ?_ | refine .ms fun ms hms => ?_ | refine .s fun s hs hsl => ?_ | refine And.intro ?_ ?_) <;> cbv)
    exact FinK.mk ⟨_, Gh.refl _, .inl (CutK.pre _ (by rfl) (by exact Nat.le_of_ble_eq_true rfl) (by rfl) (by rfl) (Le.refl _) (LeH.refl _) (hB h ys hys))⟩
noncomputable def BeginsC : Ctr := spec (fun i : List Lt × List Lt => [.sl 14 (mapA LtA i.1), .sl 14 (mapA LtA i.2)]) (fun _ => []) (fun i => i.1.length ≤ i.2.length ∧ i.2.length ≤ 1000000 ∧ (∀ (k : Nat) x y, i.1[k]? = some x → i.2[k]? = some y → withAck 0 x = y) ∧ ∀ l ∈ i.2, Small l) (fun _ => .bl true) fun _ => []
theorem begins_body (P : Program) (ht : FnOk P 34 TextC) : BodyOk P x17 BeginsC := by
  intro args H K hc
  obtain ⟨⟨L, L2⟩, rfl, rfl, ⟨h1, h2, h3, h4⟩, hK⟩ := hc
  refine ⟨Nat.le_of_ble_eq_true rfl, ?_⟩
  dsimp only at h1 h2 h3 h4 hK ⊢
  obtain ⟨n, hn⟩ : ∃ n, n = L.length := ⟨_, rfl⟩
  cbv; repeat' ((first | refine .e ?_ | refine .n fun h => ?_ | refine .y fun h => ?_ | refine .q fun z hz hz0 hz1 => ?_ | refine .mk (fun h => ?_) fun h => ?_ | refine .k fun z hz => ?_ | refine .o ?_ | refine .l fun ys hys hyl => ?_ | refine .zl fun zs hzs hzl => ?_ | refine .u fun u hu hul => ?_ | refine .z fun zs hzs => ?_ | refine .mk (fun h => ?_) ?_ | refine .ms fun ms hms => ?_ | refine .s fun s hs hsl => ?_ | refine And.intro ?_ ?_) <;> cbv)
  refine xloopV [] (fun p : { p : Nat // p ≤ L.length } => [(5, .i (nI p.1))]) (fun _ => []) (fun p => lft n p.1) ⟨0, Nat.zero_le _⟩ ?_
  rintro ⟨i, hi⟩
  dsimp only at hi ⊢
  cbv; repeat' ((first | refine .e ?_ | refine .n fun h => ?_ | refine .y fun h => ?_ | refine .q fun z hz hz0 hz1 => ?_ | refine .mk (fun h => ?_) fun h => ?_ | refine .k fun z hz => ?_ | refine .o ?_ | refine .l fun ys hys hyl => ?_ | refine .zl fun zs hzs hzl => ?_ | refine .u fun u hu hul => ?_ | refine .z fun zs hzs => ?_ | refine .mk (fun h => ?_) ?_ | refine .ms fun ms hms => ?_ | refine .s fun s hs hsl => ?_ | refine And.intro ?_ ?_) <;> cbv)
  · have hil : i < L.length := by ((try simp only [vn] at *) <;> omega)
    obtain ⟨l, hg⟩ := some_at hil
    obtain ⟨l2, hg2⟩ := some_at (show i < L2.length by omega)
    have he := h3 i l l2 hg hg2
    have hs := h4 l2 (mem_some hg2)
    obtain ⟨T0, hT0⟩ : ∃ T, T = textF l2 := ⟨_, rfl⟩
    obtain ⟨frm, to, number, kind, ack, deal, text, party, index, day, cur, amt, docs, boxes⟩ := l
    unfold withAck at he
    dsimp only at he
    subst he
    cbv; repeat' ((first | refine .e ?_ | refine .n fun h => ?_ | refine .y fun h => ?_ | refine .q fun z hz hz0 hz1 => ?_ | refine .mk (fun h => ?_) fun h => ?_ | refine .k fun z hz => ?_ | refine .o ?_ | refine .l fun ys hys hyl => ?_ | refine .zl fun zs hzs hzl => ?_ | refine .u fun u hu hul => ?_ | refine .z fun zs hzs => ?_ | refine .mk (fun h => ?_) ?_ | refine .ms fun ms hms => ?_ | refine .s fun s hs hsl => ?_ | refine And.intro ?_ ?_) <;> cbv)
    (refine callG_spec0 ht (LtA ⟨frm, to, number, kind, 0, deal, text, party, index, day, cur, amt, docs, boxes⟩, T0) ⟨_, rfl, hs, hT0⟩ rfl rfl rfl ?_; try dsimp only)
    cbv; repeat' ((first | refine .e ?_ | refine .n fun h => ?_ | refine .y fun h => ?_ | refine .q fun z hz hz0 hz1 => ?_ | refine .mk (fun h => ?_) fun h => ?_ | refine .k fun z hz => ?_ | refine .o ?_ | refine .l fun ys hys hyl => ?_ | refine .zl fun zs hzs hzl => ?_ | refine .u fun u hu hul => ?_ | refine .z fun zs hzs => ?_ | refine .mk (fun h => ?_) ?_ | refine .ms fun ms hms => ?_ | refine .s fun s hs hsl => ?_ | refine And.intro ?_ ?_) <;> cbv)
    (refine callG_spec0 ht (LtA ⟨frm, to, number, kind, 0, deal, text, party, index, day, cur, amt, docs, boxes⟩, T0) ⟨_, rfl, hs, hT0⟩ rfl rfl rfl ?_; try dsimp only)
    cbv; repeat' ((first | refine .e ?_ | refine .n fun h => ?_ | refine .y fun h => ?_ | refine .q fun z hz hz0 hz1 => ?_ | refine .mk (fun h => ?_) fun h => ?_ | refine .k fun z hz => ?_ | refine .o ?_ | refine .l fun ys hys hyl => ?_ | refine .zl fun zs hzs hzl => ?_ | refine .u fun u hu hul => ?_ | refine .z fun zs hzs => ?_ | refine .mk (fun h => ?_) ?_ | refine .ms fun ms hms => ?_ | refine .s fun s hs hsl => ?_ | refine And.intro ?_ ?_) <;> cbv)
    · obtain rfl := hz
      exact roundV ⟨i + 1, hil⟩ (lft_lt (by ((try simp only [vn] at *) <;> omega)))
    · exact absurd rfl h
  · exact FinK.mk ⟨_, Gh.refl _, .inl (CutK.val rfl (Le.refl _) hK)⟩
structure Nt where
  kind : Int
  n : Nat
noncomputable def NtA : Nt → AV
  | ⟨nk, nn⟩ => .agg [.int .u8 nk, .int .u8 (nI nn)]
def doR (S : Pr) (x : Nt) : Pr × Bool :=
  if x.kind = 0 ∨ x.kind = 1 then ({ S with a := dueE S.a, fly := S.fly ++ dueL S.a }, true) else if x.kind = 2 then ({ S with b := dueE S.b, fly := S.fly ++ dueL S.b }, true)
  else if x.kind = 8 then ({ S with a := sureE S.a S.a.got, b := sureE S.b S.b.got }, true)
  else if S.fly.length = 0 ∨ 200 < S.fly.length then (S, true) else
    match S.fly[x.n % S.fly.length]? with
    | none => (S, true)
    | some l => if x.kind = 7 then ({ S with fly := S.fly.eraseIdx (x.n % S.fly.length) }, true) else if x.kind = 3 ∨ x.kind = 4 ∨ x.kind = 5 then (comeS { S with fly := S.fly.eraseIdx (x.n % S.fly.length) } l, comeB S l)
      else if x.kind = 6 then ({ S with fly := S.fly ++ [l] }, true) else (S, true)
noncomputable def DoC : Ctr := spec (fun i : Pr × Nat × Nt => [.ptr 6 0, NtA i.2.2]) (fun i => PairH i.1) (fun i => FitP i.2.1 i.1 ∧ i.1.fly.length ≤ 5000 ∧ i.2.2.n < 256) (fun i => .bl (doR i.1 i.2.2).2) fun i => PairH (doR i.1 i.2.2).1
structure Fns3 (P : Program) : Prop where
  due : FnOk P 12 DueC
  sure : FnOk P 14 SureC
  got : FnOk P 15 GotC
  come : FnOk P 13 ComeC
theorem do_body (P : Program) (F : Fns3 P) : BodyOk P x11 DoC := by
  intro args H K hc
  obtain ⟨⟨S, M, x⟩, rfl, rfl, ⟨hi, hf, hxn⟩, hK⟩ := hc
  refine ⟨Nat.le_of_ble_eq_true rfl, ?_⟩
  dsimp only at hi hf hxn hK ⊢
  obtain ⟨Ea, hEa⟩ : ∃ R, R = dueE S.a := ⟨_, rfl⟩
  obtain ⟨Eb, hEb⟩ : ∃ R, R = dueE S.b := ⟨_, rfl⟩
  obtain ⟨Fa, hFa⟩ : ∃ R, R = sureE S.a S.a.got := ⟨_, rfl⟩
  obtain ⟨Fb, hFb⟩ : ∃ R, R = sureE S.b S.b.got := ⟨_, rfl⟩
  obtain ⟨Na, hNa⟩ : ∃ R, R = sureN S.a S.a.got := ⟨_, rfl⟩
  obtain ⟨Nb, hNb⟩ : ∃ R, R = sureN S.b S.b.got := ⟨_, rfl⟩
  obtain ⟨Da, hDa⟩ : ∃ R, R = dueL S.a := ⟨_, rfl⟩
  obtain ⟨Db, hDb⟩ : ∃ R, R = dueL S.b := ⟨_, rfl⟩
  have la := due_len hi.a
  have lb := due_len hi.b
  rw [← hDa] at la
  rw [← hDb] at lb
  have hK0 : x.kind = 0 ∨ x.kind = 1 → ∀ fl, fl = S.fly ++ Da → K (.bl true) (PairH { S with a := Ea, fly := fl }) := fun h fl e => by rw [doR, if_pos h] at hK; subst e hEa hDa; exact hK
  have hK2 : x.kind = 2 → ∀ fl, fl = S.fly ++ Db → K (.bl true) (PairH { S with b := Eb, fly := fl }) := fun h fl e => by rw [doR, if_neg (by omega), if_pos h] at hK; subst e hEb hDb; exact hK
  have hK8 : x.kind = 8 → K (.bl true) (PairH { S with a := Fa, b := Fb }) := fun h => by rw [doR, if_neg (by omega), if_neg (by omega), if_pos h] at hK; subst hFa hFb; exact hK
  have hKN : ¬ (x.kind = 0 ∨ x.kind = 1) → x.kind ≠ 2 → x.kind ≠ 8 → S.fly.length = 0 ∨ 200 < S.fly.length → K (.bl true) (PairH S) := fun h0 h2 h8 h => by rw [doR, if_neg h0, if_neg h2, if_neg h8, if_pos h] at hK; exact hK
  have hKl : ¬ (x.kind = 0 ∨ x.kind = 1) → x.kind ≠ 2 → x.kind ≠ 8 → ¬ (S.fly.length = 0 ∨ 200 < S.fly.length) → ∀ at_ l fl, at_ = x.n % S.fly.length → S.fly[at_]? = some l →
      (x.kind = 7 → fl = S.fly.eraseIdx at_ → K (.bl true) (PairH { S with fly := fl })) ∧ (x.kind = 3 ∨ x.kind = 4 ∨ x.kind = 5 → fl = S.fly.eraseIdx at_ → K (.bl (comeB { S with fly := fl } l)) (PairH (comeS { S with fly := fl } l))) ∧
      (x.kind = 6 → fl = S.fly ++ [l] → K (.bl true) (PairH { S with fly := fl })) ∧ (x.kind ≠ 7 → ¬ (x.kind = 3 ∨ x.kind = 4 ∨ x.kind = 5) → x.kind ≠ 6 → K (.bl true) (PairH S)) := fun h0 h2 h8 h at_ l fl e hg => by
    subst e
    rw [doR, if_neg h0, if_neg h2, if_neg h8, if_neg h, hg] at hK
    dsimp only at hK
    refine ⟨fun a e => ?_, fun a e => ?_, fun a e => ?_, fun a b c => ?_⟩
    · subst e; rw [if_pos a] at hK; exact hK
    · subst e; rw [if_neg (by omega), if_pos a] at hK; exact hK
    · subst e; rw [if_neg (by omega), if_neg (by omega), if_pos a] at hK; exact hK
    · rw [if_neg a, if_neg b, if_neg c] at hK; exact hK
  clear hK
  have ia := hi.a
  have ib := hi.b
  have hm := hi.m
  have hfl := hi.flyS
  have hiS := hi
  have hda := due_small hi.a (by omega)
  have hdb := due_small hi.b (by omega)
  obtain ⟨⟨self, other, out, wait, sent, got, sure, owes⟩, ⟨self2, other2, out2, wait2, sent2, got2, sure2, owes2⟩, fly, atA, atB, fromA, toA⟩ := S
  obtain ⟨⟩ := Ea
  obtain ⟨⟩ := Eb
  obtain ⟨⟩ := Fa
  obtain ⟨⟩ := Fb
  obtain ⟨nk, nn⟩ := x
  dsimp only at hxn hK0 hK2 hK8 hKN hKl hEa hEb hFa hFb hNa hNb hDa hDb ia ib hf hfl
  cbv; repeat' ((first | refine .e ?_ | refine .n fun h => ?_ | refine .y fun h => ?_ | refine .q fun z hz hz0 hz1 => ?_ | refine .mk (fun h => ?_) fun h => ?_ | refine .k fun z hz => ?_ | refine .o ?_ | refine .l fun ys hys hyl => ?_ | refine .zl fun zs hzs hzl => ?_ | refine .u fun u hu hul => ?_ | refine .z fun zs hzs => ?_ | refine .mk (fun h => ?_) ?_ | refine .ms fun ms hms => ?_ | refine .s fun s hs hsl => ?_ | refine And.intro ?_ ?_) <;> cbv)
  iterate 2
    · (refine callG_spec F.due (⟨self, other, out, wait, sent, got, sure, owes⟩, M) [0, 1, 2] ia rfl rfl (by decide) rfl rfl rfl rfl rfl ?_; try dsimp only)
      rw [← hEa, ← hDa]
      cbv; repeat' ((first | refine .e ?_ | refine .n fun h => ?_ | refine .y fun h => ?_ | refine .q fun z hz hz0 hz1 => ?_ | refine .mk (fun h => ?_) fun h => ?_ | refine .k fun z hz => ?_ | refine .o ?_ | refine .l fun ys hys hyl => ?_ | refine .zl fun zs hzs hzl => ?_ | refine .u fun u hu hul => ?_ | refine .z fun zs hzs => ?_ | refine .mk (fun h => ?_) ?_ | refine .ms fun ms hms => ?_ | refine .s fun s hs hsl => ?_ | refine And.intro ?_ ?_) <;> cbv)
      all_goals (first | exact FinK.mk ⟨_, Gh.refl _, .inl (CutK.pre _ (by rfl) (by exact Nat.le_of_ble_eq_true rfl) (by rfl) (by rfl) (Le.refl _) (LeH.refl _) (hK0 (by omega) ys hys))⟩ | skip)
      all_goals
        refine askEl_int (by ((try simp only [vn] at *) <;> omega)) (by ((try simp only [vn] at *) <;> omega)) (fun i l hi hl => ?_)
        obtain ⟨frm, to, number, kind, ack, deal, text, party, index, day, cur, amt, docs, boxes⟩ := l
        cbv; repeat' ((first | refine .e ?_ | refine .n fun h => ?_ | refine .y fun h => ?_ | refine .q fun z hz hz0 hz1 => ?_ | refine .mk (fun h => ?_) fun h => ?_ | refine .k fun z hz => ?_ | refine .o ?_ | refine .l fun ys hys hyl => ?_ | refine .zl fun zs hzs hzl => ?_ | refine .u fun u hu hul => ?_ | refine .z fun zs hzs => ?_ | refine .mk (fun h => ?_) ?_ | refine .ms fun ms hms => ?_ | refine .s fun s hs hsl => ?_ | refine And.intro ?_ ?_) <;> cbv)
        exact FinK.mk ⟨_, Gh.refl _, .inl (CutK.pre _ (by rfl) (by exact Nat.le_of_ble_eq_true rfl) (by rfl) (by rfl) (Le.refl _) (LeH.refl _) (hK0 (by omega) ys hys))⟩
  · (refine callG_spec F.due (⟨self2, other2, out2, wait2, sent2, got2, sure2, owes2⟩, M) [3, 4, 5] ib rfl rfl (by decide) rfl rfl rfl rfl rfl ?_; try dsimp only)
    rw [← hEb, ← hDb]
    cbv; repeat' ((first | refine .e ?_ | refine .n fun h => ?_ | refine .y fun h => ?_ | refine .q fun z hz hz0 hz1 => ?_ | refine .mk (fun h => ?_) fun h => ?_ | refine .k fun z hz => ?_ | refine .o ?_ | refine .l fun ys hys hyl => ?_ | refine .zl fun zs hzs hzl => ?_ | refine .u fun u hu hul => ?_ | refine .z fun zs hzs => ?_ | refine .mk (fun h => ?_) ?_ | refine .ms fun ms hms => ?_ | refine .s fun s hs hsl => ?_ | refine And.intro ?_ ?_) <;> cbv)
    all_goals (first | exact FinK.mk ⟨_, Gh.refl _, .inl (CutK.pre _ (by rfl) (by exact Nat.le_of_ble_eq_true rfl) (by rfl) (by rfl) (Le.refl _) (LeH.refl _) (hK2 (by omega) ys hys))⟩ | skip)
    all_goals
      refine askEl_int (by ((try simp only [vn] at *) <;> omega)) (by ((try simp only [vn] at *) <;> omega)) (fun i l hi hl => ?_)
      obtain ⟨frm, to, number, kind, ack, deal, text, party, index, day, cur, amt, docs, boxes⟩ := l
      cbv; repeat' ((first | refine .e ?_ | refine .n fun h => ?_ | refine .y fun h => ?_ | refine .q fun z hz hz0 hz1 => ?_ | refine .mk (fun h => ?_) fun h => ?_ | refine .k fun z hz => ?_ | refine .o ?_ | refine .l fun ys hys hyl => ?_ | refine .zl fun zs hzs hzl => ?_ | refine .u fun u hu hul => ?_ | refine .z fun zs hzs => ?_ | refine .mk (fun h => ?_) ?_ | refine .ms fun ms hms => ?_ | refine .s fun s hs hsl => ?_ | refine And.intro ?_ ?_) <;> cbv)
      exact FinK.mk ⟨_, Gh.refl _, .inl (CutK.pre _ (by rfl) (by exact Nat.le_of_ble_eq_true rfl) (by rfl) (by rfl) (Le.refl _) (LeH.refl _) (hK2 (by omega) ys hys))⟩
  · (refine callG_ro F.got 0 (rest := []) (fun x => (x 6, ⟨self, other, out, wait, sent, got, sure, owes⟩, M)) rfl rfl rfl rfl (fun _ => rfl) (fun x hx => ⟨rfl, ia, ?_⟩); try dsimp only)
    cbv; repeat' ((first | refine .e ?_ | refine .n fun h => ?_ | refine .y fun h => ?_ | refine .q fun z hz hz0 hz1 => ?_ | refine .mk (fun h => ?_) fun h => ?_ | refine .k fun z hz => ?_ | refine .o ?_ | refine .l fun ys hys hyl => ?_ | refine .zl fun zs hzs hzl => ?_ | refine .u fun u hu hul => ?_ | refine .z fun zs hzs => ?_ | refine .mk (fun h => ?_) ?_ | refine .ms fun ms hms => ?_ | refine .s fun s hs hsl => ?_ | refine And.intro ?_ ?_) <;> cbv)
    (refine callG_spec F.sure (⟨self, other, out, wait, sent, got, sure, owes⟩, M, got) [0, 1, 2] ia rfl rfl (by decide) rfl rfl rfl rfl rfl ?_; try dsimp only)
    rw [← hFa, ← hNa]
    cbv; repeat' ((first | refine .e ?_ | refine .n fun h => ?_ | refine .y fun h => ?_ | refine .q fun z hz hz0 hz1 => ?_ | refine .mk (fun h => ?_) fun h => ?_ | refine .k fun z hz => ?_ | refine .o ?_ | refine .l fun ys hys hyl => ?_ | refine .zl fun zs hzs hzl => ?_ | refine .u fun u hu hul => ?_ | refine .z fun zs hzs => ?_ | refine .mk (fun h => ?_) ?_ | refine .ms fun ms hms => ?_ | refine .s fun s hs hsl => ?_ | refine And.intro ?_ ?_) <;> cbv)
    (refine callG_ro F.got 3 (rest := []) (fun x => (x 6, ⟨self2, other2, out2, wait2, sent2, got2, sure2, owes2⟩, M)) rfl rfl rfl rfl (fun _ => rfl) (fun x hx => ⟨rfl, ib, ?_⟩); try dsimp only)
    cbv; repeat' ((first | refine .e ?_ | refine .n fun h => ?_ | refine .y fun h => ?_ | refine .q fun z hz hz0 hz1 => ?_ | refine .mk (fun h => ?_) fun h => ?_ | refine .k fun z hz => ?_ | refine .o ?_ | refine .l fun ys hys hyl => ?_ | refine .zl fun zs hzs hzl => ?_ | refine .u fun u hu hul => ?_ | refine .z fun zs hzs => ?_ | refine .mk (fun h => ?_) ?_ | refine .ms fun ms hms => ?_ | refine .s fun s hs hsl => ?_ | refine And.intro ?_ ?_) <;> cbv)
    (refine callG_spec F.sure (⟨self2, other2, out2, wait2, sent2, got2, sure2, owes2⟩, M, got2) [3, 4, 5] ib rfl rfl (by decide) rfl rfl rfl rfl rfl ?_; try dsimp only)
    rw [← hFb, ← hNb]
    cbv; repeat' ((first | refine .e ?_ | refine .n fun h => ?_ | refine .y fun h => ?_ | refine .q fun z hz hz0 hz1 => ?_ | refine .mk (fun h => ?_) fun h => ?_ | refine .k fun z hz => ?_ | refine .o ?_ | refine .l fun ys hys hyl => ?_ | refine .zl fun zs hzs hzl => ?_ | refine .u fun u hu hul => ?_ | refine .z fun zs hzs => ?_ | refine .mk (fun h => ?_) ?_ | refine .ms fun ms hms => ?_ | refine .s fun s hs hsl => ?_ | refine And.intro ?_ ?_) <;> cbv)
    all_goals (first | exact FinK.mk ⟨_, Gh.refl _, .inl (CutK.pre _ (by rfl) (by exact Nat.le_of_ble_eq_true rfl) (by rfl) (by rfl) (Le.refl _) (LeH.refl _) (hK8 (by omega)))⟩ | skip)
    all_goals
      refine askEl_int (by ((try simp only [vn] at *) <;> omega)) (by ((try simp only [vn] at *) <;> omega)) (fun i l hi hl => ?_)
      obtain ⟨frm, to, number, kind, ack, deal, text, party, index, day, cur, amt, docs, boxes⟩ := l
      cbv; repeat' ((first | refine .e ?_ | refine .n fun h => ?_ | refine .y fun h => ?_ | refine .q fun z hz hz0 hz1 => ?_ | refine .mk (fun h => ?_) fun h => ?_ | refine .k fun z hz => ?_ | refine .o ?_ | refine .l fun ys hys hyl => ?_ | refine .zl fun zs hzs hzl => ?_ | refine .u fun u hu hul => ?_ | refine .z fun zs hzs => ?_ | refine .mk (fun h => ?_) ?_ | refine .ms fun ms hms => ?_ | refine .s fun s hs hsl => ?_ | refine And.intro ?_ ?_) <;> cbv)
      exact FinK.mk ⟨_, Gh.refl _, .inl (CutK.pre _ (by rfl) (by exact Nat.le_of_ble_eq_true rfl) (by rfl) (by rfl) (Le.refl _) (LeH.refl _) (hK8 (by omega)))⟩
  · exact FinK.mk ⟨_, Gh.refl _, .inl (CutK.pre _ (by rfl) (by exact Nat.le_of_ble_eq_true rfl) (by rfl) (by rfl) (Le.refl _) (LeH.refl _) (hKN (by omega) (by omega) (by omega) (.inr (by ((try simp only [vn] at *) <;> omega)))))⟩
  · refine askEl_int (by ((try simp only [vn] at *) <;> omega)) (by ((try simp only [vn] at *) <;> omega)) (fun i l hi hl => ?_)
    have hat : i = nn % fly.length := by
      have e1 : nI i = (Int.ofNat nn).tmod (Int.ofNat fly.length) := by rw [← hi]; subst_vars; simp only [vn] at *; assumption
      have e2 : (Int.ofNat nn).tmod (Int.ofNat fly.length) = Int.ofNat (nn % fly.length) := rfl
      rw [e2] at e1
      exact Int.ofNat.inj e1
    subst hi
    have hil : i < fly.length := (List.getElem?_eq_some_iff.1 hl).1
    have hkk := hKl (by omega) (by omega) (by omega) (by ((try simp only [vn] at *) <;> omega)) i l
    have hls := hfl l (mem_some hl)
    have hel : (fly.eraseIdx i).length + 1 = fly.length := by rw [List.length_eraseIdx, if_pos hil]; omega
    obtain ⟨frm, to, number, kind, ack, deal, text, party, index, day, cur, amt, docs, boxes⟩ := l
    cbv; repeat' ((first | refine .e ?_ | refine .n fun h => ?_ | refine .y fun h => ?_ | refine .q fun z hz hz0 hz1 => ?_ | refine .mk (fun h => ?_) fun h => ?_ | refine .k fun z hz => ?_ | refine .o ?_ | refine .l fun ys hys hyl => ?_ | refine .zl fun zs hzs hzl => ?_ | refine .u fun u hu hul => ?_ | refine .z fun zs hzs => ?_ | refine .mk (fun h => ?_) ?_ | refine .ms fun ms hms => ?_ | refine .s fun s hs hsl => ?_ | refine And.intro ?_ ?_) <;> cbv)
    iterate 3
      · obtain rfl : ys = fly.eraseIdx i := by
          rw [List.eraseIdx_eq_take_drop_succ, hys]
          clear hat hkk
          congr 1
          all_goals
            subst_vars
            try simp
        refine callG_publish 14 rfl ?_
        cbv
        obtain ⟨S2, hS2⟩ : ∃ S2, S2 = comeS ⟨⟨self, other, out, wait, sent, got, sure, owes⟩, ⟨self2, other2, out2, wait2, sent2, got2, sure2, owes2⟩, fly.eraseIdx i, atA, atB, fromA, toA⟩ ⟨frm, to, number, kind, ack, deal, text, party, index, day, cur, amt, docs, boxes⟩ := ⟨_, rfl⟩
        obtain ⟨b2, hb2⟩ : ∃ b2, b2 = comeB ⟨⟨self, other, out, wait, sent, got, sure, owes⟩, ⟨self2, other2, out2, wait2, sent2, got2, sure2, owes2⟩, fly.eraseIdx i, atA, atB, fromA, toA⟩ ⟨frm, to, number, kind, ack, deal, text, party, index, day, cur, amt, docs, boxes⟩ := ⟨_, rfl⟩
        have hk := (hkk (fly.eraseIdx i) hat hl).2.1 (by omega) rfl
        rw [← hS2, ← hb2] at hk
        have hfp : FitP M ⟨⟨self, other, out, wait, sent, got, sure, owes⟩, ⟨self2, other2, out2, wait2, sent2, got2, sure2, owes2⟩, fly.eraseIdx i, atA, atB, fromA, toA⟩ := ⟨ia, ib, hm, by dsimp only; ((try simp only [vn] at *) <;> omega), hiS.atA, hiS.atB, fun l hl => hfl l (List.mem_of_mem_eraseIdx hl), hiS.atAS, hiS.atBS, hiS.fromS, hiS.toS⟩
        (refine callG_spec F.come (⟨⟨self, other, out, wait, sent, got, sure, owes⟩, ⟨self2, other2, out2, wait2, sent2, got2, sure2, owes2⟩, fly.eraseIdx i, atA, atB, fromA, toA⟩, M, ⟨frm, to, number, kind, ack, deal, text, party, index, day, cur, amt, docs, boxes⟩) [0, 1, 2, 3, 4, 5, 6, 14, 8, 9, 10, 11] ⟨hfp, hls⟩ rfl rfl (by decide) rfl rfl rfl rfl rfl ?_; try dsimp only)
        rw [← hS2, ← hb2]
        obtain ⟨⟨⟩, ⟨⟩⟩ := S2
        cbv; repeat' ((first | refine .e ?_ | refine .n fun h => ?_ | refine .y fun h => ?_ | refine .q fun z hz hz0 hz1 => ?_ | refine .mk (fun h => ?_) fun h => ?_ | refine .k fun z hz => ?_ | refine .o ?_ | refine .l fun ys hys hyl => ?_ | refine .zl fun zs hzs hzl => ?_ | refine .u fun u hu hul => ?_ | refine .z fun zs hzs => ?_ | refine .mk (fun h => ?_) ?_ | refine .ms fun ms hms => ?_ | refine .s fun s hs hsl => ?_ | refine And.intro ?_ ?_) <;> cbv)
        (refine FinK.mk ⟨_, (Gh.refl _), ?_⟩; cbv; exact .inl (CutK.sel [0, 1, 2, 3, 4, 5, 6, 14, 8, 9, 10, 11] _ _ (by rfl) (by rfl) (by decide) (by rfl) (by exact Nat.le_of_ble_eq_true rfl) (by rfl) (by rfl) (Le.refl _) (LeH.refl _) hk))
    · obtain rfl : ys = fly.eraseIdx i := by
        rw [List.eraseIdx_eq_take_drop_succ, hys]
        clear hat hkk
        congr 1
        all_goals
          subst_vars
          try simp
      have hk := (hkk (fly.eraseIdx i) hat hl).1 (by omega) rfl
      (refine FinK.mk ⟨_, (Gh.publish 14 rfl), ?_⟩; cbv; exact .inl (CutK.sel [0, 1, 2, 3, 4, 5, 6, 14, 8, 9, 10, 11] _ _ (by rfl) (by rfl) (by decide) (by rfl) (by exact Nat.le_of_ble_eq_true rfl) (by rfl) (by rfl) (Le.refl _) (LeH.refl _) hk))
    · obtain rfl : zs = mapA LtA (fly ++ [⟨frm, to, number, kind, ack, deal, text, party, index, day, cur, amt, docs, boxes⟩]) := by (rw [mapA_app, mapA_one]; first | exact hzs | (subst_vars; rfl))
      exact FinK.mk ⟨_, Gh.refl _, .inl (CutK.pre _ (by rfl) (by exact Nat.le_of_ble_eq_true rfl) (by rfl) (by rfl) (Le.refl _) (LeH.refl _) ((hkk _ hat hl).2.2.1 (by omega) rfl))⟩
    · exact FinK.mk ⟨_, Gh.refl _, .inl (CutK.pre _ (by rfl) (by exact Nat.le_of_ble_eq_true rfl) (by rfl) (by rfl) (Le.refl _) (LeH.refl _) ((hkk fly hat hl).2.2.2 (by omega) (by omega) (by omega)))⟩
  iterate 2
    · (refine callG_spec F.due (⟨self, other, out, wait, sent, got, sure, owes⟩, M) [0, 1, 2] ia rfl rfl (by decide) rfl rfl rfl rfl rfl ?_; try dsimp only)
      rw [← hEa, ← hDa]
      cbv; repeat' ((first | refine .e ?_ | refine .n fun h => ?_ | refine .y fun h => ?_ | refine .q fun z hz hz0 hz1 => ?_ | refine .mk (fun h => ?_) fun h => ?_ | refine .k fun z hz => ?_ | refine .o ?_ | refine .l fun ys hys hyl => ?_ | refine .zl fun zs hzs hzl => ?_ | refine .u fun u hu hul => ?_ | refine .z fun zs hzs => ?_ | refine .mk (fun h => ?_) ?_ | refine .ms fun ms hms => ?_ | refine .s fun s hs hsl => ?_ | refine And.intro ?_ ?_) <;> cbv)
      all_goals (first | exact FinK.mk ⟨_, Gh.refl _, .inl (CutK.pre _ (by rfl) (by exact Nat.le_of_ble_eq_true rfl) (by rfl) (by rfl) (Le.refl _) (LeH.refl _) (hK0 (by omega) ys hys))⟩ | skip)
      all_goals
        refine askEl_int (by ((try simp only [vn] at *) <;> omega)) (by ((try simp only [vn] at *) <;> omega)) (fun i l hi hl => ?_)
        obtain ⟨frm, to, number, kind, ack, deal, text, party, index, day, cur, amt, docs, boxes⟩ := l
        cbv; repeat' ((first | refine .e ?_ | refine .n fun h => ?_ | refine .y fun h => ?_ | refine .q fun z hz hz0 hz1 => ?_ | refine .mk (fun h => ?_) fun h => ?_ | refine .k fun z hz => ?_ | refine .o ?_ | refine .l fun ys hys hyl => ?_ | refine .zl fun zs hzs hzl => ?_ | refine .u fun u hu hul => ?_ | refine .z fun zs hzs => ?_ | refine .mk (fun h => ?_) ?_ | refine .ms fun ms hms => ?_ | refine .s fun s hs hsl => ?_ | refine And.intro ?_ ?_) <;> cbv)
        exact FinK.mk ⟨_, Gh.refl _, .inl (CutK.pre _ (by rfl) (by exact Nat.le_of_ble_eq_true rfl) (by rfl) (by rfl) (Le.refl _) (LeH.refl _) (hK0 (by omega) ys hys))⟩
  · (refine callG_spec F.due (⟨self2, other2, out2, wait2, sent2, got2, sure2, owes2⟩, M) [3, 4, 5] ib rfl rfl (by decide) rfl rfl rfl rfl rfl ?_; try dsimp only)
    rw [← hEb, ← hDb]
    cbv; repeat' ((first | refine .e ?_ | refine .n fun h => ?_ | refine .y fun h => ?_ | refine .q fun z hz hz0 hz1 => ?_ | refine .mk (fun h => ?_) fun h => ?_ | refine .k fun z hz => ?_ | refine .o ?_ | refine .l fun ys hys hyl => ?_ | refine .zl fun zs hzs hzl => ?_ | refine .u fun u hu hul => ?_ | refine .z fun zs hzs => ?_ | refine .mk (fun h => ?_) ?_ | refine .ms fun ms hms => ?_ | refine .s fun s hs hsl => ?_ | refine And.intro ?_ ?_) <;> cbv)
    all_goals (first | exact FinK.mk ⟨_, Gh.refl _, .inl (CutK.pre _ (by rfl) (by exact Nat.le_of_ble_eq_true rfl) (by rfl) (by rfl) (Le.refl _) (LeH.refl _) (hK2 (by omega) ys hys))⟩ | skip)
    all_goals
      refine askEl_int (by ((try simp only [vn] at *) <;> omega)) (by ((try simp only [vn] at *) <;> omega)) (fun i l hi hl => ?_)
      obtain ⟨frm, to, number, kind, ack, deal, text, party, index, day, cur, amt, docs, boxes⟩ := l
      cbv; repeat' ((first | refine .e ?_ | refine .n fun h => ?_ | refine .y fun h => ?_ | refine .q fun z hz hz0 hz1 => ?_ | refine .mk (fun h => ?_) fun h => ?_ | refine .k fun z hz => ?_ | refine .o ?_ | refine .l fun ys hys hyl => ?_ | refine .zl fun zs hzs hzl => ?_ | refine .u fun u hu hul => ?_ | refine .z fun zs hzs => ?_ | refine .mk (fun h => ?_) ?_ | refine .ms fun ms hms => ?_ | refine .s fun s hs hsl => ?_ | refine And.intro ?_ ?_) <;> cbv)
      exact FinK.mk ⟨_, Gh.refl _, .inl (CutK.pre _ (by rfl) (by exact Nat.le_of_ble_eq_true rfl) (by rfl) (by rfl) (Le.refl _) (LeH.refl _) (hK2 (by omega) ys hys))⟩
  · (refine callG_ro F.got 0 (rest := []) (fun x => (x 6, ⟨self, other, out, wait, sent, got, sure, owes⟩, M)) rfl rfl rfl rfl (fun _ => rfl) (fun x hx => ⟨rfl, ia, ?_⟩); try dsimp only)
    cbv; repeat' ((first | refine .e ?_ | refine .n fun h => ?_ | refine .y fun h => ?_ | refine .q fun z hz hz0 hz1 => ?_ | refine .mk (fun h => ?_) fun h => ?_ | refine .k fun z hz => ?_ | refine .o ?_ | refine .l fun ys hys hyl => ?_ | refine .zl fun zs hzs hzl => ?_ | refine .u fun u hu hul => ?_ | refine .z fun zs hzs => ?_ | refine .mk (fun h => ?_) ?_ | refine .ms fun ms hms => ?_ | refine .s fun s hs hsl => ?_ | refine And.intro ?_ ?_) <;> cbv)
    (refine callG_spec F.sure (⟨self, other, out, wait, sent, got, sure, owes⟩, M, got) [0, 1, 2] ia rfl rfl (by decide) rfl rfl rfl rfl rfl ?_; try dsimp only)
    rw [← hFa, ← hNa]
    cbv; repeat' ((first | refine .e ?_ | refine .n fun h => ?_ | refine .y fun h => ?_ | refine .q fun z hz hz0 hz1 => ?_ | refine .mk (fun h => ?_) fun h => ?_ | refine .k fun z hz => ?_ | refine .o ?_ | refine .l fun ys hys hyl => ?_ | refine .zl fun zs hzs hzl => ?_ | refine .u fun u hu hul => ?_ | refine .z fun zs hzs => ?_ | refine .mk (fun h => ?_) ?_ | refine .ms fun ms hms => ?_ | refine .s fun s hs hsl => ?_ | refine And.intro ?_ ?_) <;> cbv)
    (refine callG_ro F.got 3 (rest := []) (fun x => (x 6, ⟨self2, other2, out2, wait2, sent2, got2, sure2, owes2⟩, M)) rfl rfl rfl rfl (fun _ => rfl) (fun x hx => ⟨rfl, ib, ?_⟩); try dsimp only)
    cbv; repeat' ((first | refine .e ?_ | refine .n fun h => ?_ | refine .y fun h => ?_ | refine .q fun z hz hz0 hz1 => ?_ | refine .mk (fun h => ?_) fun h => ?_ | refine .k fun z hz => ?_ | refine .o ?_ | refine .l fun ys hys hyl => ?_ | refine .zl fun zs hzs hzl => ?_ | refine .u fun u hu hul => ?_ | refine .z fun zs hzs => ?_ | refine .mk (fun h => ?_) ?_ | refine .ms fun ms hms => ?_ | refine .s fun s hs hsl => ?_ | refine And.intro ?_ ?_) <;> cbv)
    (refine callG_spec F.sure (⟨self2, other2, out2, wait2, sent2, got2, sure2, owes2⟩, M, got2) [3, 4, 5] ib rfl rfl (by decide) rfl rfl rfl rfl rfl ?_; try dsimp only)
    rw [← hFb, ← hNb]
    cbv; repeat' ((first | refine .e ?_ | refine .n fun h => ?_ | refine .y fun h => ?_ | refine .q fun z hz hz0 hz1 => ?_ | refine .mk (fun h => ?_) fun h => ?_ | refine .k fun z hz => ?_ | refine .o ?_ | refine .l fun ys hys hyl => ?_ | refine .zl fun zs hzs hzl => ?_ | refine .u fun u hu hul => ?_ | refine .z fun zs hzs => ?_ | refine .mk (fun h => ?_) ?_ | refine .ms fun ms hms => ?_ | refine .s fun s hs hsl => ?_ | refine And.intro ?_ ?_) <;> cbv)
    all_goals (first | exact FinK.mk ⟨_, Gh.refl _, .inl (CutK.pre _ (by rfl) (by exact Nat.le_of_ble_eq_true rfl) (by rfl) (by rfl) (Le.refl _) (LeH.refl _) (hK8 (by omega)))⟩ | skip)
    all_goals
      refine askEl_int (by ((try simp only [vn] at *) <;> omega)) (by ((try simp only [vn] at *) <;> omega)) (fun i l hi hl => ?_)
      obtain ⟨frm, to, number, kind, ack, deal, text, party, index, day, cur, amt, docs, boxes⟩ := l
      cbv; repeat' ((first | refine .e ?_ | refine .n fun h => ?_ | refine .y fun h => ?_ | refine .q fun z hz hz0 hz1 => ?_ | refine .mk (fun h => ?_) fun h => ?_ | refine .k fun z hz => ?_ | refine .o ?_ | refine .l fun ys hys hyl => ?_ | refine .zl fun zs hzs hzl => ?_ | refine .u fun u hu hul => ?_ | refine .z fun zs hzs => ?_ | refine .mk (fun h => ?_) ?_ | refine .ms fun ms hms => ?_ | refine .s fun s hs hsl => ?_ | refine And.intro ?_ ?_) <;> cbv)
      exact FinK.mk ⟨_, Gh.refl _, .inl (CutK.pre _ (by rfl) (by exact Nat.le_of_ble_eq_true rfl) (by rfl) (by rfl) (Le.refl _) (LeH.refl _) (hK8 (by omega)))⟩
  · exact FinK.mk ⟨_, Gh.refl _, .inl (CutK.pre _ (by rfl) (by exact Nat.le_of_ble_eq_true rfl) (by rfl) (by rfl) (Le.refl _) (LeH.refl _) (hKN (by omega) (by omega) (by omega) (.inl (by ((try simp only [vn] at *) <;> omega)))))⟩
/-! Two ends that send letters. -/
def seed (kind : Int) (i : Nat) : Lt := ⟨⟨#[]⟩, ⟨#[]⟩, 0, kind, 0, ⟨#[]⟩, ⟨#[]⟩, ⟨#[]⟩, nI i, 0, ⟨#[]⟩, 0, [], []⟩
/-- The letters that are sent first. -/
def sentL (a b : ByteArray) (kind : Int) : Nat → List Lt
  | 0 => []
  | n + 1 => sentL a b kind n ++ [⟨a, b, nI (n + 1), kind, 0, ⟨#[]⟩, ⟨#[]⟩, ⟨#[]⟩, nI n, 0, ⟨#[]⟩, 0, [], []⟩]
theorem sentL_len (a b : ByteArray) (kind : Int) : ∀ n, (sentL a b kind n).length = n
  | 0 => rfl
  | n + 1 => by unfold sentL; rw [List.length_append, sentL_len a b kind n]; rfl
def madeE (a b : ByteArray) (kind : Int) (n : Nat) : En := ⟨a, b, sentL a b kind n, [], nI n, 0, 0, false⟩
def madeS (there back : Nat) : Pr := ⟨madeE ⟨#[112]⟩ ⟨#[113]⟩ 0 there, madeE ⟨#[113]⟩ ⟨#[112]⟩ 13 back, [], [], [], sentL ⟨#[112]⟩ ⟨#[113]⟩ 0 there, sentL ⟨#[113]⟩ ⟨#[112]⟩ 13 back⟩
end Go.Proofs.Ytaflinfpmbfieaa
namespace Go.Proofs.Ytaflinfpmbfieaa
open Go.RowKit
set_option maxHeartbeats 4000000
set_option maxRecDepth 100000
def sentX (a b : ByteArray) (kind : Int) (i : Nat) : Lt := ⟨a, b, nI i + 1, kind, 0, ⟨#[]⟩, ⟨#[]⟩, ⟨#[]⟩, nI i, 0, ⟨#[]⟩, 0, [], []⟩
theorem seed_small (k : Int) (i : Nat) (hk : 0 ≤ k ∧ k ≤ 28) (hi : i ≤ 100) : Small (seed k i) := by
  have z := zeroL_small
  exact ⟨z.frm, z.to, z.deal, z.text, z.party, z.cur, z.number, by unfold i64 seed; dsimp only; omega, z.ack, by unfold i64 seed; dsimp only; rw [nI_eq]; omega, z.day, z.amt, z.docs, z.boxes, z.each, z.eachB⟩
theorem made_send (a b : ByteArray) (k : Int) (n : Nat) (hk : k ≠ 28) (hn : n ≤ 100) : sendL (madeE a b k n) (seed k n) = sentX a b k n ∧ sendE (madeE a b k n) (seed k n) = madeE a b k (n + 1) := by
  have hno : ¬ noSend (madeE a b k n) (seed k n) := by
    rintro (h | h | h)
    · exact hk h
    · rw [show (madeE a b k n).out.length = n from sentL_len a b k n] at h; omega
    · have : (madeE a b k n).sent = nI n := rfl
      rw [this, nI_eq] at h; omega
  rw [sendL, sendE, if_neg hno, if_neg hno]
  exact ⟨rfl, rfl⟩
theorem made_inv (a b : ByteArray) (k : Int) (ha : a.size ≤ 100) (hb : b.size ≤ 100) (hk : 0 ≤ k ∧ k < 28) : ∀ n, n ≤ 100 → InvE 0 (madeE a b k n)
  | 0, _ => newE_inv ha hb
  | n + 1, h => by
    rw [← (made_send a b k n (by omega) (by omega)).2]
    exact (made_inv a b k ha hb hk n (by omega)).send (seed_small k n (by omega) (by omega))
noncomputable def MadeC : Ctr := spec (fun i : Nat × Nat => [.i (nI i.1), .i (nI i.2)]) (fun _ => []) (fun i => i.1 ≤ 12 ∧ i.2 ≤ 12) (fun _ => .ptr 6 0) fun i => PairH (madeS i.1 i.2)
theorem made_body (P : Program) (hnew : FnOk P 20 NewC) (hsend : FnOk P 31 SendC) : BodyOk P x10 MadeC := by
  intro args H K hc
  obtain ⟨⟨th, bk⟩, rfl, rfl, ⟨h1, h2⟩, hK⟩ := hc
  refine ⟨Nat.le_of_ble_eq_true rfl, ?_⟩
  dsimp only at h1 h2 hK ⊢
  cbv; repeat' ((first | refine .e ?_ | refine .n fun h => ?_ | refine .y fun h => ?_ | refine .q fun z hz hz0 hz1 => ?_ | refine .mk (fun h => ?_) fun h => ?_ | refine .k fun z hz => ?_ | refine .o ?_ | refine .l fun ys hys hyl => ?_ | refine .zl fun zs hzs hzl => ?_ | refine .u fun u hu hul => ?_ | refine .z fun zs hzs => ?_ | refine .mk (fun h => ?_) ?_ | refine .ms fun ms hms => ?_ | refine .s fun s hs hsl => ?_ | refine And.intro ?_ ?_) <;> cbv)
  (refine callG_new hnew (⟨#[112]⟩, ⟨#[113]⟩) ⟨⟨by decide, by decide⟩, by rfl⟩ rfl rfl ?_; try dsimp only)
  cbv; repeat' ((first | refine .e ?_ | refine .n fun h => ?_ | refine .y fun h => ?_ | refine .q fun z hz hz0 hz1 => ?_ | refine .mk (fun h => ?_) fun h => ?_ | refine .k fun z hz => ?_ | refine .o ?_ | refine .l fun ys hys hyl => ?_ | refine .zl fun zs hzs hzl => ?_ | refine .u fun u hu hul => ?_ | refine .z fun zs hzs => ?_ | refine .mk (fun h => ?_) ?_ | refine .ms fun ms hms => ?_ | refine .s fun s hs hsl => ?_ | refine And.intro ?_ ?_) <;> cbv)
  (refine callG_new hnew (⟨#[113]⟩, ⟨#[112]⟩) ⟨⟨by decide, by decide⟩, by rfl⟩ rfl rfl ?_; try dsimp only)
  cbv; repeat' ((first | refine .e ?_ | refine .n fun h => ?_ | refine .y fun h => ?_ | refine .q fun z hz hz0 hz1 => ?_ | refine .mk (fun h => ?_) fun h => ?_ | refine .k fun z hz => ?_ | refine .o ?_ | refine .l fun ys hys hyl => ?_ | refine .zl fun zs hzs hzl => ?_ | refine .u fun u hu hul => ?_ | refine .z fun zs hzs => ?_ | refine .mk (fun h => ?_) ?_ | refine .ms fun ms hms => ?_ | refine .s fun s hs hsl => ?_ | refine And.intro ?_ ?_) <;> cbv)
  refine xloopG (Gh.adoptC 6 2 40 14 rfl rfl) ?_
  cbv
  refine xloopG (Gh.publish 7 rfl) ?_
  cbv
  refine xloopG (Gh.adoptC 6 3 40 14 rfl rfl) ?_
  cbv
  refine xloopG (Gh.publish 8 rfl) ?_
  cbv
  refine xloopG (Gh.adoptC 6 4 40 14 rfl rfl) ?_
  cbv
  refine xloopG (Gh.publish 9 rfl) ?_
  cbv
  refine xloopG (Gh.adoptC 6 5 40 14 rfl rfl) ?_
  cbv
  refine xloopG (Gh.publish 10 rfl) ?_
  cbv
  refine xloopG (Gh.adoptC 6 6 40 14 rfl rfl) ?_
  cbv
  refine xloopG (Gh.publish 11 rfl) ?_
  cbv
  refine xloopV [] (fun p : { p : Nat × List Lt // p.1 ≤ th ∧ p.2 = sentL ⟨#[112]⟩ ⟨#[113]⟩ 0 p.1 } => [(6, .i (nI p.1.1))]) (fun p => PairH ⟨⟨⟨#[112]⟩, ⟨#[113]⟩, p.1.2, [], nI p.1.1, 0, 0, false⟩, ⟨⟨#[113]⟩, ⟨#[112]⟩, [], [], 0, 0, 0, false⟩, [], [], [], p.1.2, []⟩) (fun p => lft th p.1.1) ⟨(0, []), Nat.zero_le _, rfl⟩ ?_
  rintro ⟨⟨i, L⟩, hi, hL⟩
  dsimp only at hi hL
  cbv; repeat' ((first | refine .e ?_ | refine .n fun h => ?_ | refine .y fun h => ?_ | refine .q fun z hz hz0 hz1 => ?_ | refine .mk (fun h => ?_) fun h => ?_ | refine .k fun z hz => ?_ | refine .o ?_ | refine .l fun ys hys hyl => ?_ | refine .zl fun zs hzs hzl => ?_ | refine .u fun u hu hul => ?_ | refine .z fun zs hzs => ?_ | refine .mk (fun h => ?_) ?_ | refine .ms fun ms hms => ?_ | refine .s fun s hs hsl => ?_ | refine And.intro ?_ ?_) <;> cbv)
  · have hinv := made_inv ⟨#[112]⟩ ⟨#[113]⟩ 0 (by decide) (by decide) (by decide) i (by omega)
    obtain ⟨es1, es2⟩ := made_send ⟨#[112]⟩ ⟨#[113]⟩ 0 i (by decide) (by omega)
    rw [madeE, ← hL] at hinv es1 es2
    have hLl : L.length = i := by rw [hL]; exact sentL_len _ _ _ _
    obtain ⟨L', hL'⟩ : ∃ L', L' = L ++ [sentX ⟨#[112]⟩ ⟨#[113]⟩ 0 i] := ⟨_, rfl⟩
    have hL2 : L' = sentL ⟨#[112]⟩ ⟨#[113]⟩ 0 (i + 1) := by rw [hL', hL]; rfl
    rw [madeE, ← hL2] at es2
    refine callG_le [.ptr 0 0, LtA (seed 0 i)] (by repeat' (first | exact LeL.nil | exact LeL0.nil | exact LeH.nil | exact LeE.refl _ | exact Le.refl _ | exact Le0.one (.refl _) | exact Le0.one (.nil _) | exact Le1.refl _ | exact Le1.nil _ | refine LeH.cons ?_ ?_ | refine LeE.row ?_ | refine LeE.blk ?_ | refine LeL0.cons ?_ ?_ | refine LeL.cons ?_ ?_ | refine Le0.agg ?_ | refine Le.tup ?_ | exact Le.one (.one (.nil _)) | refine Le.one (.agg ?_))) ?_
    (refine callG_spec hsend (⟨⟨#[112]⟩, ⟨#[113]⟩, L, [], nI i, 0, 0, false⟩, 0, seed 0 i) [0, 1, 2] ⟨hinv, seed_small 0 i (by decide) (by omega)⟩ rfl rfl (by decide) rfl rfl rfl rfl rfl ?_; try dsimp only)
    rw [es1, es2]
    cbv; repeat' ((first | refine .e ?_ | refine .n fun h => ?_ | refine .y fun h => ?_ | refine .q fun z hz hz0 hz1 => ?_ | refine .mk (fun h => ?_) fun h => ?_ | refine .k fun z hz => ?_ | refine .o ?_ | refine .l fun ys hys hyl => ?_ | refine .zl fun zs hzs hzl => ?_ | refine .u fun u hu hul => ?_ | refine .z fun zs hzs => ?_ | refine .mk (fun h => ?_) ?_ | refine .ms fun ms hms => ?_ | refine .s fun s hs hsl => ?_ | refine And.intro ?_ ?_) <;> cbv)
    obtain rfl : zs = mapA LtA L' := by rw [hL', mapA_app, mapA_one]; exact hzs
    obtain rfl := hz
    exact roundV ⟨(i + 1, L'), by dsimp only; ((try simp only [vn] at *) <;> omega), hL2⟩ (lft_lt (by ((try simp only [vn] at *) <;> omega)))
  · obtain rfl : i = th := by ((try simp only [vn] at *) <;> omega)
    refine xloopV [] (fun p : { p : Nat × List Lt // p.1 ≤ bk ∧ p.2 = sentL ⟨#[113]⟩ ⟨#[112]⟩ 13 p.1 } => [(7, .i (nI p.1.1))]) (fun p => PairH ⟨⟨⟨#[112]⟩, ⟨#[113]⟩, L, [], nI i, 0, 0, false⟩, ⟨⟨#[113]⟩, ⟨#[112]⟩, p.1.2, [], nI p.1.1, 0, 0, false⟩, [], [], [], L, p.1.2⟩) (fun p => lft bk p.1.1) ⟨(0, []), Nat.zero_le _, rfl⟩ ?_
    rintro ⟨⟨j, L2⟩, hj, hL2⟩
    dsimp only at hj hL2
    cbv; repeat' ((first | refine .e ?_ | refine .n fun h => ?_ | refine .y fun h => ?_ | refine .q fun z hz hz0 hz1 => ?_ | refine .mk (fun h => ?_) fun h => ?_ | refine .k fun z hz => ?_ | refine .o ?_ | refine .l fun ys hys hyl => ?_ | refine .zl fun zs hzs hzl => ?_ | refine .u fun u hu hul => ?_ | refine .z fun zs hzs => ?_ | refine .mk (fun h => ?_) ?_ | refine .ms fun ms hms => ?_ | refine .s fun s hs hsl => ?_ | refine And.intro ?_ ?_) <;> cbv)
    · have hinv := made_inv ⟨#[113]⟩ ⟨#[112]⟩ 13 (by decide) (by decide) (by decide) j (by omega)
      obtain ⟨es1, es2⟩ := made_send ⟨#[113]⟩ ⟨#[112]⟩ 13 j (by decide) (by omega)
      rw [madeE, ← hL2] at hinv es1 es2
      have hLl : L2.length = j := by rw [hL2]; exact sentL_len _ _ _ _
      obtain ⟨L', hL'⟩ : ∃ L', L' = L2 ++ [sentX ⟨#[113]⟩ ⟨#[112]⟩ 13 j] := ⟨_, rfl⟩
      have hL3 : L' = sentL ⟨#[113]⟩ ⟨#[112]⟩ 13 (j + 1) := by rw [hL', hL2]; rfl
      rw [madeE, ← hL3] at es2
      refine callG_le [.ptr 3 0, LtA (seed 13 j)] (by repeat' (first | exact LeL.nil | exact LeL0.nil | exact LeH.nil | exact LeE.refl _ | exact Le.refl _ | exact Le0.one (.refl _) | exact Le0.one (.nil _) | exact Le1.refl _ | exact Le1.nil _ | refine LeH.cons ?_ ?_ | refine LeE.row ?_ | refine LeE.blk ?_ | refine LeL0.cons ?_ ?_ | refine LeL.cons ?_ ?_ | refine Le0.agg ?_ | refine Le.tup ?_ | exact Le.one (.one (.nil _)) | refine Le.one (.agg ?_))) ?_
      (refine callG_spec hsend (⟨⟨#[113]⟩, ⟨#[112]⟩, L2, [], nI j, 0, 0, false⟩, 0, seed 13 j) [3, 4, 5] ⟨hinv, seed_small 13 j (by decide) (by omega)⟩ rfl rfl (by decide) rfl rfl rfl rfl rfl ?_; try dsimp only)
      rw [es1, es2]
      cbv; repeat' ((first | refine .e ?_ | refine .n fun h => ?_ | refine .y fun h => ?_ | refine .q fun z hz hz0 hz1 => ?_ | refine .mk (fun h => ?_) fun h => ?_ | refine .k fun z hz => ?_ | refine .o ?_ | refine .l fun ys hys hyl => ?_ | refine .zl fun zs hzs hzl => ?_ | refine .u fun u hu hul => ?_ | refine .z fun zs hzs => ?_ | refine .mk (fun h => ?_) ?_ | refine .ms fun ms hms => ?_ | refine .s fun s hs hsl => ?_ | refine And.intro ?_ ?_) <;> cbv)
      obtain rfl : zs = mapA LtA L' := by rw [hL', mapA_app, mapA_one]; exact hzs
      obtain rfl := hz
      exact roundV ⟨(j + 1, L'), by dsimp only; ((try simp only [vn] at *) <;> omega), hL3⟩ (lft_lt (by ((try simp only [vn] at *) <;> omega)))
    · obtain rfl : j = bk := by ((try simp only [vn] at *) <;> omega)
      have hm : madeS i j = ⟨⟨⟨#[112]⟩, ⟨#[113]⟩, L, [], nI i, 0, 0, false⟩, ⟨⟨#[113]⟩, ⟨#[112]⟩, L2, [], nI j, 0, 0, false⟩, [], [], [], L, L2⟩ := by rw [hL, hL2]; rfl
      rw [hm] at hK
      exact FinK.mk ⟨_, Gh.refl _, .inl (CutK.pre _ (by rfl) (by exact Nat.le_of_ble_eq_true rfl) (by rfl) (by rfl) (Le.refl _) (LeH.refl _) hK)⟩
end Go.Proofs.Ytaflinfpmbfieaa
namespace Go.Proofs.Ytaflinfpmbfieaa
set_option maxRecDepth 100000
/-! The protocol, in plain words: what a receiver was told is a beginning of what was sent. -/
structure Sentt (S : En) (F : List Lt) : Prop where
  sent : S.sent = F.length
  each : ∀ (i : Nat) x, F[i]? = some x → x.number = i + 1 ∧ x.frm = S.self ∧ x.to = S.other ∧ x.kind ≠ 28 ∧ x.ack = 0
  len : S.out.length ≤ F.length
  out : S.out = F.drop (F.length - S.out.length)
structure Rec (R : En) (F T : List Lt) : Prop where
  len : T.length ≤ F.length
  told : T.map (withAck 0) = F.take T.length
  got : R.got = T.length
  wait : ∀ x ∈ R.wait, ∃ (i : Nat) (y : Lt), F[i]? = some y ∧ withAck 0 x = y
  quiet : at_ R.wait (R.got + 1) = none
structure Dir (S R : En) (F T : List Lt) : Prop where
  names : S.self = R.other ∧ S.other = R.self
  snd : Sentt S F
  rcv : Rec R F T
  acked : (F.length : Int) - S.out.length ≤ R.sure
structure Fl (S : En) (F : List Lt) (l : Lt) : Prop where
  frm : l.frm = S.self
  to : l.to = S.other
  ack0 : 0 ≤ l.ack
  ack1 : l.ack ≤ S.sure
  body : (l.kind = 28 ∧ l.number = 0) ∨ (l.kind ≠ 28 ∧ ∃ (i : Nat) (y : Lt), F[i]? = some y ∧ withAck 0 l = y)
theorem pull_rec {F : List Lt} : ∀ (n : Nat) (E : En) (t T : List Lt), T.length ≤ F.length → T.map (withAck 0) = F.take T.length → E.got = T.length → (∀ x ∈ E.wait, ∃ (i : Nat) (y : Lt), F[i]? = some y ∧ withAck 0 x = y) → (∀ (i : Nat) x, F[i]? = some x → x.number = i + 1) →
    ∃ u, (pull n E t).2 = t ++ u ∧ (T ++ u).length ≤ F.length ∧ (T ++ u).map (withAck 0) = F.take (T ++ u).length ∧ (pull n E t).1.got = (T ++ u).length ∧ (∀ x ∈ (pull n E t).1.wait, ∃ (i : Nat) (y : Lt), F[i]? = some y ∧ withAck 0 x = y)
  | 0, E, t, T, h1, h2, h3, h4, _ => ⟨[], by simp [pull], by simpa using h1, by simpa using h2, by simpa [pull] using h3, by simpa [pull] using h4⟩
  | n + 1, E, t, T, h1, h2, h3, h4, h5 => by
    unfold pull
    cases ha : at_ E.wait (E.got + 1) with
    | none => exact ⟨[], by simp, by simpa using h1, by simpa using h2, by simpa using h3, h4⟩
    | some i =>
      dsimp only
      obtain ⟨hi, hn⟩ := at_some ha
      obtain ⟨k, y, hy, hxy⟩ := h4 _ (List.getElem_mem hi)
      have hk : k = T.length := by
        have e1 := h5 k y hy
        have e2 : y.number = E.wait[i].number := by rw [← hxy]; rfl
        rw [e2, hn, h3] at e1
        omega
      subst hk
      have hkl : T.length < F.length := (List.getElem?_eq_some_iff.1 hy).1
      have hT1 : (T ++ [E.wait[i]]).length = T.length + 1 := by simp
      have hT2 : (T ++ [E.wait[i]]).map (withAck 0) = F.take (T ++ [E.wait[i]]).length := by
        rw [hT1, take_some hy, List.map_append, h2, List.map_cons, hxy]
        rfl
      obtain ⟨u, g1, g2, g3, g4, g5⟩ := pull_rec n { E with wait := E.wait.eraseIdx i, got := E.got + 1 } (t ++ (E.wait[i]?).toList) (T ++ [E.wait[i]]) (by omega) hT2 (by rw [hT1]; dsimp only; rw [h3]; push_cast; rfl)
        (fun x hx => h4 x (List.mem_of_mem_eraseIdx hx)) h5
      rw [List.append_assoc] at g2 g3 g4
      refine ⟨E.wait[i] :: u, ?_, g2, g3, g4, g5⟩
      rw [g1, List.getElem?_eq_getElem hi]
      simp
theorem pull_quiet : ∀ (n : Nat) (E : En) (t : List Lt), E.wait.length ≤ n → at_ (pull n E t).1.wait ((pull n E t).1.got + 1) = none
  | 0, E, t, h => by
    have : E.wait = [] := List.eq_nil_of_length_eq_zero (by omega)
    unfold pull at_
    rw [this]
    rfl
  | n + 1, E, t, h => by
    unfold pull
    cases ha : at_ E.wait (E.got + 1) with
    | none => exact ha
    | some i =>
      obtain ⟨hi, _⟩ := at_some ha
      exact pull_quiet n _ _ (by dsimp only; rw [List.length_eraseIdx, if_pos hi]; omega)
theorem pull_got : ∀ (n : Nat) (E : En) (t : List Lt), E.got ≤ (pull n E t).1.got
  | 0, E, t => Int.le_refl _
  | n + 1, E, t => by
    unfold pull
    split
    · have := pull_got n { E with wait := E.wait.eraseIdx ‹_›, got := E.got + 1 } (t ++ (E.wait[‹Nat›]?).toList)
      dsimp only at this
      omega
    · exact Int.le_refl _
end Go.Proofs.Ytaflinfpmbfieaa
namespace Go.Proofs.Ytaflinfpmbfieaa
set_option maxRecDepth 100000
theorem pull_keep : ∀ (n : Nat) (E : En) (t : List Lt), (pull n E t).1.self = E.self ∧ (pull n E t).1.other = E.other ∧ (pull n E t).1.out = E.out ∧ (pull n E t).1.sent = E.sent ∧ (pull n E t).1.sure = E.sure ∧ (pull n E t).1.owes = E.owes
  | 0, E, t => ⟨rfl, rfl, rfl, rfl, rfl, rfl⟩
  | n + 1, E, t => by
    unfold pull
    split
    · rename_i i _
      obtain ⟨h1, h2, h3, h4, h5, h6⟩ := pull_keep n { E with wait := E.wait.eraseIdx i, got := E.got + 1 } (t ++ (E.wait[i]?).toList)
      exact ⟨h1, h2, h3, h4, h5, h6⟩
    · exact ⟨rfl, rfl, rfl, rfl, rfl, rfl⟩
/-- What a letter that is its own does to an end. -/
theorem take_own {R : En} {l : Lt} (h : OwnL R l) : (takeR R l).1.self = R.self ∧ (takeR R l).1.other = R.other ∧ (takeR R l).1.out = (ackedE R l.ack).out ∧ (takeR R l).1.sent = R.sent ∧ (takeR R l).1.sure = R.sure ∧
    (l.kind ≠ 28 → (takeR R l).1.owes = true) ∧ (R.owes = true → (takeR R l).1.owes = true) ∧ R.got ≤ (takeR R l).1.got := by
  unfold takeR
  rw [if_neg (fun hh => hh h)]
  split
  · rename_i hk
    exact ⟨rfl, rfl, rfl, rfl, rfl, fun hn => absurd hk hn, fun ho => ho, Int.le_refl _⟩
  · split
    · exact ⟨rfl, rfl, rfl, rfl, rfl, fun _ => rfl, fun _ => rfl, Int.le_refl _⟩
    · obtain ⟨h1, h2, h3, h4, h5, h6⟩ := pull_keep (R.wait.length + 1) (put R l) []
      exact ⟨h1, h2, h3, h4, h5, fun _ => h6, fun _ => h6, pull_got _ _ _⟩
theorem fl_own {S R : En} {F T F' T' : List Lt} {l : Lt} {M : Nat} (d : Dir S R F T) (e : Dir R S F' T') (hS : InvE M S) (f : Fl S F l) : OwnL R l := by
  have h1 := hS.sure1
  have h2 := e.rcv.got
  have h3 := e.rcv.len
  have h4 := e.snd.sent
  have h5 := f.ack1
  refine ⟨f.frm.trans d.names.1, f.to.trans d.names.2, f.ack0, by omega, fun hk => ?_, fun hk => ?_⟩
  · rcases f.body with h | h
    · exact h.2
    · exact absurd hk h.1
  · rcases f.body with h | ⟨_, i, y, hy, hl⟩
    · exact absurd h.1 hk
    · have := (d.snd.each i y hy).1
      have e2 : y.number = l.number := by rw [← hl]; rfl
      omega
theorem snd_acked {M : Nat} {S R R' : En} {F T : List Lt} {n : Int} (d : Dir R S F T) (hR : InvE M R) (hn : n ≤ S.sure) (e1 : R'.self = R.self) (e2 : R'.other = R.other) (e3 : R'.out = (ackedE R n).out) (e4 : R'.sent = R.sent) :
    Sentt R' F ∧ (F.length : Int) - R'.out.length ≤ S.sure := by
  have h1 := hR.drop n
  have h2 := d.snd.len
  have h3 := d.snd.sent
  have h4 := d.acked
  have hk : ackK R n = min (n - (R.sent - R.out.length)).toNat R.out.length := rfl
  have hkl : ackK R n ≤ R.out.length := by rw [hk]; exact Nat.min_le_right _ _
  have ho : R'.out = R.out.drop (ackK R n) := e3.trans h1
  have hol : R'.out.length = R.out.length - ackK R n := by rw [ho, List.length_drop]
  refine ⟨⟨e4.trans h3, fun i x hx => by rw [e1, e2]; exact d.snd.each i x hx, by omega, ?_⟩, by omega⟩
  have hD := d.snd.out
  rw [ho]
  conv => lhs; rw [hD]
  rw [List.drop_drop, ← ho, hol]
  congr 1
  omega
theorem take_rec {S R : En} {F T : List Lt} {l : Lt} (d : Dir S R F T) (f : Fl S F l) (h : OwnL R l) : Rec (takeR R l).1 F (T ++ (takeR R l).2) := by
  unfold takeR
  rw [if_neg (fun hh => hh h)]
  have hr := d.rcv
  split
  · rw [List.append_nil]; exact ⟨hr.len, hr.told, hr.got, hr.wait, hr.quiet⟩
  · split
    · rw [List.append_nil]; exact ⟨hr.len, hr.told, hr.got, hr.wait, hr.quiet⟩
    · rename_i hk hw
      obtain ⟨u, g1, g2, g3, g4, g5⟩ := pull_rec (F := F) (R.wait.length + 1) (put R l) [] T hr.len hr.told hr.got (fun x hx => by
        rcases List.mem_append.1 hx with hx | hx
        · exact hr.wait x hx
        · simp only [List.mem_singleton] at hx
          subst hx
          rcases f.body with h1 | ⟨_, i, y, hy, hl⟩
          · exact absurd h1.1 hk
          · exact ⟨i, y, hy, hl⟩) (fun i x hx => (d.snd.each i x hx).1)
      rw [List.nil_append] at g1
      rw [g1]
      refine ⟨g2, g3, g4, g5, ?_⟩
      exact pull_quiet _ _ _ (by show (R.wait ++ [l]).length ≤ _; simp)
theorem Fl.mono {S S' : En} {F : List Lt} {l : Lt} (f : Fl S F l) (h1 : S'.self = S.self) (h2 : S'.other = S.other) (h3 : S.sure ≤ S'.sure) : Fl S' F l :=
  ⟨f.frm.trans h1.symm, f.to.trans h2.symm, f.ack0, by have := f.ack1; omega, f.body⟩
theorem Dir.snd_same {S S' R : En} {F T : List Lt} (d : Dir S R F T) (h1 : S'.self = S.self) (h2 : S'.other = S.other) (h3 : S'.out = S.out) (h4 : S'.sent = S.sent) : Dir S' R F T :=
  ⟨⟨h1.trans d.names.1, h2.trans d.names.2⟩, ⟨h4.trans d.snd.sent, fun i x hx => by rw [h1, h2]; exact d.snd.each i x hx, by rw [h3]; exact d.snd.len, by rw [h3]; exact d.snd.out⟩, d.rcv, by rw [h3]; exact d.acked⟩
theorem Dir.rcv_same {S R R' : En} {F T : List Lt} (d : Dir S R F T) (h1 : R'.self = R.self) (h2 : R'.other = R.other) (h3 : R'.wait = R.wait) (h4 : R'.got = R.got) (h5 : R.sure ≤ R'.sure) : Dir S R' F T :=
  ⟨⟨d.names.1.trans h2.symm, d.names.2.trans h1.symm⟩, d.snd, ⟨d.rcv.len, d.rcv.told, h4.trans d.rcv.got, by rw [h3]; exact d.rcv.wait, by rw [h3, h4]; exact d.rcv.quiet⟩, by have := d.acked; omega⟩
/-- A letter of S's comes at R. -/
theorem take_dir {S R : En} {F T F' T' : List Lt} {l : Lt} {M M' : Nat} (d : Dir S R F T) (e : Dir R S F' T') (hS : InvE M S) (hR : InvE M' R) (f : Fl S F l) :
    OwnL R l ∧ Dir S (takeR R l).1 F (T ++ (takeR R l).2) ∧ Dir (takeR R l).1 S F' T' := by
  have ho := fl_own d e hS f
  obtain ⟨e1, e2, e3, e4, e5, _, _, _⟩ := take_own ho
  obtain ⟨s1, s2⟩ := snd_acked e hR f.ack1 e1 e2 e3 e4
  refine ⟨ho, ⟨⟨d.names.1.trans e2.symm, d.names.2.trans e1.symm⟩, d.snd, take_rec d f ho, by rw [e5]; exact d.acked⟩, ⟨⟨e1.trans e.names.1, e2.trans e.names.2⟩, s1, e.rcv, s2⟩⟩
/-- What is due is S's. -/
theorem due_fl {S R : En} {F T : List Lt} {M : Nat} (d : Dir S R F T) (hS : InvE M S) : ∀ l ∈ dueL S, Fl S F l ∧ l.ack = S.sure := by
  intro l hl
  have h0 := hS.sure0
  unfold dueL at hl
  split at hl
  · simp only [List.mem_singleton] at hl
    subst hl
    exact ⟨⟨rfl, rfl, h0, Int.le_refl _, .inl ⟨rfl, rfl⟩⟩, rfl⟩
  · obtain ⟨x, hx, rfl⟩ := List.mem_map.1 hl
    have hxF : x ∈ F := by rw [d.snd.out] at hx; exact List.mem_of_mem_drop hx
    obtain ⟨i, hi⟩ := List.getElem?_of_mem hxF
    obtain ⟨a1, a2, a3, a4, a5⟩ := d.snd.each i x hi
    refine ⟨⟨a2, a3, h0, Int.le_refl _, .inr ⟨a4, i, x, hi, ?_⟩⟩, rfl⟩
    obtain ⟨⟩ := x
    dsimp only at a5
    subst a5
    rfl
end Go.Proofs.Ytaflinfpmbfieaa
namespace Go.Proofs.Ytaflinfpmbfieaa
set_option maxRecDepth 100000
structure Net (S : Pr) : Prop where
  ab : Dir S.a S.b S.fromA S.atB
  ba : Dir S.b S.a S.toA S.atA
  p : S.a.self = ⟨#[112]⟩
  q : S.b.self = ⟨#[113]⟩
  fly : ∀ l ∈ S.fly, Fl S.a S.fromA l ∨ Fl S.b S.toA l
theorem pq_ne : (⟨#[113]⟩ : ByteArray) ≠ ⟨#[112]⟩ := by decide
/-- What an end's own parts are behind a letter. -/
theorem net_come {S : Pr} {l : Lt} {M : Nat} (n : Net S) (ha : InvE M S.a) (hb : InvE M S.b) (f : Fl S.a S.fromA l ∨ Fl S.b S.toA l) :
    comeB S l = true ∧ Net (comeS S l) ∧ (comeS S l).a.sure = S.a.sure ∧ (comeS S l).b.sure = S.b.sure ∧ (comeS S l).a.self = S.a.self ∧ (comeS S l).b.self = S.b.self ∧ (comeS S l).a.other = S.a.other ∧ (comeS S l).b.other = S.b.other := by
  rcases f with f | f
  · have hto : l.to ≠ ⟨#[112]⟩ := by rw [f.to, n.ab.names.2, n.q]; exact pq_ne
    obtain ⟨h1, h2, h3⟩ := take_dir n.ab n.ba ha hb f
    obtain ⟨e1, e2, e3, e4, e5, _, _, _⟩ := take_own h1
    unfold comeB comeS
    rw [if_neg hto, if_neg hto]
    refine ⟨decide_eq_true h1, ⟨h2, h3, n.p, e1.trans n.q, fun x hx => ?_⟩, rfl, e5, rfl, e1, rfl, e2⟩
    rcases n.fly x hx with g | g
    · exact .inl g
    · exact .inr (g.mono e1 e2 (by rw [e5]; exact Int.le_refl _))
  · have hto : l.to = ⟨#[112]⟩ := by rw [f.to, n.ba.names.2, n.p]
    obtain ⟨h1, h2, h3⟩ := take_dir n.ba n.ab hb ha f
    obtain ⟨e1, e2, e3, e4, e5, _, _, _⟩ := take_own h1
    unfold comeB comeS
    rw [if_pos hto, if_pos hto]
    refine ⟨decide_eq_true h1, ⟨h3, h2, e1.trans n.p, n.q, fun x hx => ?_⟩, e5, rfl, e1, rfl, e2, rfl⟩
    rcases n.fly x hx with g | g
    · exact .inl (g.mono e1 e2 (by rw [e5]; exact Int.le_refl _))
    · exact .inr g
theorem sure_same (E : En) (n : Int) : (sureE E n).self = E.self ∧ (sureE E n).other = E.other ∧ (sureE E n).out = E.out ∧ (sureE E n).sent = E.sent ∧ (sureE E n).wait = E.wait ∧ (sureE E n).got = E.got ∧ E.sure ≤ (sureE E n).sure ∧ (E.owes = true → (sureE E n).owes = true) := by
  unfold sureE
  split
  · exact ⟨rfl, rfl, rfl, rfl, rfl, rfl, by dsimp only; omega, fun _ => rfl⟩
  · exact ⟨rfl, rfl, rfl, rfl, rfl, rfl, Int.le_refl _, fun h => h⟩
theorem net_sure {S : Pr} (n : Net S) (i j : Int) : Net { S with a := sureE S.a i, b := sureE S.b j } := by
  obtain ⟨a1, a2, a3, a4, a5, a6, a7, _⟩ := sure_same S.a i
  obtain ⟨b1, b2, b3, b4, b5, b6, b7, _⟩ := sure_same S.b j
  refine ⟨(n.ab.snd_same a1 a2 a3 a4).rcv_same b1 b2 b5 b6 b7, (n.ba.snd_same b1 b2 b3 b4).rcv_same a1 a2 a5 a6 a7, a1.trans n.p, b1.trans n.q, fun x hx => ?_⟩
  rcases n.fly x hx with g | g
  · exact .inl (g.mono a1 a2 a7)
  · exact .inr (g.mono b1 b2 b7)
theorem net_fly {S : Pr} (n : Net S) (fl : List Lt) (h : ∀ l ∈ fl, Fl S.a S.fromA l ∨ Fl S.b S.toA l) : Net { S with fly := fl } := ⟨n.ab, n.ba, n.p, n.q, h⟩
theorem net_dueA {S : Pr} (n : Net S) : Net { S with a := dueE S.a } :=
  ⟨n.ab.snd_same rfl rfl rfl rfl, n.ba.rcv_same rfl rfl rfl rfl (Int.le_refl _), n.p, n.q, fun x hx => by
    rcases n.fly x hx with g | g
    · exact .inl (g.mono rfl rfl (Int.le_refl _))
    · exact .inr g⟩
theorem net_dueB {S : Pr} (n : Net S) : Net { S with b := dueE S.b } :=
  ⟨n.ab.rcv_same rfl rfl rfl rfl (Int.le_refl _), n.ba.snd_same rfl rfl rfl rfl, n.p, n.q, fun x hx => by
    rcases n.fly x hx with g | g
    · exact .inl g
    · exact .inr (g.mono rfl rfl (Int.le_refl _))⟩
/-- A step of the net, by step k. -/
structure Ok (k : Nat) (S : Pr) : Prop where
  fit : FitP k S
  net : Net S
  la : S.fromA.length ≤ 12
  lb : S.toA.length ≤ 12
  lf : S.fly.length ≤ 13 * k
theorem due_len2 {E : En} {F : List Lt} (h : Sentt E F) (hF : F.length ≤ 12) : (dueL E).length ≤ 13 := by
  unfold dueL
  split
  · simp
  · rw [List.length_map]; have := h.len; omega
theorem come_fit {S : Pr} {l : Lt} {k : Nat} (h : FitP k S) (hk : k < 9000) (hl : Small l) (h1 : (comeS S l).atA.length ≤ 12) (h2 : (comeS S l).atB.length ≤ 12) : FitP (k + 1) (comeS S l) := by
  have ta := h.a.take hl
  have tb := h.b.take hl
  unfold comeS at h1 h2 ⊢
  split
  · rename_i e
    rw [if_pos e] at h1 h2
    exact ⟨ta.1, h.b.mono (by omega), by omega, h.fly, by omega, by omega, h.flyS, fun x hx => by rcases List.mem_append.1 hx with hx | hx; (· exact h.atAS x hx); exact ta.2 x hx, h.atBS, h.fromS, h.toS⟩
  · rename_i e
    rw [if_neg e] at h1 h2
    exact ⟨h.a.mono (by omega), tb.1, by omega, h.fly, by omega, by omega, h.flyS, h.atAS, fun x hx => by rcases List.mem_append.1 hx with hx | hx; (· exact h.atBS x hx); exact tb.2 x hx, h.fromS, h.toS⟩
theorem come_same (S : Pr) (l : Lt) : (comeS S l).fly = S.fly ∧ (comeS S l).fromA = S.fromA ∧ (comeS S l).toA = S.toA := by
  unfold comeS; split <;> exact ⟨rfl, rfl, rfl⟩
theorem ok_come {S : Pr} {l : Lt} {k : Nat} (h : Ok k S) (hk : k < 9000) (hl : Small l) (f : Fl S.a S.fromA l ∨ Fl S.b S.toA l) : comeB S l = true ∧ Ok (k + 1) (comeS S l) := by
  obtain ⟨h1, h2, _⟩ := net_come h.net h.fit.a h.fit.b f
  obtain ⟨e1, e2, e3⟩ := come_same S l
  have hb := h2.ab.rcv.len
  have ha := h2.ba.rcv.len
  rw [e2] at hb
  rw [e3] at ha
  have la := h.la
  have lb := h.lb
  have lf := h.lf
  exact ⟨h1, come_fit h.fit hk hl (by omega) (by omega), h2, by rw [e2]; exact la, by rw [e3]; exact lb, by rw [e1]; omega⟩
theorem FitP.mono {S : Pr} {k : Nat} (h : FitP k S) (hk : k < 9000) : FitP (k + 1) S := ⟨h.a.mono (by omega), h.b.mono (by omega), by omega, h.fly, h.atA, h.atB, h.flyS, h.atAS, h.atBS, h.fromS, h.toS⟩
theorem ok_do {S : Pr} {x : Nt} {k : Nat} (h : Ok k S) (hk : k < 300) : (doR S x).2 = true ∧ Ok (k + 1) (doR S x).1 ∧ (doR S x).1.fromA = S.fromA ∧ (doR S x).1.toA = S.toA := by
  have la := h.la
  have lb := h.lb
  have lf := h.lf
  have f := h.fit.mono (by omega)
  have hm : k ≤ 1060000 := by omega
  unfold doR
  split
  · have hd := due_len2 h.net.ab.snd la
    refine ⟨rfl, ⟨⟨f.a.due, f.b, f.m, ?_, f.atA, f.atB, fun l hl => ?_, f.atAS, f.atBS, f.fromS, f.toS⟩, ?_, la, lb, ?_⟩, rfl, rfl⟩
    · show (S.fly ++ dueL S.a).length ≤ 10000
      rw [List.length_append]; omega
    · rcases List.mem_append.1 hl with hl | hl
      · exact h.fit.flyS l hl
      · exact due_small h.fit.a hm l hl
    · refine net_fly (net_dueA h.net) _ fun l hl => ?_
      rcases List.mem_append.1 hl with hl | hl
      · exact (net_dueA h.net).fly l hl
      · exact .inl ((due_fl h.net.ab h.fit.a l hl).1.mono rfl rfl (Int.le_refl _))
    · show (S.fly ++ dueL S.a).length ≤ _
      rw [List.length_append]; omega
  · split
    · have hd := due_len2 h.net.ba.snd lb
      refine ⟨rfl, ⟨⟨f.a, f.b.due, f.m, ?_, f.atA, f.atB, fun l hl => ?_, f.atAS, f.atBS, f.fromS, f.toS⟩, ?_, la, lb, ?_⟩, rfl, rfl⟩
      · show (S.fly ++ dueL S.b).length ≤ 10000
        rw [List.length_append]; omega
      · rcases List.mem_append.1 hl with hl | hl
        · exact h.fit.flyS l hl
        · exact due_small h.fit.b hm l hl
      · refine net_fly (net_dueB h.net) _ fun l hl => ?_
        rcases List.mem_append.1 hl with hl | hl
        · exact (net_dueB h.net).fly l hl
        · exact .inr ((due_fl h.net.ba h.fit.b l hl).1.mono rfl rfl (Int.le_refl _))
      · show (S.fly ++ dueL S.b).length ≤ _
        rw [List.length_append]; omega
    · split
      · exact ⟨rfl, ⟨⟨f.a.sure_ _, f.b.sure_ _, f.m, f.fly, f.atA, f.atB, f.flyS, f.atAS, f.atBS, f.fromS, f.toS⟩, net_sure h.net _ _, la, lb, by dsimp only; omega⟩, rfl, rfl⟩
      · split
        · exact ⟨rfl, ⟨f, h.net, la, lb, by dsimp only; omega⟩, rfl, rfl⟩
        · split
          · exact ⟨rfl, ⟨f, h.net, la, lb, by dsimp only; omega⟩, rfl, rfl⟩
          · rename_i l hl
            have hlm := mem_some hl
            have her : ∀ y ∈ S.fly.eraseIdx (x.n % S.fly.length), y ∈ S.fly := fun y hy => List.mem_of_mem_eraseIdx hy
            have hel : (S.fly.eraseIdx (x.n % S.fly.length)).length ≤ S.fly.length := (List.eraseIdx_sublist _ _).length_le
            have h2 : Ok k { S with fly := S.fly.eraseIdx (x.n % S.fly.length) } := ⟨⟨h.fit.a, h.fit.b, h.fit.m, by have := h.fit.fly; dsimp only; omega, h.fit.atA, h.fit.atB, fun y hy => h.fit.flyS y (her y hy), h.fit.atAS, h.fit.atBS, h.fit.fromS, h.fit.toS⟩,
              net_fly h.net _ fun y hy => h.net.fly y (her y hy), la, lb, by dsimp only; omega⟩
            split
            · exact ⟨rfl, ⟨h2.fit.mono (by omega), h2.net, la, lb, by dsimp only; omega⟩, rfl, rfl⟩
            · split
              · obtain ⟨c1, c2⟩ := ok_come h2 (by omega) (h.fit.flyS l hlm) (h.net.fly l hlm)
                obtain ⟨_, e2, e3⟩ := come_same { S with fly := S.fly.eraseIdx (x.n % S.fly.length) } l
                exact ⟨c1, c2, e2, e3⟩
              · split
                · refine ⟨rfl, ⟨⟨f.a, f.b, f.m, ?_, f.atA, f.atB, fun y hy => ?_, f.atAS, f.atBS, f.fromS, f.toS⟩, net_fly h.net _ fun y hy => ?_, la, lb, ?_⟩, rfl, rfl⟩
                  · show (S.fly ++ [l]).length ≤ 10000
                    simp; omega
                  · rcases List.mem_append.1 hy with hy | hy
                    · exact f.flyS y hy
                    · simp only [List.mem_singleton] at hy; subst hy; exact f.flyS _ hlm
                  · rcases List.mem_append.1 hy with hy | hy
                    · exact h.net.fly y hy
                    · simp only [List.mem_singleton] at hy; subst hy; exact h.net.fly _ hlm
                  · show (S.fly ++ [l]).length ≤ _
                    simp; omega
                · exact ⟨rfl, ⟨f, h.net, la, lb, by dsimp only; omega⟩, rfl, rfl⟩
theorem sentL_get (a b : ByteArray) (k : Int) : ∀ (n i : Nat) x, (sentL a b k n)[i]? = some x → x.number = i + 1 ∧ x.frm = a ∧ x.to = b ∧ x.kind = k ∧ x.ack = 0
  | 0, i, x, h => by simp [sentL] at h
  | n + 1, i, x, h => by
    unfold sentL at h
    rcases Nat.lt_or_ge i n with hi | hi
    · rw [List.getElem?_append_left (by rw [sentL_len]; exact hi)] at h
      exact sentL_get a b k n i x h
    · rw [List.getElem?_append_right (by rw [sentL_len]; exact hi), sentL_len] at h
      have hin : i - n = 0 := by
        rcases Nat.lt_or_ge (i - n) 1 with h1 | h1
        · omega
        · rw [List.getElem?_eq_none (by simpa using h1)] at h; cases h
      rw [hin] at h
      obtain rfl : i = n := by omega
      simp only [List.getElem?_cons_zero, Option.some.injEq] at h
      subst h
      exact ⟨rfl, rfl, rfl, rfl, rfl⟩
theorem made_dir (a b : ByteArray) (k k' : Int) (n n' : Nat) (hk : k ≠ 28) : Dir (madeE a b k n) (madeE b a k' n') (sentL a b k n) [] := by
  refine ⟨⟨rfl, rfl⟩, ⟨?_, fun i x hx => ?_, Nat.le_refl _, ?_⟩, ⟨Nat.zero_le _, rfl, rfl, fun x hx => by simp [madeE] at hx, rfl⟩, ?_⟩
  · show nI n = _
    rw [sentL_len, nI_eq]
  · obtain ⟨h1, h2, h3, h4, h5⟩ := sentL_get a b k n i x hx
    exact ⟨h1, h2, h3, by rw [h4]; exact hk, h5⟩
  · show sentL a b k n = (sentL a b k n).drop ((sentL a b k n).length - (sentL a b k n).length)
    rw [Nat.sub_self, List.drop_zero]
  · show ((sentL a b k n).length : Int) - (sentL a b k n).length ≤ 0
    omega
theorem made_ok (n m : Nat) (hn : n ≤ 12) (hm : m ≤ 12) : Ok 0 (madeS n m) := by
  have ia := made_inv ⟨#[112]⟩ ⟨#[113]⟩ 0 (by decide) (by decide) (by decide) n (by omega)
  have ib := made_inv ⟨#[113]⟩ ⟨#[112]⟩ 13 (by decide) (by decide) (by decide) m (by omega)
  refine ⟨⟨ia, ib, by omega, Nat.zero_le _, Nat.zero_le _, Nat.zero_le _, fun l hl => by simp [madeS] at hl, fun l hl => by simp [madeS] at hl, fun l hl => by simp [madeS] at hl, fun l hl => ia.outS l hl, fun l hl => ib.outS l hl⟩,
    ⟨made_dir _ _ _ _ _ _ (by decide), made_dir _ _ _ _ _ _ (by decide), rfl, rfl, fun l hl => by simp [madeS] at hl⟩, ?_, ?_, Nat.zero_le _⟩
  · show (sentL _ _ _ n).length ≤ 12
    rw [sentL_len]; exact hn
  · show (sentL _ _ _ m).length ≤ 12
    rw [sentL_len]; exact hm
/-- What was told is a beginning, letter by letter. -/
theorem rec_begins {R : En} {F T : List Lt} (h : Rec R F T) : T.length ≤ F.length ∧ ∀ (k : Nat) x y, T[k]? = some x → F[k]? = some y → withAck 0 x = y := by
  refine ⟨h.len, fun k x y hx hy => ?_⟩
  have hk : k < T.length := (List.getElem?_eq_some_iff.1 hx).1
  have e := congrArg (fun l => l[k]?) h.told
  simp only [List.getElem?_map, hx, Option.map_some, List.getElem?_take, if_pos hk, hy, Option.some.injEq] at e
  exact e
end Go.Proofs.Ytaflinfpmbfieaa
namespace Go.Proofs.Ytaflinfpmbfieaa
open Go.RowKit
set_option maxHeartbeats 4000000
set_option maxRecDepth 100000
structure Fns4 (P : Program) : Prop where
  awake : FnOk P 9 AwakeC
  made : FnOk P 10 MadeC
  do_ : FnOk P 11 DoC
  come : FnOk P 13 ComeC
  parts : FnOk P 16 PartsC
  ack : FnOk P 18 AckC
  begins : FnOk P 17 BeginsC
  due : FnOk P 12 DueC
  sure : FnOk P 14 SureC
  got : FnOk P 15 GotC
theorem Ok.begB {k : Nat} {S : Pr} (h : Ok k S) : S.atB.length ≤ S.fromA.length ∧ S.fromA.length ≤ 1000000 ∧ (∀ (k : Nat) x y, S.atB[k]? = some x → S.fromA[k]? = some y → withAck 0 x = y) ∧ ∀ l ∈ S.fromA, Small l := by
  obtain ⟨h1, h2⟩ := rec_begins h.net.ab.rcv
  exact ⟨h1, by have := h.la; omega, h2, h.fit.fromS⟩
theorem Ok.begA {k : Nat} {S : Pr} (h : Ok k S) : S.atA.length ≤ S.toA.length ∧ S.toA.length ≤ 1000000 ∧ (∀ (k : Nat) x y, S.atA[k]? = some x → S.toA[k]? = some y → withAck 0 x = y) ∧ ∀ l ∈ S.toA, Small l := by
  obtain ⟨h1, h2⟩ := rec_begins h.net.ba.rcv
  exact ⟨h1, by have := h.lb; omega, h2, h.fit.toS⟩
noncomputable def NetsC : Ctr := spec (fun i : Int × Int × List Nt => [.i i.1, .i i.2.1, .sl 2 (mapA NtA i.2.2)]) (fun _ => []) (fun i => ∀ x ∈ i.2.2, x.n < 256) (fun _ => .bl true) fun _ => []
theorem nets_body (P : Program) (F : Fns4 P) : BodyOk P x4 NetsC := by
  intro args H K hc
  obtain ⟨⟨th, bk, L⟩, rfl, rfl, hx, hK⟩ := hc
  refine ⟨Nat.le_of_ble_eq_true rfl, ?_⟩
  dsimp only at hx hK ⊢
  obtain ⟨n, hn⟩ : ∃ n, n = L.length := ⟨_, rfl⟩
  cbv; repeat' ((first | refine .e ?_ | refine .n fun h => ?_ | refine .y fun h => ?_ | refine .q fun z hz hz0 hz1 => ?_ | refine .mk (fun h => ?_) fun h => ?_ | refine .k fun z hz => ?_ | refine .o ?_ | refine .l fun ys hys hyl => ?_ | refine .zl fun zs hzs hzl => ?_ | refine .u fun u hu hul => ?_ | refine .z fun zs hzs => ?_ | refine .mk (fun h => ?_) ?_ | refine .ms fun ms hms => ?_ | refine .s fun s hs hsl => ?_ | refine And.intro ?_ ?_) <;> cbv)
  (refine callG_spec0 F.awake () trivial rfl rfl rfl ?_; try dsimp only)
  cbv; repeat' ((first | refine .e ?_ | refine .n fun h => ?_ | refine .y fun h => ?_ | refine .q fun z hz hz0 hz1 => ?_ | refine .mk (fun h => ?_) fun h => ?_ | refine .k fun z hz => ?_ | refine .o ?_ | refine .l fun ys hys hyl => ?_ | refine .zl fun zs hzs hzl => ?_ | refine .u fun u hu hul => ?_ | refine .z fun zs hzs => ?_ | refine .mk (fun h => ?_) ?_ | refine .ms fun ms hms => ?_ | refine .s fun s hs hsl => ?_ | refine And.intro ?_ ?_) <;> cbv)
  iterate 5
    · exact FinK.mk ⟨_, Gh.refl _, .inl (CutK.val rfl (Le.refl _) hK)⟩
  obtain ⟨th, rfl⟩ := Int.eq_ofNat_of_zero_le (by omega : 0 ≤ th)
  obtain ⟨bk, rfl⟩ := Int.eq_ofNat_of_zero_le (by omega : 0 ≤ bk)
  have hL60 : L.length ≤ 60 := by ((try simp only [vn] at *) <;> omega)
  have hok := made_ok th bk (by omega) (by omega)
  obtain ⟨S0, hS0⟩ : ∃ S0, S0 = madeS th bk := ⟨_, rfl⟩
  have hF0 : S0.fromA.length = th := by rw [hS0]; exact sentL_len _ _ _ _
  (refine callG_new F.made (th, bk) ⟨by dsimp only; omega, by dsimp only; omega⟩ rfl rfl ?_; try dsimp only)
  rw [← hS0] at hok ⊢
  obtain ⟨⟨self0, other0, out0, wait0, sent0, got0, sure0, owes0⟩, ⟨selfb0, otherb0, outb0, waitb0, sentb0, gotb0, sureb0, owesb0⟩, fly0, atA0, atB0, fromA0, toA0⟩ := S0
  cbv; repeat' ((first | refine .e ?_ | refine .n fun h => ?_ | refine .y fun h => ?_ | refine .q fun z hz hz0 hz1 => ?_ | refine .mk (fun h => ?_) fun h => ?_ | refine .k fun z hz => ?_ | refine .o ?_ | refine .l fun ys hys hyl => ?_ | refine .zl fun zs hzs hzl => ?_ | refine .u fun u hu hul => ?_ | refine .z fun zs hzs => ?_ | refine .mk (fun h => ?_) ?_ | refine .ms fun ms hms => ?_ | refine .s fun s hs hsl => ?_ | refine And.intro ?_ ?_) <;> cbv)
  refine xloopV [] (fun p : { p : Nat × Pr // p.1 ≤ L.length ∧ Ok p.1 p.2 ∧ p.2.fromA.length = th } => [(8, .i (nI p.1.1))]) (fun p => PairH p.1.2) (fun p => lft n p.1.1) ⟨(0, ⟨⟨self0, other0, out0, wait0, sent0, got0, sure0, owes0⟩, ⟨selfb0, otherb0, outb0, waitb0, sentb0, gotb0, sureb0, owesb0⟩, fly0, atA0, atB0, fromA0, toA0⟩), Nat.zero_le _, hok, hF0⟩ ?_
  rintro ⟨⟨i, S⟩, hi, hS, hF⟩
  dsimp only at hi hS hF
  obtain ⟨⟨self1, other1, out1, wait1, sent1, got1, sure1, owes1⟩, ⟨selfb1, otherb1, outb1, waitb1, sentb1, gotb1, sureb1, owesb1⟩, fly1, atA1, atB1, fromA1, toA1⟩ := S
  cbv; repeat' ((first | refine .e ?_ | refine .n fun h => ?_ | refine .y fun h => ?_ | refine .q fun z hz hz0 hz1 => ?_ | refine .mk (fun h => ?_) fun h => ?_ | refine .k fun z hz => ?_ | refine .o ?_ | refine .l fun ys hys hyl => ?_ | refine .zl fun zs hzs hzl => ?_ | refine .u fun u hu hul => ?_ | refine .z fun zs hzs => ?_ | refine .mk (fun h => ?_) ?_ | refine .ms fun ms hms => ?_ | refine .s fun s hs hsl => ?_ | refine And.intro ?_ ?_) <;> cbv)
  · have hil : i < L.length := by ((try simp only [vn] at *) <;> omega)
    obtain ⟨x, hg⟩ := some_at hil
    have hx0 := hx x (mem_some hg)
    obtain ⟨d1, d2, d3, d4⟩ := ok_do (x := x) hS (by omega)
    have hf5 := hS.lf
    have hfit := hS.fit
    dsimp only at hf5
    obtain ⟨S', hS'⟩ : ∃ S', S' = (doR ⟨⟨self1, other1, out1, wait1, sent1, got1, sure1, owes1⟩, ⟨selfb1, otherb1, outb1, waitb1, sentb1, gotb1, sureb1, owesb1⟩, fly1, atA1, atB1, fromA1, toA1⟩ x).1 := ⟨_, rfl⟩
    rw [← hS'] at d2 d3 d4
    dsimp only at d3 d4 hF
    obtain ⟨nk, nn⟩ := x
    cbv; repeat' ((first | refine .e ?_ | refine .n fun h => ?_ | refine .y fun h => ?_ | refine .q fun z hz hz0 hz1 => ?_ | refine .mk (fun h => ?_) fun h => ?_ | refine .k fun z hz => ?_ | refine .o ?_ | refine .l fun ys hys hyl => ?_ | refine .zl fun zs hzs hzl => ?_ | refine .u fun u hu hul => ?_ | refine .z fun zs hzs => ?_ | refine .mk (fun h => ?_) ?_ | refine .ms fun ms hms => ?_ | refine .s fun s hs hsl => ?_ | refine And.intro ?_ ?_) <;> cbv)
    (refine callG_spec F.do_ (⟨⟨self1, other1, out1, wait1, sent1, got1, sure1, owes1⟩, ⟨selfb1, otherb1, outb1, waitb1, sentb1, gotb1, sureb1, owesb1⟩, fly1, atA1, atB1, fromA1, toA1⟩, i, ⟨nk, nn⟩) [0, 1, 2, 3, 4, 5, 6, 7, 8, 9, 10, 11] ⟨hfit, by dsimp only; omega, hx0⟩ rfl rfl (by decide) rfl rfl rfl rfl rfl ?_; try dsimp only)
    rw [d1, ← hS']
    obtain ⟨⟨self2, other2, out2, wait2, sent2, got2, sure2, owes2⟩, ⟨selfb2, otherb2, outb2, waitb2, sentb2, gotb2, sureb2, owesb2⟩, fly2, atA2, atB2, fromA2, toA2⟩ := S'
    cbv; repeat' ((first | refine .e ?_ | refine .n fun h => ?_ | refine .y fun h => ?_ | refine .q fun z hz hz0 hz1 => ?_ | refine .mk (fun h => ?_) fun h => ?_ | refine .k fun z hz => ?_ | refine .o ?_ | refine .l fun ys hys hyl => ?_ | refine .zl fun zs hzs hzl => ?_ | refine .u fun u hu hul => ?_ | refine .z fun zs hzs => ?_ | refine .mk (fun h => ?_) ?_ | refine .ms fun ms hms => ?_ | refine .s fun s hs hsl => ?_ | refine And.intro ?_ ?_) <;> cbv)
    have hF2 := hF
    have m1 := d2.begB
    have m2 := d2.begA
    have m3 := d2.net.ab.acked
    have m4 := d2.net.ab.snd.sent
    have m5 := d2.net.ab.snd.len
    have m6 := d2.net.ab.rcv.got
    have m7 := d2.fit.b.sure1
    have ia2 := d2.fit.a
    have ib2 := d2.fit.b
    rw [← d3] at hF2
    dsimp only at m1 m2 m3 m4 m5 m6 m7 ia2 ib2 hF2
    obtain ⟨q, hq⟩ : ∃ q, q = sent2 - (out2.length : Int) := ⟨_, rfl⟩
    (refine callG_spec F.parts (⟨self2, other2, out2, wait2, sent2, got2, sure2, owes2⟩, i + 1, q) [0, 1, 2] ⟨ia2, hq⟩ rfl rfl (by decide) rfl rfl rfl rfl rfl ?_; try dsimp only)
    cbv; repeat' ((first | refine .e ?_ | refine .n fun h => ?_ | refine .y fun h => ?_ | refine .q fun z hz hz0 hz1 => ?_ | refine .mk (fun h => ?_) fun h => ?_ | refine .k fun z hz => ?_ | refine .o ?_ | refine .l fun ys hys hyl => ?_ | refine .zl fun zs hzs hzl => ?_ | refine .u fun u hu hul => ?_ | refine .z fun zs hzs => ?_ | refine .mk (fun h => ?_) ?_ | refine .ms fun ms hms => ?_ | refine .s fun s hs hsl => ?_ | refine And.intro ?_ ?_) <;> cbv)
    (refine callG_spec0 F.begins (atB2, fromA2) m1 rfl rfl rfl ?_; try dsimp only)
    cbv; repeat' ((first | refine .e ?_ | refine .n fun h => ?_ | refine .y fun h => ?_ | refine .q fun z hz hz0 hz1 => ?_ | refine .mk (fun h => ?_) fun h => ?_ | refine .k fun z hz => ?_ | refine .o ?_ | refine .l fun ys hys hyl => ?_ | refine .zl fun zs hzs hzl => ?_ | refine .u fun u hu hul => ?_ | refine .z fun zs hzs => ?_ | refine .mk (fun h => ?_) ?_ | refine .ms fun ms hms => ?_ | refine .s fun s hs hsl => ?_ | refine And.intro ?_ ?_) <;> cbv)
    (refine callG_spec0 F.begins (atA2, toA2) m2 rfl rfl rfl ?_; try dsimp only)
    cbv; repeat' ((first | refine .e ?_ | refine .n fun h => ?_ | refine .y fun h => ?_ | refine .q fun z hz hz0 hz1 => ?_ | refine .mk (fun h => ?_) fun h => ?_ | refine .k fun z hz => ?_ | refine .o ?_ | refine .l fun ys hys hyl => ?_ | refine .zl fun zs hzs hzl => ?_ | refine .u fun u hu hul => ?_ | refine .z fun zs hzs => ?_ | refine .mk (fun h => ?_) ?_ | refine .ms fun ms hms => ?_ | refine .s fun s hs hsl => ?_ | refine And.intro ?_ ?_) <;> cbv)
    (refine callG_ro F.ack 3 (rest := []) (fun x => (x 6, ⟨selfb2, otherb2, outb2, waitb2, sentb2, gotb2, sureb2, owesb2⟩, i + 1)) rfl rfl rfl rfl (fun _ => rfl) (fun x hx => ⟨rfl, ib2, ?_⟩); try dsimp only)
    cbv; repeat' ((first | refine .e ?_ | refine .n fun h => ?_ | refine .y fun h => ?_ | refine .q fun z hz hz0 hz1 => ?_ | refine .mk (fun h => ?_) fun h => ?_ | refine .k fun z hz => ?_ | refine .o ?_ | refine .l fun ys hys hyl => ?_ | refine .zl fun zs hzs hzl => ?_ | refine .u fun u hu hul => ?_ | refine .z fun zs hzs => ?_ | refine .mk (fun h => ?_) ?_ | refine .ms fun ms hms => ?_ | refine .s fun s hs hsl => ?_ | refine And.intro ?_ ?_) <;> cbv)
    all_goals first | (exfalso; ((try simp only [vn] at *) <;> omega); done) | skip
    (refine callG_ro F.ack 3 (rest := []) (fun x => (x 6, ⟨selfb2, otherb2, outb2, waitb2, sentb2, gotb2, sureb2, owesb2⟩, i + 1)) rfl rfl rfl rfl (fun _ => rfl) (fun x hx => ⟨rfl, ib2, ?_⟩); try dsimp only)
    cbv; repeat' ((first | refine .e ?_ | refine .n fun h => ?_ | refine .y fun h => ?_ | refine .q fun z hz hz0 hz1 => ?_ | refine .mk (fun h => ?_) fun h => ?_ | refine .k fun z hz => ?_ | refine .o ?_ | refine .l fun ys hys hyl => ?_ | refine .zl fun zs hzs hzl => ?_ | refine .u fun u hu hul => ?_ | refine .z fun zs hzs => ?_ | refine .mk (fun h => ?_) ?_ | refine .ms fun ms hms => ?_ | refine .s fun s hs hsl => ?_ | refine And.intro ?_ ?_) <;> cbv)
    all_goals first | (exfalso; ((try simp only [vn] at *) <;> omega); done) | skip
    obtain rfl := hz
    exact roundV ⟨(i + 1, ⟨⟨self2, other2, out2, wait2, sent2, got2, sure2, owes2⟩, ⟨selfb2, otherb2, outb2, waitb2, sentb2, gotb2, sureb2, owesb2⟩, fly2, atA2, atB2, fromA2, toA2⟩), by dsimp only; ((try simp only [vn] at *) <;> omega), d2, hF2⟩ (lft_lt (by ((try simp only [vn] at *) <;> omega)))
  · exact FinK.mk ⟨_, Gh.refl _, .inl (CutK.val rfl (Le.refl _) hK)⟩
end Go.Proofs.Ytaflinfpmbfieaa
namespace Go.Proofs.Ytaflinfpmbfieaa
open Go.RowKit
set_option maxRecDepth 100000
def netSh : Sh := .st [.int .u8, .int .u8]
theorem op_net (cz : List AV) (h : Op netSh cz) : ∃ x : Nt, elemAV 2 cz = NtA x ∧ x.n < 256 := by
  unfold netSh Op at h
  (unfold OpL at h; obtain ⟨_, _, rfl, h1, h⟩ := h; unfold Op at h1; obtain ⟨a0, rfl, w0⟩ := h1)
  (unfold OpL at h; obtain ⟨_, _, rfl, h1, h⟩ := h; unfold Op at h1; obtain ⟨a1, rfl, w1⟩ := h1)
  (unfold OpL at h; subst h)
  obtain ⟨h0, h1⟩ := wf_u8 w1
  obtain ⟨n, rfl⟩ := Int.eq_ofNat_of_zero_le h0
  exact ⟨⟨a0, n⟩, rfl, by dsimp only; omega⟩
theorem op_nets {cs : List AV} (h : Op (.sl 2 netSh) cs) : ∃ L : List Nt, cs = [.sl 2 (mapA NtA L)] ∧ L.length ≤ maxLen ∧ ∀ x ∈ L, x.n < 256 := op_list op_net h
theorem sh_nets : shOf Try.prog 9 22 = some (.sl 2 netSh) := by kernel_rfl
theorem k_come : FnOk Try.prog 13 ComeC := body_ok (by kernel_rfl) (come_body _ k_take)
theorem k_begins : FnOk Try.prog 17 BeginsC := body_ok (by kernel_rfl) (begins_body _ k_text)
theorem k_do : FnOk Try.prog 11 DoC := body_ok (by kernel_rfl) (do_body _ ⟨k_due, k_sure, k_got, k_come⟩)
theorem k_made : FnOk Try.prog 10 MadeC := body_ok (by kernel_rfl) (made_body _ k_new k_send)
theorem k_fns4 : Fns4 Try.prog := ⟨k_awake, k_made, k_do, k_come, k_parts, k_ack, k_begins, k_due, k_sure, k_got⟩
theorem k_nets : FnOk Try.prog 4 NetsC := body_ok (by kernel_rfl) (nets_body _ k_fns4)
end Go.Proofs.Ytaflinfpmbfieaa
namespace Go.Proofs.Ytaflinfpmbfieaa
set_option maxRecDepth 100000
/-! A row of letters comes at one end. -/
def takes : En → List Lt → En × List Lt
  | R, [] => (R, [])
  | R, l :: ds => ((takes (takeR R l).1 ds).1, (takeR R l).2 ++ (takes (takeR R l).1 ds).2)
theorem pull_next {n : Nat} {E : En} {t : List Lt} {i : Nat} (h : at_ E.wait (E.got + 1) = some i) : E.got + 1 ≤ (pull (n + 1) E t).1.got := by
  unfold pull
  rw [h]
  exact pull_got n _ _
theorem take_next {S R : En} {F T F' T' : List Lt} {l : Lt} {M : Nat} (d : Dir S R F T) (e : Dir R S F' T') (hS : InvE M S) (f : Fl S F l) (hk : l.kind ≠ 28) (hn : l.number ≤ R.got + 1) : l.number ≤ (takeR R l).1.got := by
  have ho := fl_own d e hS f
  rcases Int.lt_or_le R.got l.number with h1 | h1
  · have hq := d.rcv.quiet
    have e1 : l.number = R.got + 1 := by omega
    have hw : ¬ noWait R l := by
      rintro (h | h | h)
      · omega
      · omega
      · rw [e1, hq] at h; cases h
    unfold takeR
    rw [if_neg (fun hh => hh ho), if_neg hk, if_neg hw]
    have hat : ∃ i, at_ (put R l).wait ((put R l).got + 1) = some i := by
      show ∃ i, at_ (R.wait ++ [l]) (R.got + 1) = some i
      unfold at_
      cases hf : (R.wait ++ [l]).findIdx? fun x => decide (x.number = R.got + 1) with
      | some i => exact ⟨i, rfl⟩
      | none =>
        rw [List.findIdx?_eq_none_iff] at hf
        have := hf l (by simp)
        simp [e1] at this
    obtain ⟨i, hi⟩ := hat
    have := pull_next (n := R.wait.length) (t := []) hi
    have g : (put R l).got = R.got := rfl
    omega
  · have := (take_own ho).2.2.2.2.2.2.2
    omega
theorem acked_shrink {R : En} {n : Int} (h : R.out = []) : (ackedE R n).out = [] := by
  show R.out.filter _ = []
  rw [h]; rfl
theorem acked_all {R : En} {n : Int} {M : Nat} (hR : InvE M R) (h : R.sent ≤ n) : (ackedE R n).out = [] := by
  have h1 := hR.drop n
  have h2 := hR.sent0
  rw [h1]
  unfold ackK
  apply List.drop_eq_nil_of_le
  omega
structure Tk (S R : En) (F T F' T' ds : List Lt) (R' : En) (t : List Lt) (M : Nat) : Prop where
  ab : Dir S R' F (T ++ t)
  ba : Dir R' S F' T'
  inv : InvE M R'
  names : R'.self = R.self ∧ R'.other = R.other ∧ R'.sent = R.sent ∧ R'.sure = R.sure
  got : R.got ≤ R'.got
  owes : R.owes = true → R'.owes = true
  owes1 : (∃ l ∈ ds, l.kind ≠ 28) → R'.owes = true
  out : R.out = [] → R'.out = []
  out1 : (∃ l ∈ ds, R.sent ≤ l.ack) → R'.out = []
  next : ∀ b : Int, (∀ (i : Nat) l, ds[i]? = some l → l.kind ≠ 28 ∧ l.number = b + 1 + i) → b ≤ R.got → b + ds.length ≤ R'.got
theorem takes_ok {S : En} {F F' T' : List Lt} {M : Nat} (hS : InvE M S) : ∀ (ds : List Lt) (R : En) (T : List Lt) (m : Nat), Dir S R F T → Dir R S F' T' → InvE m R → (∀ l ∈ ds, Fl S F l) → (∀ l ∈ ds, Small l) →
    Tk S R F T F' T' ds (takes R ds).1 (takes R ds).2 (m + ds.length)
  | [], R, T, m, d, e, hR, _, _ => ⟨by rw [show (takes R []).2 = [] from rfl, List.append_nil]; exact d, e, hR, ⟨rfl, rfl, rfl, rfl⟩, Int.le_refl _, fun h => h, fun ⟨l, h, _⟩ => (by cases h), fun h => h, fun ⟨l, h, _⟩ => (by cases h), fun b _ h => by simpa [takes] using h⟩
  | l :: ds, R, T, m, d, e, hR, hf, hs => by
    have f := hf l (List.mem_cons_self ..)
    have s := hs l (List.mem_cons_self ..)
    obtain ⟨ho, d1, d2⟩ := take_dir d e hS hR f
    obtain ⟨e1, e2, e3, e4, e5, e6, e7, e8⟩ := take_own ho
    have hi := (hR.take s).1
    have ih := takes_ok hS ds (takeR R l).1 (T ++ (takeR R l).2) (m + 1) d1 d2 hi (fun x hx => hf x (List.mem_cons_of_mem _ hx)) (fun x hx => hs x (List.mem_cons_of_mem _ hx))
    have hml : m + 1 + ds.length = m + (l :: ds).length := by simp; omega
    obtain ⟨n1, n2, n3, n4⟩ := ih.names
    refine ⟨?_, ih.ba, hml ▸ ih.inv, ⟨n1.trans e1, n2.trans e2, n3.trans e4, n4.trans e5⟩, Int.le_trans e8 ih.got, fun h => ih.owes (e7 h), fun ⟨x, hx, hk⟩ => ?_, fun h => ih.out ?_, fun ⟨x, hx, hk⟩ => ?_, fun b hb hg => ?_⟩
    · have := ih.ab
      rw [List.append_assoc] at this
      exact this
    · rcases List.mem_cons.1 hx with rfl | hx
      · exact ih.owes (e6 hk)
      · exact ih.owes1 ⟨x, hx, hk⟩
    · rw [e3]; exact acked_shrink h
    · rcases List.mem_cons.1 hx with rfl | hx
      · exact ih.out (by rw [e3]; exact acked_all hR hk)
      · exact ih.out1 ⟨x, hx, by rw [e4]; exact hk⟩
    · have h0 := hb 0 l rfl
      have hn := take_next d e hS f h0.1 (by have := h0.2; simp at this; omega)
      have := ih.next (b + 1) (fun i x hx => by
        have := hb (i + 1) x (by simpa using hx)
        refine ⟨this.1, ?_⟩
        rw [this.2]; push_cast; omega) (by have := h0.2; simp at this; omega)
      show b + ((ds.length + 1 : Nat) : Int) ≤ (takes (takeR R l).1 ds).1.got
      push_cast
      omega
/-- All that is due at S comes at R. -/
structure RdE (S R : En) (F F' : List Lt) (R' : En) : Prop where
  all : R'.got = F.length
  owes : S.out ≠ [] → R'.owes = true
  out : R.out = [] → R'.out = []
  clear : S.sure = F'.length → (R.out = [] ∨ S.owes = true) → R'.out = []
theorem due_rd {S S2 R : En} {F T F' T' T2 : List Lt} {M m k : Nat} {R' : En} {t : List Lt} (hS : InvE M S) (hR : InvE m R) (d : Dir S R F T) (e : Dir R S F' T') (hz : S.out = [] → S2.out = []) (h : Tk S2 (dueE R) F T F' T2 (dueL S) R' t k) : RdE S R F F' R' := by
  have hfl := due_fl d hS
  have hgot := h.ab.rcv.got
  have hlen := h.ab.rcv.len
  have hsl := d.snd.len
  have hak := d.acked
  have hsent := e.snd.sent
  have hout := d.snd.out
  refine ⟨?_, fun hne => h.owes1 ?_, fun h0 => h.out h0, fun h1 h2 => ?_⟩
  · by_cases he : S.out = []
    · have := h.ab.acked
      have h2 := h.inv.sure1
      rw [hz he] at this
      simp only [List.length_nil] at this
      omega
    · have hd : dueL S = S.out.map (withAck S.sure) := by unfold dueL; rw [if_neg (fun hh => he hh.1)]
      have hb := h.next ((F.length : Int) - S.out.length) (fun i l hl => by
        rw [hd, List.getElem?_map] at hl
        cases hx : S.out[i]? with
        | none => rw [hx] at hl; cases hl
        | some x =>
          rw [hx] at hl
          cases hl
          rw [hout, List.getElem?_drop] at hx
          obtain ⟨a1, _, _, a4, _⟩ := d.snd.each _ x hx
          refine ⟨a4, ?_⟩
          show x.number = _
          rw [a1]; push_cast; omega) (by show _ ≤ R.got; have := hR.sure1; omega)
      rw [hd, List.length_map] at hb
      omega
  · obtain ⟨x, hx⟩ := List.exists_mem_of_ne_nil _ hne
    have hxF : x ∈ F := by rw [hout] at hx; exact List.mem_of_mem_drop hx
    obtain ⟨i, hi⟩ := List.getElem?_of_mem hxF
    refine ⟨withAck S.sure x, ?_, (d.snd.each i x hi).2.2.2.1⟩
    unfold dueL
    rw [if_neg (fun hh => hne hh.1)]
    exact List.mem_map.2 ⟨x, hx, rfl⟩
  · rcases h2 with h2 | h2
    · exact h.out h2
    · refine h.out1 ?_
      have hne : dueL S ≠ [] := by
        unfold dueL
        split
        · simp
        · rename_i hh
          intro hn
          exact hh ⟨List.map_eq_nil_iff.1 hn, h2⟩
      obtain ⟨x, hx⟩ := List.exists_mem_of_ne_nil _ hne
      exact ⟨x, hx, by show R.sent ≤ _; rw [(hfl x hx).2]; omega⟩
end Go.Proofs.Ytaflinfpmbfieaa
namespace Go.Proofs.Ytaflinfpmbfieaa
set_option maxRecDepth 100000
theorem ok_due {S : Pr} {k : Nat} (h : Ok k S) : Ok k { S with a := dueE S.a, b := dueE S.b } :=
  ⟨⟨h.fit.a.due, h.fit.b.due, h.fit.m, h.fit.fly, h.fit.atA, h.fit.atB, h.fit.flyS, h.fit.atAS, h.fit.atBS, h.fit.fromS, h.fit.toS⟩, net_dueB (net_dueA h.net), h.la, h.lb, h.lf⟩
theorem ok_calm {S : Pr} {k : Nat} (h : Ok k S) : Ok k { S with fly := [] } :=
  ⟨⟨h.fit.a, h.fit.b, h.fit.m, Nat.zero_le _, h.fit.atA, h.fit.atB, fun _ hx => (by cases hx), h.fit.atAS, h.fit.atBS, h.fit.fromS, h.fit.toS⟩, net_fly h.net _ (fun _ hx => by cases hx), h.la, h.lb, Nat.zero_le _⟩
theorem ok_sures {S : Pr} {k : Nat} (h : Ok k S) (i j : Int) : Ok k { S with a := sureE S.a i, b := sureE S.b j } :=
  ⟨⟨h.fit.a.sure_ _, h.fit.b.sure_ _, h.fit.m, h.fit.fly, h.fit.atA, h.fit.atB, h.fit.flyS, h.fit.atAS, h.fit.atBS, h.fit.fromS, h.fit.toS⟩, net_sure h.net _ _, h.la, h.lb, h.lf⟩
theorem sure_zero (E : En) (h : 0 ≤ E.sure) (h2 : 0 ≤ E.got) : sureE E 0 = E := by
  unfold sureE
  rw [if_neg (by omega)]
theorem ok_sureB {S : Pr} {k : Nat} (h : Ok k S) (j : Int) : Ok k { S with b := sureE S.b j } := by
  have := ok_sures h 0 j
  rwa [sure_zero _ h.fit.a.sure0 h.fit.a.got0] at this
/-- A step in the calm: letter l of those that are due comes. -/
theorem cm_step {S : Pr} {k : Nat} {d : List Lt} {l : Lt} (h : Ok k S) (hk : k < 9000) (hf : ∀ x ∈ d, Fl S.a S.fromA x ∨ Fl S.b S.toA x) (hs : ∀ x ∈ d, Small x) (hl : l ∈ d) :
    comeB S l = true ∧ Ok (k + 1) (comeS S l) ∧ (∀ x ∈ d, Fl (comeS S l).a (comeS S l).fromA x ∨ Fl (comeS S l).b (comeS S l).toA x) := by
  obtain ⟨h1, h2⟩ := ok_come h hk (hs l hl) (hf l hl)
  obtain ⟨_, _, n1, n2, n3, n4, n5, n6⟩ := net_come h.net h.fit.a h.fit.b (hf l hl)
  obtain ⟨_, e2, e3⟩ := come_same S l
  refine ⟨h1, h2, fun x hx => ?_⟩
  rw [e2, e3]
  rcases hf x hx with g | g
  · exact .inl (g.mono n3 n5 (by omega))
  · exact .inr (g.mono n4 n6 (by omega))
theorem cm_take {d : List Lt} {S : Pr} {i : Nat} {l : Lt} (h : d[i]? = some l) : (d.take (i + 1)).foldl comeS S = comeS ((d.take i).foldl comeS S) l := by
  rw [take_some h, List.foldl_append]
  rfl
theorem comes_b : ∀ (d : List Lt) (S : Pr), (∀ x ∈ d, x.to ≠ ⟨#[112]⟩) → d.foldl comeS S = { S with b := (takes S.b d).1, atB := S.atB ++ (takes S.b d).2 }
  | [], S, _ => by simp [takes]
  | l :: d, S, h => by
    rw [List.foldl_cons, comes_b d _ (fun x hx => h x (List.mem_cons_of_mem _ hx))]
    have e : comeS S l = { S with b := (takeR S.b l).1, atB := S.atB ++ (takeR S.b l).2 } := by unfold comeS; rw [if_neg (h l (List.mem_cons_self ..))]
    rw [e]
    simp [takes]
theorem comes_a : ∀ (d : List Lt) (S : Pr), (∀ x ∈ d, x.to = ⟨#[112]⟩) → d.foldl comeS S = { S with a := (takes S.a d).1, atA := S.atA ++ (takes S.a d).2 }
  | [], S, _ => by simp [takes]
  | l :: d, S, h => by
    rw [List.foldl_cons, comes_a d _ (fun x hx => h x (List.mem_cons_of_mem _ hx))]
    have e : comeS S l = { S with a := (takeR S.a l).1, atA := S.atA ++ (takeR S.a l).2 } := by unfold comeS; rw [if_pos (h l (List.mem_cons_self ..))]
    rw [e]
    simp [takes]
def dueS (S : Pr) : Pr := { S with a := dueE S.a, b := dueE S.b }
def dueD (S : Pr) : List Lt := dueL S.a ++ dueL S.b
theorem due_all {S : Pr} {k : Nat} (h : Ok k S) (hk : k < 300) : (∀ x ∈ dueD S, Fl (dueS S).a (dueS S).fromA x ∨ Fl (dueS S).b (dueS S).toA x) ∧ (∀ x ∈ dueD S, Small x) ∧ (dueD S).length ≤ 26 := by
  refine ⟨fun x hx => ?_, fun x hx => ?_, ?_⟩
  · rcases List.mem_append.1 hx with hx | hx
    · exact .inl ((due_fl h.net.ab h.fit.a x hx).1.mono rfl rfl (Int.le_refl _))
    · exact .inr ((due_fl h.net.ba h.fit.b x hx).1.mono rfl rfl (Int.le_refl _))
  · rcases List.mem_append.1 hx with hx | hx
    · exact due_small h.fit.a (by omega) x hx
    · exact due_small h.fit.b (by omega) x hx
  · have h1 := due_len2 h.net.ab.snd h.la
    have h2 := due_len2 h.net.ba.snd h.lb
    unfold dueD
    rw [List.length_append]
    omega
structure Rnd (S S2 : Pr) : Prop where
  ab : RdE S.a S.b S.fromA S.toA S2.b
  ba : RdE S.b S.a S.toA S.fromA S2.a
  from_ : S2.fromA = S.fromA
  to_ : S2.toA = S.toA
  fly : S2.fly = S.fly
theorem rnd_ok {S : Pr} {k : Nat} (h : Ok k S) (hk : k < 300) : Rnd S ((dueD S).foldl comeS (dueS S)) := by
  have f1 : ∀ l ∈ dueL S.a, Fl (dueE S.a) S.fromA l := fun l hl => (due_fl h.net.ab h.fit.a l hl).1.mono rfl rfl (Int.le_refl _)
  have f2 : ∀ l ∈ dueL S.b, Fl (dueE S.b) S.toA l := fun l hl => (due_fl h.net.ba h.fit.b l hl).1.mono rfl rfl (Int.le_refl _)
  have n2 := (ok_due h).net
  have t1 := takes_ok (S := dueE S.a) h.fit.a.due (dueL S.a) (dueE S.b) S.atB k n2.ab n2.ba h.fit.b.due f1 (due_small h.fit.a (by omega))
  obtain ⟨e1, e2, e3, e4⟩ := t1.names
  have t2 := takes_ok (S := (takes (dueE S.b) (dueL S.a)).1) t1.inv (dueL S.b) (dueE S.a) S.atA k t1.ba t1.ab h.fit.a.due (fun l hl => (f2 l hl).mono e1 e2 (by omega)) (due_small h.fit.b (by omega))
  have r1 := due_rd h.fit.a h.fit.b h.net.ab h.net.ba (S2 := dueE S.a) (fun h => h) t1
  have r2 := due_rd h.fit.b h.fit.a h.net.ba h.net.ab (fun h0 => t1.out h0) t2
  have p1 : ∀ x ∈ dueL S.a, x.to ≠ ⟨#[112]⟩ := fun x hx => by rw [(f1 x hx).to, (ok_due h).net.ab.names.2, (ok_due h).net.q]; exact pq_ne
  have p2 : ∀ x ∈ dueL S.b, x.to = ⟨#[112]⟩ := fun x hx => by rw [(f2 x hx).to, (ok_due h).net.ba.names.2, (ok_due h).net.p]
  unfold dueD
  rw [List.foldl_append, comes_b _ _ p1, comes_a _ _ p2]
  exact ⟨r1, r2, rfl, rfl, rfl⟩
/-- Behind r rounds in the calm: S's letters at R. -/
structure Cd (r : Nat) (S R : En) (F : List Lt) : Prop where
  got : 1 ≤ r → R.got = F.length
  sure : 1 ≤ r → R.sure = F.length
  out : 1 ≤ r → S.out = [] ∨ R.owes = true
  none : 2 ≤ r → S.out = []
theorem Cd.zero {S R : En} {F : List Lt} : Cd 0 S R F := ⟨fun h => absurd h (by decide), fun h => absurd h (by decide), fun h => absurd h (by decide), fun h => absurd h (by decide)⟩
theorem sure_got {E : En} {M : Nat} (h : InvE M E) : (sureE E E.got).sure = E.got := by
  have := h.sure1
  unfold sureE
  split
  · show min E.got E.got = _
    omega
  · omega
theorem Cd.round {r M : Nat} {S R S2 R2 S3 : En} {F F' : List Lt} (c : Cd r S R F) (h1 : RdE S R F F' R2) (h2 : RdE R S F' F S2) (hi : InvE M R2) (h3 : S3.out = S2.out) : Cd (r + 1) S3 (sureE R2 R2.got) F := by
  obtain ⟨s1, s2, s3, s4, s5, s6, s7, s8⟩ := sure_same R2 R2.got
  refine ⟨fun _ => s6.trans h1.all, fun _ => (sure_got hi).trans h1.all, fun _ => ?_, fun hr => ?_⟩
  · rw [h3]
    by_cases e : S.out = []
    · exact .inl (h2.out e)
    · exact .inr (s8 (h1.owes e))
  · rw [h3]
    exact h2.clear (c.sure (by omega)) (c.out (by omega))
end Go.Proofs.Ytaflinfpmbfieaa
namespace Go.Proofs.Ytaflinfpmbfieaa
open Go.RowKit
set_option maxHeartbeats 4000000
set_option maxRecDepth 100000
theorem Ok.mono {k m : Nat} {S : Pr} (h : Ok k S) (hk : k ≤ m) (hm : m ≤ 300) : Ok m S :=
  ⟨⟨h.fit.a.mono hk, h.fit.b.mono hk, by omega, h.fit.fly, h.fit.atA, h.fit.atB, h.fit.flyS, h.fit.atAS, h.fit.atBS, h.fit.fromS, h.fit.toS⟩, h.net, h.la, h.lb, by have := h.lf; omega⟩
/-- Behind r rounds in the calm. -/
structure CalmI (th bk r : Nat) (S : Pr) : Prop where
  ok : Ok (60 + 26 * r) S
  ab : Cd r S.a S.b S.fromA
  ba : Cd r S.b S.a S.toA
  fa : S.fromA.length = th
  ta : S.toA.length = bk
theorem calm_round {th bk r : Nat} {S S2 : Pr} (h : CalmI th bk r S) (hr : r < 3) (e : S2 = (dueD S).foldl comeS (dueS S)) (o : Ok (60 + 26 * r + (dueD S).length) S2) :
    CalmI th bk (r + 1) { S2 with a := sureE S2.a S2.a.got, b := sureE S2.b S2.b.got } := by
  have hR := rnd_ok h.ok (by omega)
  rw [← e] at hR
  have hd := (due_all h.ok (by omega)).2.2
  refine ⟨(ok_sures o _ _).mono (by omega) (by omega), ?_, ?_, ?_, ?_⟩
  · show Cd (r + 1) _ _ S2.fromA
    rw [hR.from_]
    exact h.ab.round hR.ab hR.ba o.fit.b (sure_same _ _).2.2.1
  · show Cd (r + 1) _ _ S2.toA
    rw [hR.to_]
    exact h.ba.round hR.ba hR.ab o.fit.a (sure_same _ _).2.2.1
  · show S2.fromA.length = th
    rw [hR.from_]; exact h.fa
  · show S2.toA.length = bk
    rw [hR.to_]; exact h.ta
/-- Two ends; what flies lies at 12, what flew before at 7. -/
noncomputable def CalmH (old : List AV) : Pr → List Ent
  | ⟨⟨self, other, out, wait, sent, got, sure, owes⟩, ⟨self2, other2, out2, wait2, sent2, got2, sure2, owes2⟩, fly, atA, atB, fromA, toA⟩ =>
    [.blk 73 [.str self, .str other, .hd 1, .i sent, .i got, .i sure, .hd 2, .bl owes], .tip 40 14 (mapA LtA out), .map 71 (mapA (fun l => (.i l.number, LtA l)) wait),
     .blk 73 [.str self2, .str other2, .hd 4, .i sent2, .i got2, .i sure2, .hd 5, .bl owes2], .tip 40 14 (mapA LtA out2), .map 71 (mapA (fun l => (.i l.number, LtA l)) wait2),
     .blk 32 [.ptr 0 0, .ptr 3 0, .hd 12, .hd 8, .hd 9, .hd 10, .hd 11], .tip 40 14 old, .tip 40 14 (mapA LtA atA), .tip 40 14 (mapA LtA atB), .tip 40 14 (mapA LtA fromA), .tip 40 14 (mapA LtA toA), .tip 40 14 (mapA LtA fly)]
noncomputable def CalmsC : Ctr := spec (fun i : Int × Int × List Nt => [.i i.1, .i i.2.1, .sl 2 (mapA NtA i.2.2)]) (fun _ => []) (fun i => ∀ x ∈ i.2.2, x.n < 256) (fun _ => .bl true) fun _ => []
theorem calms_body (P : Program) (F : Fns4 P) : BodyOk P x3 CalmsC := by
  intro args H K hc
  obtain ⟨⟨th, bk, L⟩, rfl, rfl, hx, hK⟩ := hc
  refine ⟨Nat.le_of_ble_eq_true rfl, ?_⟩
  dsimp only at hx hK ⊢
  obtain ⟨n, hn⟩ : ∃ n, n = L.length := ⟨_, rfl⟩
  cbv; repeat' ((first | refine .e ?_ | refine .n fun h => ?_ | refine .y fun h => ?_ | refine .q fun z hz hz0 hz1 => ?_ | refine .mk (fun h => ?_) fun h => ?_ | refine .k fun z hz => ?_ | refine .o ?_ | refine .l fun ys hys hyl => ?_ | refine .zl fun zs hzs hzl => ?_ | refine .u fun u hu hul => ?_ | refine .z fun zs hzs => ?_ | refine .mk (fun h => ?_) ?_ | refine .ms fun ms hms => ?_ | refine .s fun s hs hsl => ?_ | refine And.intro ?_ ?_) <;> cbv)
  (refine callG_spec0 F.awake () trivial rfl rfl rfl ?_; try dsimp only)
  cbv; repeat' ((first | refine .e ?_ | refine .n fun h => ?_ | refine .y fun h => ?_ | refine .q fun z hz hz0 hz1 => ?_ | refine .mk (fun h => ?_) fun h => ?_ | refine .k fun z hz => ?_ | refine .o ?_ | refine .l fun ys hys hyl => ?_ | refine .zl fun zs hzs hzl => ?_ | refine .u fun u hu hul => ?_ | refine .z fun zs hzs => ?_ | refine .mk (fun h => ?_) ?_ | refine .ms fun ms hms => ?_ | refine .s fun s hs hsl => ?_ | refine And.intro ?_ ?_) <;> cbv)
  iterate 5
    · exact FinK.mk ⟨_, Gh.refl _, .inl (CutK.val rfl (Le.refl _) hK)⟩
  obtain ⟨th, rfl⟩ := Int.eq_ofNat_of_zero_le (by omega : 0 ≤ th)
  obtain ⟨bk, rfl⟩ := Int.eq_ofNat_of_zero_le (by omega : 0 ≤ bk)
  have hL60 : L.length ≤ 40 := by ((try simp only [vn] at *) <;> omega)
  have hok := made_ok th bk (by omega) (by omega)
  obtain ⟨S0, hS0⟩ : ∃ S0, S0 = madeS th bk := ⟨_, rfl⟩
  have hF0 : S0.fromA.length = th := by rw [hS0]; exact sentL_len _ _ _ _
  have hT0 : S0.toA.length = bk := by rw [hS0]; exact sentL_len _ _ _ _
  (refine callG_new F.made (th, bk) ⟨by dsimp only; omega, by dsimp only; omega⟩ rfl rfl ?_; try dsimp only)
  rw [← hS0] at hok ⊢
  obtain ⟨⟨self0, other0, out0, wait0, sent0, got0, sure0, owes0⟩, ⟨selfb0, otherb0, outb0, waitb0, sentb0, gotb0, sureb0, owesb0⟩, fly0, atA0, atB0, fromA0, toA0⟩ := S0
  cbv; repeat' ((first | refine .e ?_ | refine .n fun h => ?_ | refine .y fun h => ?_ | refine .q fun z hz hz0 hz1 => ?_ | refine .mk (fun h => ?_) fun h => ?_ | refine .k fun z hz => ?_ | refine .o ?_ | refine .l fun ys hys hyl => ?_ | refine .zl fun zs hzs hzl => ?_ | refine .u fun u hu hul => ?_ | refine .z fun zs hzs => ?_ | refine .mk (fun h => ?_) ?_ | refine .ms fun ms hms => ?_ | refine .s fun s hs hsl => ?_ | refine And.intro ?_ ?_) <;> cbv)
  refine xloopV [] (fun p : { p : Nat × Pr // p.1 ≤ L.length ∧ Ok p.1 p.2 ∧ p.2.fromA.length = th ∧ p.2.toA.length = bk } => [(8, .i (nI p.1.1))]) (fun p => PairH p.1.2) (fun p => lft n p.1.1) ⟨(0, ⟨⟨self0, other0, out0, wait0, sent0, got0, sure0, owes0⟩, ⟨selfb0, otherb0, outb0, waitb0, sentb0, gotb0, sureb0, owesb0⟩, fly0, atA0, atB0, fromA0, toA0⟩), Nat.zero_le _, hok, hF0, hT0⟩ ?_
  rintro ⟨⟨i, S⟩, hi, hS, hF, hT⟩
  dsimp only at hi hS hF hT
  obtain ⟨⟨self1, other1, out1, wait1, sent1, got1, sure1, owes1⟩, ⟨selfb1, otherb1, outb1, waitb1, sentb1, gotb1, sureb1, owesb1⟩, fly1, atA1, atB1, fromA1, toA1⟩ := S
  cbv; repeat' ((first | refine .e ?_ | refine .n fun h => ?_ | refine .y fun h => ?_ | refine .q fun z hz hz0 hz1 => ?_ | refine .mk (fun h => ?_) fun h => ?_ | refine .k fun z hz => ?_ | refine .o ?_ | refine .l fun ys hys hyl => ?_ | refine .zl fun zs hzs hzl => ?_ | refine .u fun u hu hul => ?_ | refine .z fun zs hzs => ?_ | refine .mk (fun h => ?_) ?_ | refine .ms fun ms hms => ?_ | refine .s fun s hs hsl => ?_ | refine And.intro ?_ ?_) <;> cbv)
  · have hil : i < L.length := by ((try simp only [vn] at *) <;> omega)
    obtain ⟨x, hg⟩ := some_at hil
    have hx0 := hx x (mem_some hg)
    obtain ⟨d1, d2, d3, d4⟩ := ok_do (x := x) hS (by omega)
    have hf5 := hS.lf
    have hfit := hS.fit
    dsimp only at hf5
    obtain ⟨S', hS'⟩ : ∃ S', S' = (doR ⟨⟨self1, other1, out1, wait1, sent1, got1, sure1, owes1⟩, ⟨selfb1, otherb1, outb1, waitb1, sentb1, gotb1, sureb1, owesb1⟩, fly1, atA1, atB1, fromA1, toA1⟩ x).1 := ⟨_, rfl⟩
    rw [← hS'] at d2 d3 d4
    dsimp only at d3 d4 hF hT
    obtain ⟨nk, nn⟩ := x
    cbv; repeat' ((first | refine .e ?_ | refine .n fun h => ?_ | refine .y fun h => ?_ | refine .q fun z hz hz0 hz1 => ?_ | refine .mk (fun h => ?_) fun h => ?_ | refine .k fun z hz => ?_ | refine .o ?_ | refine .l fun ys hys hyl => ?_ | refine .zl fun zs hzs hzl => ?_ | refine .u fun u hu hul => ?_ | refine .z fun zs hzs => ?_ | refine .mk (fun h => ?_) ?_ | refine .ms fun ms hms => ?_ | refine .s fun s hs hsl => ?_ | refine And.intro ?_ ?_) <;> cbv)
    (refine callG_spec F.do_ (⟨⟨self1, other1, out1, wait1, sent1, got1, sure1, owes1⟩, ⟨selfb1, otherb1, outb1, waitb1, sentb1, gotb1, sureb1, owesb1⟩, fly1, atA1, atB1, fromA1, toA1⟩, i, ⟨nk, nn⟩) [0, 1, 2, 3, 4, 5, 6, 7, 8, 9, 10, 11] ⟨hfit, by dsimp only; omega, hx0⟩ rfl rfl (by decide) rfl rfl rfl rfl rfl ?_; try dsimp only)
    rw [d1, ← hS']
    obtain ⟨⟨self2, other2, out2, wait2, sent2, got2, sure2, owes2⟩, ⟨selfb2, otherb2, outb2, waitb2, sentb2, gotb2, sureb2, owesb2⟩, fly2, atA2, atB2, fromA2, toA2⟩ := S'
    cbv; repeat' ((first | refine .e ?_ | refine .n fun h => ?_ | refine .y fun h => ?_ | refine .q fun z hz hz0 hz1 => ?_ | refine .mk (fun h => ?_) fun h => ?_ | refine .k fun z hz => ?_ | refine .o ?_ | refine .l fun ys hys hyl => ?_ | refine .zl fun zs hzs hzl => ?_ | refine .u fun u hu hul => ?_ | refine .z fun zs hzs => ?_ | refine .mk (fun h => ?_) ?_ | refine .ms fun ms hms => ?_ | refine .s fun s hs hsl => ?_ | refine And.intro ?_ ?_) <;> cbv)
    have hF2 := hF
    have hT2 := hT
    rw [← d3] at hF2
    rw [← d4] at hT2
    obtain rfl := hz
    exact roundV ⟨(i + 1, ⟨⟨self2, other2, out2, wait2, sent2, got2, sure2, owes2⟩, ⟨selfb2, otherb2, outb2, waitb2, sentb2, gotb2, sureb2, owesb2⟩, fly2, atA2, atB2, fromA2, toA2⟩), by dsimp only; ((try simp only [vn] at *) <;> omega), d2, hF2, hT2⟩ (lft_lt (by ((try simp only [vn] at *) <;> omega)))
  · have hC0 : CalmI th bk 0 ⟨⟨self1, other1, out1, wait1, sent1, got1, sure1, owes1⟩, ⟨selfb1, otherb1, outb1, waitb1, sentb1, gotb1, sureb1, owesb1⟩, [], atA1, atB1, fromA1, toA1⟩ := ⟨(ok_calm hS).mono (by omega) (by decide), Cd.zero, Cd.zero, hF, hT⟩
    clear hS
    refine xloopG (Gh.adoptC 6 2 40 14 rfl rfl) ?_
    cbv
    refine xloopG (Gh.publish 12 rfl) ?_
    cbv
    refine xloopV [] (fun p : { p : Nat × Pr // p.1 ≤ 3 ∧ CalmI th bk p.1 p.2 } => [(9, .i (nI p.1.1))]) (fun p => CalmH (mapA LtA fly1) p.1.2) (fun p => lft 3 p.1.1) ⟨(0, ⟨⟨self1, other1, out1, wait1, sent1, got1, sure1, owes1⟩, ⟨selfb1, otherb1, outb1, waitb1, sentb1, gotb1, sureb1, owesb1⟩, [], atA1, atB1, fromA1, toA1⟩), Nat.zero_le _, hC0⟩ ?_
    rintro ⟨⟨r, S⟩, hr, hS⟩
    dsimp only at hr hS
    obtain ⟨D, hD⟩ : ∃ D, D = dueD S := ⟨_, rfl⟩
    obtain ⟨S1, hS1⟩ : ∃ x, x = dueS S := ⟨_, rfl⟩
    obtain ⟨Ea, hEa⟩ : ∃ R, R = dueE S.a := ⟨_, rfl⟩
    obtain ⟨Eb, hEb⟩ : ∃ R, R = dueE S.b := ⟨_, rfl⟩
    obtain ⟨Da, hDa⟩ : ∃ R, R = dueL S.a := ⟨_, rfl⟩
    obtain ⟨Db, hDb⟩ : ∃ R, R = dueL S.b := ⟨_, rfl⟩
    have hDD : D = Da ++ Db := by rw [hD, hDa, hDb]; rfl
    have hS1E : S1 = ⟨Ea, Eb, S.fly, S.atA, S.atB, S.fromA, S.toA⟩ := by rw [hS1, hEa, hEb]; rfl
    obtain ⟨df, ds, dl⟩ := due_all hS.ok (by omega)
    have ok1 := ok_due hS.ok
    rw [← hD] at df ds dl
    rw [← hS1] at df
    rw [← hEa, ← hEb, ← hS1E] at ok1
    have dl2 : Da.length + Db.length ≤ 26 := by rw [hDD, List.length_append] at dl; exact dl
    have ia := hS.ok.fit.a
    have ib := hS.ok.fit.b
    obtain ⟨nd, hnd⟩ : ∃ n, n = D.length := ⟨_, rfl⟩
    obtain ⟨⟨self2, other2, out2, wait2, sent2, got2, sure2, owes2⟩, ⟨selfb2, otherb2, outb2, waitb2, sentb2, gotb2, sureb2, owesb2⟩, fly2, atA2, atB2, fromA2, toA2⟩ := S
    obtain ⟨self3, other3, out3, wait3, sent3, got3, sure3, owes3⟩ := Ea
    obtain ⟨selfb3, otherb3, outb3, waitb3, sentb3, gotb3, sureb3, owesb3⟩ := Eb
    dsimp only at hEa hEb hDa hDb hS1E ia ib
    cbv; repeat' ((first | refine .e ?_ | refine .n fun h => ?_ | refine .y fun h => ?_ | refine .q fun z hz hz0 hz1 => ?_ | refine .mk (fun h => ?_) fun h => ?_ | refine .k fun z hz => ?_ | refine .o ?_ | refine .l fun ys hys hyl => ?_ | refine .zl fun zs hzs hzl => ?_ | refine .u fun u hu hul => ?_ | refine .z fun zs hzs => ?_ | refine .mk (fun h => ?_) ?_ | refine .ms fun ms hms => ?_ | refine .s fun s hs hsl => ?_ | refine And.intro ?_ ?_) <;> cbv)
    · (refine callG_spec F.due (⟨self2, other2, out2, wait2, sent2, got2, sure2, owes2⟩, 60 + 26 * r) [0, 1, 2] ia rfl rfl (by decide) rfl rfl rfl rfl rfl ?_; try dsimp only)
      rw [← hEa, ← hDa]
      cbv; repeat' ((first | refine .e ?_ | refine .n fun h => ?_ | refine .y fun h => ?_ | refine .q fun z hz hz0 hz1 => ?_ | refine .mk (fun h => ?_) fun h => ?_ | refine .k fun z hz => ?_ | refine .o ?_ | refine .l fun ys hys hyl => ?_ | refine .zl fun zs hzs hzl => ?_ | refine .u fun u hu hul => ?_ | refine .z fun zs hzs => ?_ | refine .mk (fun h => ?_) ?_ | refine .ms fun ms hms => ?_ | refine .s fun s hs hsl => ?_ | refine And.intro ?_ ?_) <;> cbv)
      (refine callG_spec F.due (⟨selfb2, otherb2, outb2, waitb2, sentb2, gotb2, sureb2, owesb2⟩, 60 + 26 * r) [3, 4, 5] ib rfl rfl (by decide) rfl rfl rfl rfl rfl ?_; try dsimp only)
      rw [← hEb, ← hDb]
      cbv; repeat' ((first | refine .e ?_ | refine .n fun h => ?_ | refine .y fun h => ?_ | refine .q fun z hz hz0 hz1 => ?_ | refine .mk (fun h => ?_) fun h => ?_ | refine .k fun z hz => ?_ | refine .o ?_ | refine .l fun ys hys hyl => ?_ | refine .zl fun zs hzs hzl => ?_ | refine .u fun u hu hul => ?_ | refine .z fun zs hzs => ?_ | refine .mk (fun h => ?_) ?_ | refine .ms fun ms hms => ?_ | refine .s fun s hs hsl => ?_ | refine And.intro ?_ ?_) <;> cbv)
      subst hys
      rw [← hDD]
      refine xloopG (Gh.plain 14 rfl) ?_
      cbv
      refine xloopG (Gh.plain 15 rfl) ?_
      cbv
      refine xloopV [] (fun p : { p : Nat × Pr // p.1 ≤ D.length ∧ p.2 = (D.take p.1).foldl comeS S1 ∧ Ok (60 + 26 * r + p.1) p.2 ∧ ∀ x ∈ D, Fl p.2.a p.2.fromA x ∨ Fl p.2.b p.2.toA x } => [(11, .i (nI p.1.1))]) (fun p => CalmH (mapA LtA fly1) p.1.2) (fun p => lft nd p.1.1) ⟨(0, ⟨⟨self3, other3, out3, wait3, sent3, got3, sure3, owes3⟩, ⟨selfb3, otherb3, outb3, waitb3, sentb3, gotb3, sureb3, owesb3⟩, fly2, atA2, atB2, fromA2, toA2⟩), Nat.zero_le _, hS1E.symm, by rw [hS1E] at ok1; exact ok1, by rw [hS1E] at df; exact df⟩ ?_
      rintro ⟨⟨i, S'⟩, hi, hS', hO, hFl⟩
      dsimp only at hi hS' hO hFl
      obtain ⟨⟨self4, other4, out4, wait4, sent4, got4, sure4, owes4⟩, ⟨selfb4, otherb4, outb4, waitb4, sentb4, gotb4, sureb4, owesb4⟩, fly4, atA4, atB4, fromA4, toA4⟩ := S'
      cbv; repeat' ((first | refine .e ?_ | refine .n fun h => ?_ | refine .y fun h => ?_ | refine .q fun z hz hz0 hz1 => ?_ | refine .mk (fun h => ?_) fun h => ?_ | refine .k fun z hz => ?_ | refine .o ?_ | refine .l fun ys hys hyl => ?_ | refine .zl fun zs hzs hzl => ?_ | refine .u fun u hu hul => ?_ | refine .z fun zs hzs => ?_ | refine .mk (fun h => ?_) ?_ | refine .ms fun ms hms => ?_ | refine .s fun s hs hsl => ?_ | refine And.intro ?_ ?_) <;> cbv)
      · have hil : i < D.length := by ((try simp only [vn] at *) <;> omega)
        obtain ⟨l, hg⟩ := some_at hil
        obtain ⟨c1, c2, c3⟩ := cm_step hO (by omega) hFl ds (mem_some hg)
        have c4 := cm_take (S := S1) hg
        rw [← hS'] at c4
        obtain ⟨S5, hS5⟩ : ∃ x, x = comeS ⟨⟨self4, other4, out4, wait4, sent4, got4, sure4, owes4⟩, ⟨selfb4, otherb4, outb4, waitb4, sentb4, gotb4, sureb4, owesb4⟩, fly4, atA4, atB4, fromA4, toA4⟩ l := ⟨_, rfl⟩
        rw [← hS5] at c2 c3 c4
        have hsl := ds l (mem_some hg)
        have hfit := hO.fit
        obtain ⟨frm, to, number, kind, ack, deal, text, party, index, day, cur, amt, docs, boxes⟩ := l
        cbv; repeat' ((first | refine .e ?_ | refine .n fun h => ?_ | refine .y fun h => ?_ | refine .q fun z hz hz0 hz1 => ?_ | refine .mk (fun h => ?_) fun h => ?_ | refine .k fun z hz => ?_ | refine .o ?_ | refine .l fun ys hys hyl => ?_ | refine .zl fun zs hzs hzl => ?_ | refine .u fun u hu hul => ?_ | refine .z fun zs hzs => ?_ | refine .mk (fun h => ?_) ?_ | refine .ms fun ms hms => ?_ | refine .s fun s hs hsl => ?_ | refine And.intro ?_ ?_) <;> cbv)
        (refine callG_spec F.come (⟨⟨self4, other4, out4, wait4, sent4, got4, sure4, owes4⟩, ⟨selfb4, otherb4, outb4, waitb4, sentb4, gotb4, sureb4, owesb4⟩, fly4, atA4, atB4, fromA4, toA4⟩, 60 + 26 * r + i, ⟨frm, to, number, kind, ack, deal, text, party, index, day, cur, amt, docs, boxes⟩) [0, 1, 2, 3, 4, 5, 6, 12, 8, 9, 10, 11] ⟨hfit, hsl⟩ rfl rfl (by decide) rfl rfl rfl rfl rfl ?_; try dsimp only)
        rw [c1, ← hS5]
        obtain ⟨⟨self5, other5, out5, wait5, sent5, got5, sure5, owes5⟩, ⟨selfb5, otherb5, outb5, waitb5, sentb5, gotb5, sureb5, owesb5⟩, fly5, atA5, atB5, fromA5, toA5⟩ := S5
        cbv; repeat' ((first | refine .e ?_ | refine .n fun h => ?_ | refine .y fun h => ?_ | refine .q fun z hz hz0 hz1 => ?_ | refine .mk (fun h => ?_) fun h => ?_ | refine .k fun z hz => ?_ | refine .o ?_ | refine .l fun ys hys hyl => ?_ | refine .zl fun zs hzs hzl => ?_ | refine .u fun u hu hul => ?_ | refine .z fun zs hzs => ?_ | refine .mk (fun h => ?_) ?_ | refine .ms fun ms hms => ?_ | refine .s fun s hs hsl => ?_ | refine And.intro ?_ ?_) <;> cbv)
        obtain rfl := hz
        exact roundV ⟨(i + 1, ⟨⟨self5, other5, out5, wait5, sent5, got5, sure5, owes5⟩, ⟨selfb5, otherb5, outb5, waitb5, sentb5, gotb5, sureb5, owesb5⟩, fly5, atA5, atB5, fromA5, toA5⟩), hil, c4.symm, c2, c3⟩ (lft_lt (by ((try simp only [vn] at *) <;> omega)))
      · obtain rfl : i = D.length := by ((try simp only [vn] at *) <;> omega)
        rw [List.take_length] at hS'
        have hC := calm_round (S2 := ⟨⟨self4, other4, out4, wait4, sent4, got4, sure4, owes4⟩, ⟨selfb4, otherb4, outb4, waitb4, sentb4, gotb4, sureb4, owesb4⟩, fly4, atA4, atB4, fromA4, toA4⟩) hS (by ((try simp only [vn] at *) <;> omega)) (by rw [← hD, ← hS1]; exact hS') (by rw [← hD]; exact hO)
        have ja := hO.fit.a
        have jb := hO.fit.b
        dsimp only at hC ja jb
        obtain ⟨Fa, hFa⟩ : ∃ R, R = sureE ⟨self4, other4, out4, wait4, sent4, got4, sure4, owes4⟩ got4 := ⟨_, rfl⟩
        obtain ⟨Fb, hFb⟩ : ∃ R, R = sureE ⟨selfb4, otherb4, outb4, waitb4, sentb4, gotb4, sureb4, owesb4⟩ gotb4 := ⟨_, rfl⟩
        obtain ⟨Na, hNa⟩ : ∃ R, R = sureN ⟨self4, other4, out4, wait4, sent4, got4, sure4, owes4⟩ got4 := ⟨_, rfl⟩
        obtain ⟨Nb, hNb⟩ : ∃ R, R = sureN ⟨selfb4, otherb4, outb4, waitb4, sentb4, gotb4, sureb4, owesb4⟩ gotb4 := ⟨_, rfl⟩
        rw [← hFa, ← hFb] at hC
        obtain ⟨self6, other6, out6, wait6, sent6, got6, sure6, owes6⟩ := Fa
        obtain ⟨selfb6, otherb6, outb6, waitb6, sentb6, gotb6, sureb6, owesb6⟩ := Fb
        (refine callG_ro F.got 0 (rest := []) (fun x => (x 6, ⟨self4, other4, out4, wait4, sent4, got4, sure4, owes4⟩, 60 + 26 * r + D.length)) rfl rfl rfl rfl (fun _ => rfl) (fun x hx => ⟨rfl, ja, ?_⟩); try dsimp only)
        cbv; repeat' ((first | refine .e ?_ | refine .n fun h => ?_ | refine .y fun h => ?_ | refine .q fun z hz hz0 hz1 => ?_ | refine .mk (fun h => ?_) fun h => ?_ | refine .k fun z hz => ?_ | refine .o ?_ | refine .l fun ys hys hyl => ?_ | refine .zl fun zs hzs hzl => ?_ | refine .u fun u hu hul => ?_ | refine .z fun zs hzs => ?_ | refine .mk (fun h => ?_) ?_ | refine .ms fun ms hms => ?_ | refine .s fun s hs hsl => ?_ | refine And.intro ?_ ?_) <;> cbv)
        (refine callG_spec F.sure (⟨self4, other4, out4, wait4, sent4, got4, sure4, owes4⟩, 60 + 26 * r + D.length, got4) [0, 1, 2] ja rfl rfl (by decide) rfl rfl rfl rfl rfl ?_; try dsimp only)
        rw [← hFa, ← hNa]
        cbv; repeat' ((first | refine .e ?_ | refine .n fun h => ?_ | refine .y fun h => ?_ | refine .q fun z hz hz0 hz1 => ?_ | refine .mk (fun h => ?_) fun h => ?_ | refine .k fun z hz => ?_ | refine .o ?_ | refine .l fun ys hys hyl => ?_ | refine .zl fun zs hzs hzl => ?_ | refine .u fun u hu hul => ?_ | refine .z fun zs hzs => ?_ | refine .mk (fun h => ?_) ?_ | refine .ms fun ms hms => ?_ | refine .s fun s hs hsl => ?_ | refine And.intro ?_ ?_) <;> cbv)
        (refine callG_ro F.got 3 (rest := []) (fun x => (x 6, ⟨selfb4, otherb4, outb4, waitb4, sentb4, gotb4, sureb4, owesb4⟩, 60 + 26 * r + D.length)) rfl rfl rfl rfl (fun _ => rfl) (fun x hx => ⟨rfl, jb, ?_⟩); try dsimp only)
        cbv; repeat' ((first | refine .e ?_ | refine .n fun h => ?_ | refine .y fun h => ?_ | refine .q fun z hz hz0 hz1 => ?_ | refine .mk (fun h => ?_) fun h => ?_ | refine .k fun z hz => ?_ | refine .o ?_ | refine .l fun ys hys hyl => ?_ | refine .zl fun zs hzs hzl => ?_ | refine .u fun u hu hul => ?_ | refine .z fun zs hzs => ?_ | refine .mk (fun h => ?_) ?_ | refine .ms fun ms hms => ?_ | refine .s fun s hs hsl => ?_ | refine And.intro ?_ ?_) <;> cbv)
        (refine callG_spec F.sure (⟨selfb4, otherb4, outb4, waitb4, sentb4, gotb4, sureb4, owesb4⟩, 60 + 26 * r + D.length, gotb4) [3, 4, 5] jb rfl rfl (by decide) rfl rfl rfl rfl rfl ?_; try dsimp only)
        rw [← hFb, ← hNb]
        cbv; repeat' ((first | refine .e ?_ | refine .n fun h => ?_ | refine .y fun h => ?_ | refine .q fun z hz hz0 hz1 => ?_ | refine .mk (fun h => ?_) fun h => ?_ | refine .k fun z hz => ?_ | refine .o ?_ | refine .l fun ys hys hyl => ?_ | refine .zl fun zs hzs hzl => ?_ | refine .u fun u hu hul => ?_ | refine .z fun zs hzs => ?_ | refine .mk (fun h => ?_) ?_ | refine .ms fun ms hms => ?_ | refine .s fun s hs hsl => ?_ | refine And.intro ?_ ?_) <;> cbv)
        obtain rfl := hz
        exact roundV ⟨(r + 1, ⟨⟨self6, other6, out6, wait6, sent6, got6, sure6, owes6⟩, ⟨selfb6, otherb6, outb6, waitb6, sentb6, gotb6, sureb6, owesb6⟩, fly4, atA4, atB4, fromA4, toA4⟩), by dsimp only; ((try simp only [vn] at *) <;> omega), hC⟩ (lft_lt (by ((try simp only [vn] at *) <;> omega)))
    · obtain rfl : r = 3 := by ((try simp only [vn] at *) <;> omega)
      have o1 := hS.ab.none (by decide)
      have o2 := hS.ba.none (by decide)
      have g1 := hS.ab.got (by decide)
      have g2 := hS.ba.got (by decide)
      have g3 := hS.ok.net.ab.rcv.got
      have g4 := hS.ok.net.ba.rcv.got
      have g5 := hS.fa
      have g6 := hS.ta
      have m1 := hS.ok.begB
      have m2 := hS.ok.begA
      dsimp only at o1 o2 g1 g2 g3 g4 g5 g6 m1 m2
      obtain rfl := o1
      obtain rfl := o2
      obtain ⟨q, hq⟩ : ∃ q, q = sent2 - (([] : List Lt).length : Int) := ⟨_, rfl⟩
      obtain ⟨q2, hq2⟩ : ∃ q, q = sentb2 - (([] : List Lt).length : Int) := ⟨_, rfl⟩
      (refine callG_spec F.parts (⟨self2, other2, [], wait2, sent2, got2, sure2, owes2⟩, 138, q) [0, 1, 2] ⟨ia, hq⟩ rfl rfl (by decide) rfl rfl rfl rfl rfl ?_; try dsimp only)
      cbv; repeat' ((first | refine .e ?_ | refine .n fun h => ?_ | refine .y fun h => ?_ | refine .q fun z hz hz0 hz1 => ?_ | refine .mk (fun h => ?_) fun h => ?_ | refine .k fun z hz => ?_ | refine .o ?_ | refine .l fun ys hys hyl => ?_ | refine .zl fun zs hzs hzl => ?_ | refine .u fun u hu hul => ?_ | refine .z fun zs hzs => ?_ | refine .mk (fun h => ?_) ?_ | refine .ms fun ms hms => ?_ | refine .s fun s hs hsl => ?_ | refine And.intro ?_ ?_) <;> cbv)
      (refine callG_spec F.parts (⟨selfb2, otherb2, [], waitb2, sentb2, gotb2, sureb2, owesb2⟩, 138, q2) [3, 4, 5] ⟨ib, hq2⟩ rfl rfl (by decide) rfl rfl rfl rfl rfl ?_; try dsimp only)
      cbv; repeat' ((first | refine .e ?_ | refine .n fun h => ?_ | refine .y fun h => ?_ | refine .q fun z hz hz0 hz1 => ?_ | refine .mk (fun h => ?_) fun h => ?_ | refine .k fun z hz => ?_ | refine .o ?_ | refine .l fun ys hys hyl => ?_ | refine .zl fun zs hzs hzl => ?_ | refine .u fun u hu hul => ?_ | refine .z fun zs hzs => ?_ | refine .mk (fun h => ?_) ?_ | refine .ms fun ms hms => ?_ | refine .s fun s hs hsl => ?_ | refine And.intro ?_ ?_) <;> cbv)
      (refine callG_spec0 F.begins (atB2, fromA2) m1 rfl rfl rfl ?_; try dsimp only)
      cbv; repeat' ((first | refine .e ?_ | refine .n fun h => ?_ | refine .y fun h => ?_ | refine .q fun z hz hz0 hz1 => ?_ | refine .mk (fun h => ?_) fun h => ?_ | refine .k fun z hz => ?_ | refine .o ?_ | refine .l fun ys hys hyl => ?_ | refine .zl fun zs hzs hzl => ?_ | refine .u fun u hu hul => ?_ | refine .z fun zs hzs => ?_ | refine .mk (fun h => ?_) ?_ | refine .ms fun ms hms => ?_ | refine .s fun s hs hsl => ?_ | refine And.intro ?_ ?_) <;> cbv)
      (refine callG_spec0 F.begins (atA2, toA2) m2 rfl rfl rfl ?_; try dsimp only)
      cbv; repeat' ((first | refine .e ?_ | refine .n fun h => ?_ | refine .y fun h => ?_ | refine .q fun z hz hz0 hz1 => ?_ | refine .mk (fun h => ?_) fun h => ?_ | refine .k fun z hz => ?_ | refine .o ?_ | refine .l fun ys hys hyl => ?_ | refine .zl fun zs hzs hzl => ?_ | refine .u fun u hu hul => ?_ | refine .z fun zs hzs => ?_ | refine .mk (fun h => ?_) ?_ | refine .ms fun ms hms => ?_ | refine .s fun s hs hsl => ?_ | refine And.intro ?_ ?_) <;> cbv)
      exact FinK.mk ⟨_, Gh.refl _, .inl (CutK.val rfl (Le.refl _) hK)⟩
end Go.Proofs.Ytaflinfpmbfieaa
namespace Go.Proofs.Ytaflinfpmbfieaa
open Go.RowKit
set_option maxRecDepth 100000
theorem k_calms : FnOk Try.prog 3 CalmsC := body_ok (by kernel_rfl) (calms_body _ k_fns4)
end Go.Proofs.Ytaflinfpmbfieaa
namespace Go.Proofs.Ytaflinfpmbfieaa
set_option maxRecDepth 100000
/-- The second end forgets what isn't sure. -/
def crashS (S : Pr) : Pr := { S with b := ofE S.b.self S.b.other S.b.out (S.b.sent - S.b.out.length) S.b.sure, atB := S.atB.take S.b.sure.toNat }
theorem crash_ok {S : Pr} {k : Nat} (h : Ok k S) : Ok k (crashS S) := by
  have ib := h.fit.b
  have s0 := ib.sure0
  have s1 := ib.sure1
  have m := ib.gotM
  have hg := h.net.ab.rcv.got
  have hl := h.net.ab.rcv.len
  have hs : S.b.sent - (S.b.out.length : Int) + (S.b.out.length : Int) = S.b.sent := by omega
  have hT : (S.atB.take S.b.sure.toNat).length = S.b.sure.toNat := by rw [List.length_take]; omega
  refine ⟨⟨h.fit.a, ?_, h.fit.m, h.fit.fly, h.fit.atA, ?_, h.fit.flyS, h.fit.atAS, fun l hl => h.fit.atBS l (List.mem_of_mem_take hl), h.fit.fromS, h.fit.toS⟩, ⟨?_, ?_, h.net.p, h.net.q, fun l hl => ?_⟩, h.la, h.lb, h.lf⟩
  · refine ⟨ib.self, ib.other, fun i hi => ?_, ib.outL, ?_, ?_, s0, s0, Int.le_refl _, ?_, List.Pairwise.nil, ib.outS, fun l hl => (by cases hl)⟩
    · show S.b.out[i].number = S.b.sent - S.b.out.length + S.b.out.length - S.b.out.length + 1 + i
      rw [hs]; exact ib.outN i hi
    · show (S.b.out.length : Int) ≤ S.b.sent - S.b.out.length + S.b.out.length
      rw [hs]; exact ib.sent0
    · show S.b.sent - S.b.out.length + S.b.out.length ≤ 1052672
      rw [hs]; exact ib.sent1
    · show S.b.sure + ((([] : List Lt).length : Nat) : Int) ≤ k
      simp only [List.length_nil]
      omega
  · show (S.atB.take S.b.sure.toNat).length ≤ 1000000
    have := h.fit.atB
    rw [List.length_take]
    omega
  · refine ⟨h.net.ab.names, h.net.ab.snd, ⟨?_, ?_, ?_, fun x hx => (by cases hx), rfl⟩, h.net.ab.acked⟩
    · show (S.atB.take S.b.sure.toNat).length ≤ S.fromA.length
      rw [List.length_take]; omega
    · show (S.atB.take S.b.sure.toNat).map (withAck 0) = S.fromA.take (S.atB.take S.b.sure.toNat).length
      rw [List.map_take, h.net.ab.rcv.told, List.take_take, hT]
      congr 1
      omega
    · show S.b.sure = ((S.atB.take S.b.sure.toNat).length : Int)
      rw [hT]; omega
  · exact h.net.ba.snd_same rfl rfl rfl hs
  · rcases h.net.fly l hl with g | g
    · exact .inl g
    · exact .inr (g.mono rfl rfl (Int.le_refl _))
theorem crash_out {S : Pr} {k : Nat} (h : Ok k S) (hT : S.toA.length = 0) : S.b.out = [] ∧ S.b.sent = 0 ∧ S.b.sure.toNat ≤ S.atB.length := by
  have h1 := h.net.ba.snd.len
  have h2 := h.net.ba.snd.sent
  have h3 := h.net.ab.rcv.got
  have h4 := h.fit.b.sure1
  exact ⟨List.eq_nil_of_length_eq_zero (by omega), by omega, by omega⟩
/-- Behind r rounds in the calm in which the second end alone is sure. -/
structure CalmJ (th r : Nat) (S : Pr) : Prop where
  ok : Ok (60 + 26 * r) S
  ab : Cd r S.a S.b S.fromA
  fa : S.fromA.length = th
theorem calm_roundJ {th r : Nat} {S S2 : Pr} (h : CalmJ th r S) (hr : r < 3) (e : S2 = (dueD S).foldl comeS (dueS S)) (o : Ok (60 + 26 * r + (dueD S).length) S2) : CalmJ th (r + 1) { S2 with b := sureE S2.b S2.b.got } := by
  have hR := rnd_ok h.ok (by omega)
  rw [← e] at hR
  have hd := (due_all h.ok (by omega)).2.2
  refine ⟨(ok_sureB o _).mono (by omega) (by omega), ?_, ?_⟩
  · show Cd (r + 1) _ _ S2.fromA
    rw [hR.from_]
    exact h.ab.round hR.ab hR.ba o.fit.b rfl
  · show S2.fromA.length = th
    rw [hR.from_]; exact h.fa
end Go.Proofs.Ytaflinfpmbfieaa
namespace Go.Proofs.Ytaflinfpmbfieaa
/-! The entries' names turn, behind a round. -/
def renT (s : List Nat) : List (Nat × AV) → List (Nat × AV)
  | [] => []
  | (n, x) :: l => (n, x.ren s 0) :: renT s l
theorem tget_renT (s : List Nat) (n : Nat) : ∀ T : List (Nat × AV), tget (renT s T) n = (tget T n).ren s 0
  | [] => by unfold renT tget AV.ren; rfl
  | (m, x) :: T => by
    show (if m = n then x.ren s 0 else tget (renT s T) n) = (if m = n then x else tget T n).ren s 0
    split
    · rfl
    · exact tget_renT s n T
theorem bndT_tget {n : Nat} (m : Nat) : ∀ T : List (Nat × AV), bndT n T = true → (tget T m).bnd n = true
  | [], _ => by unfold tget AV.bnd; rfl
  | (k, x) :: T, h => by
    simp only [bndT, Bool.and_eq_true] at h
    show (if k = m then x else tget T m).bnd n = true
    split
    · exact h.1
    · exact bndT_tget m T h.2
theorem Gh.sel {st st' : St} (s : List Nat) (hw : weakT st.T (renT s st'.T)) (hH : s.map (fun k => st.H[k]?) = (renH s 0 st'.H).map some) (hnd : s.Nodup) (hbT : bndT st'.H.length st'.T = true) (hbH : bndH st'.H.length st'.H = true) : Gh 0 st st' := fun C a w r pub hCm h => by
  have hlen : s.length = st'.H.length := by have := congrArg List.length hH; simpa [renH_map] using this
  have hsi : ∀ i (hi : i < s.length), sigma s 0 i = s[i] := fun i hi => sigma_lt hi
  let r0 : Rho := fun i => if i < s.length then r (sigma s 0 i) else none
  have hr0 : ∀ i y, r0 i = some y → i < s.length ∧ r (sigma s 0 i) = some y := fun i y hy => by
    by_cases hi : i < s.length
    · simp only [r0, if_pos hi] at hy; exact ⟨hi, hy⟩
    · simp only [r0, if_neg hi] at hy; cases hy
  have hr0' : ∀ i, i < s.length → r0 i = r (sigma s 0 i) := fun i hi => if_pos hi
  have hinj : ∀ i j, i < s.length → j < s.length → sigma s 0 i = sigma s 0 j → i = j := fun i j hi hj e => by
    rw [hsi i hi, hsi j hj] at e
    exact nodup_inj hnd e
  have hent : ∀ i e, st'.H[i]? = some e → st.H[sigma s 0 i]? = some (e.ren s 0) := fun i e he => by
    have hi : i < s.length := by rw [hlen]; exact (List.getElem?_eq_some_iff.1 he).1
    have h1 := congrArg (fun l => l[i]?) hH
    simp only [List.getElem?_map, renH_map, he, Option.map_some, List.getElem?_eq_getElem hi] at h1
    rw [hsi i hi]
    simpa using h1
  refine ⟨r0, pub, ⟨fun i e he => ?_, fun i hi => if_neg (by omega), fun i j x y hij hx hy => ?_, h.mod.fresh, h.mod.there⟩, fun k x hx => h.own _ x (hr0 k x hx).2, h.fr, fun m => ?_, h.defers, h.size, fun k y hy _ => ?_, h.low.1, by omega⟩
  · have hi : i < s.length := by rw [hlen]; exact (List.getElem?_eq_some_iff.1 he).1
    have he1 := h.mod.ent _ _ (hent i e he)
    have hbe := bndH_get hbH i e he
    rw [hr0' i hi]
    generalize r (sigma s 0 i) = hdl at he1
    cases e with
    | dead => cases he1; exact .dead
    | blk t cs =>
      cases he1 with
      | blk hb1 hcs hp =>
        refine .blk hb1 ⟨by have := hcs.len; rw [AV.renL_map, List.length_map] at this; exact this, fun q x u hx hu => ?_⟩ hp
        refine (hcs.at_ q (x.ren s 0) u (by rw [AV.renL_map, List.getElem?_map, hx]; rfl) hu).unren x rfl fun k y hk hy => ?_
        have hkb : k < st'.H.length := AV.bnd_has _ (AV.bndL_mem hx hbe) hk
        rw [hr0' k (by omega)]
        exact hy
    | row t sz xs => cases he1 with | row ho hcs hs hp => exact .row ho hcs hs hp
    | tip t sz xs => cases he1 with | tip ho hcs hs hp => exact .tip ho hcs hs hp
    | map t es => cases he1 with | map hb1 hl hk hv1 hp => exact .map hb1 hl hk hv1 hp
  · obtain ⟨hi, hx⟩ := hr0 i x hx
    obtain ⟨hj, hy⟩ := hr0 j y hy
    exact h.mod.disj _ _ x y (fun e => hij (hinj i j hi hj e)) hx hy
  · rcases weakT_get hw m with h1 | h1
    · rw [tget_renT] at h1
      have : tget st'.T m = .any := by
        cases hx : tget st'.T m <;> rw [hx] at h1 <;> unfold AV.ren at h1 <;> first | rfl | cases h1
      rw [this]
      exact .any _
    · have h2 := h.slots m
      rw [← h1, tget_renT] at h2
      refine h2.unren _ rfl fun k y hk hy => ?_
      have hkb := AV.bnd_has _ (bndT_tget m _ hbT) hk
      rw [hr0' k (by omega)]
      exact hy
  · rw [h.low.1 k (by omega)] at hy
    cases hy
/-- The end of a round that left new entries in the places of old ones. -/
theorem roundS {ι : Type} {F : ι → St} {μ : ι → Ms} {n : Ms} {st : St} (s : List Nat) (j : ι) (hl : (μ j).val < n.val) (hw : weakT st.T (renT s (F j).T) := by repeat' (first | exact trivial | refine ⟨.inl rfl, ?_⟩ | refine ⟨.inr rfl, ?_⟩))
    (hH : s.map (fun k => st.H[k]?) = (renH s 0 (F j).H).map some := by rfl) (hnd : s.Nodup := by decide) (hbT : bndT (F j).H.length (F j).T = true := by rfl) (hbH : bndH (F j).H.length (F j).H = true := by rfl) : RoundK 0 F μ n st :=
  ⟨_, j, Gh.sel s hw hH hnd hbT hbH, rfl, hl⟩
end Go.Proofs.Ytaflinfpmbfieaa
namespace Go.Proofs.Ytaflinfpmbfieaa
open Go.RowKit
set_option maxHeartbeats 4000000
set_option maxRecDepth 100000
structure U8 where
  n : Nat
noncomputable def U8A : U8 → AV
  | ⟨n⟩ => .int .u8 (nI n)
noncomputable def CrashC : Ctr := spec (fun i : Int × List Nt × List U8 => [.i i.1, .sl 2 (mapA NtA i.2.1), .sl 1 (mapA U8A i.2.2)]) (fun _ => []) (fun i => (∀ x ∈ i.2.1, x.n < 256) ∧ ∀ c ∈ i.2.2, c.n < 256) (fun _ => .bl true) fun _ => []
theorem crash_body (P : Program) (F : Fns4 P) (O : OfFns P) : BodyOk P x7 CrashC := by
  intro args H K hc
  obtain ⟨⟨th, L, C⟩, rfl, rfl, ⟨hx, hxc⟩, hK⟩ := hc
  refine ⟨Nat.le_of_ble_eq_true rfl, ?_⟩
  dsimp only at hx hxc hK ⊢
  obtain ⟨n, hn⟩ : ∃ n, n = L.length := ⟨_, rfl⟩
  cbv; repeat' ((first | refine .e ?_ | refine .n fun h => ?_ | refine .y fun h => ?_ | refine .q fun z hz hz0 hz1 => ?_ | refine .mk (fun h => ?_) fun h => ?_ | refine .k fun z hz => ?_ | refine .o ?_ | refine .l fun ys hys hyl => ?_ | refine .zl fun zs hzs hzl => ?_ | refine .u fun u hu hul => ?_ | refine .z fun zs hzs => ?_ | refine .mk (fun h => ?_) ?_ | refine .ms fun ms hms => ?_ | refine .s fun s hs hsl => ?_ | refine And.intro ?_ ?_) <;> cbv)
  (refine callG_spec0 F.awake () trivial rfl rfl rfl ?_; try dsimp only)
  cbv; repeat' ((first | refine .e ?_ | refine .n fun h => ?_ | refine .y fun h => ?_ | refine .q fun z hz hz0 hz1 => ?_ | refine .mk (fun h => ?_) fun h => ?_ | refine .k fun z hz => ?_ | refine .o ?_ | refine .l fun ys hys hyl => ?_ | refine .zl fun zs hzs hzl => ?_ | refine .u fun u hu hul => ?_ | refine .z fun zs hzs => ?_ | refine .mk (fun h => ?_) ?_ | refine .ms fun ms hms => ?_ | refine .s fun s hs hsl => ?_ | refine And.intro ?_ ?_) <;> cbv)
  iterate 3
    · exact FinK.mk ⟨_, Gh.refl _, .inl (CutK.val rfl (Le.refl _) hK)⟩
  obtain ⟨th, rfl⟩ := Int.eq_ofNat_of_zero_le (by omega : 0 ≤ th)
  have hL60 : L.length ≤ 50 := by ((try simp only [vn] at *) <;> omega)
  have hok := made_ok th 0 (by omega) (by omega)
  obtain ⟨S0, hS0⟩ : ∃ S0, S0 = madeS th 0 := ⟨_, rfl⟩
  have hF0 : S0.fromA.length = th := by rw [hS0]; exact sentL_len _ _ _ _
  have hT0 : S0.toA.length = 0 := by rw [hS0]; exact sentL_len _ _ _ _
  (refine callG_new F.made (th, 0) ⟨by dsimp only; omega, by dsimp only; omega⟩ rfl rfl ?_; try dsimp only)
  rw [← hS0] at hok ⊢
  obtain ⟨⟨self0, other0, out0, wait0, sent0, got0, sure0, owes0⟩, ⟨selfb0, otherb0, outb0, waitb0, sentb0, gotb0, sureb0, owesb0⟩, fly0, atA0, atB0, fromA0, toA0⟩ := S0
  cbv; repeat' ((first | refine .e ?_ | refine .n fun h => ?_ | refine .y fun h => ?_ | refine .q fun z hz hz0 hz1 => ?_ | refine .mk (fun h => ?_) fun h => ?_ | refine .k fun z hz => ?_ | refine .o ?_ | refine .l fun ys hys hyl => ?_ | refine .zl fun zs hzs hzl => ?_ | refine .u fun u hu hul => ?_ | refine .z fun zs hzs => ?_ | refine .mk (fun h => ?_) ?_ | refine .ms fun ms hms => ?_ | refine .s fun s hs hsl => ?_ | refine And.intro ?_ ?_) <;> cbv)
  refine xloopV [] (fun p : { p : Nat × Pr // p.1 ≤ L.length ∧ Ok p.1 p.2 ∧ p.2.fromA.length = th ∧ p.2.toA.length = 0 } => [(8, .i (nI p.1.1))]) (fun p => PairH p.1.2) (fun p => lft n p.1.1) ⟨(0, ⟨⟨self0, other0, out0, wait0, sent0, got0, sure0, owes0⟩, ⟨selfb0, otherb0, outb0, waitb0, sentb0, gotb0, sureb0, owesb0⟩, fly0, atA0, atB0, fromA0, toA0⟩), Nat.zero_le _, hok, hF0, hT0⟩ ?_
  rintro ⟨⟨i, S⟩, hi, hS, hF, hT⟩
  dsimp only at hi hS hF hT
  have hcr := crash_ok hS
  have hco := crash_out hS hT
  have nq := hS.net.q
  have np := hS.net.p
  have nn1 := hS.net.ab.names
  have hgt := hS.net.ab.rcv.got
  have hsg := hS.fit.b.sure1
  have hs0 := hS.fit.b.sure0
  have hib := hS.fit.b
  have hlen := hS.net.ab.rcv.len
  obtain ⟨⟨self1, other1, out1, wait1, sent1, got1, sure1, owes1⟩, ⟨selfb1, otherb1, outb1, waitb1, sentb1, gotb1, sureb1, owesb1⟩, fly1, atA1, atB1, fromA1, toA1⟩ := S
  unfold crashS at hcr
  dsimp only at hcr hco nq np nn1 hgt hsg hs0 hib hF hT hlen
  obtain ⟨ho1, ho2, ho3⟩ := hco
  rw [np] at nn1
  obtain rfl := nq
  obtain rfl := np
  obtain rfl := nn1.1
  obtain ⟨nc, hnc⟩ : ∃ n, n = C.length := ⟨_, rfl⟩
  obtain ⟨q, hq⟩ : ∃ q, q = sentb1 - (outb1.length : Int) := ⟨_, rfl⟩
  obtain ⟨atBc, hatBc⟩ : ∃ t, t = atB1.take sureb1.toNat := ⟨_, rfl⟩
  have e5 : ofE ⟨#[113]⟩ ⟨#[112]⟩ outb1 q sureb1 = ⟨⟨#[113]⟩, ⟨#[112]⟩, outb1, [], sentb1, sureb1, sureb1, false⟩ := by rw [ofE, hq]; congr 1; omega
  rw [← hq, ← hatBc, e5] at hcr
  rcases Nat.lt_or_ge i L.length with hil | hil
  · obtain ⟨⟨nk, nn⟩, hg⟩ := some_at hil
    have hx0 := hx _ (mem_some hg)
    obtain ⟨d1, d2, d3, d4⟩ := ok_do (x := ⟨nk, nn⟩) hS (by omega)
    obtain ⟨e1, e2, e3, e4⟩ := ok_do (x := ⟨nk, nn⟩) hcr (by omega)
    have hf5 := hS.lf
    have hfit := hS.fit
    have hfitc := hcr.fit
    dsimp only at hf5 hx0
    obtain ⟨S', hS'⟩ : ∃ S', S' = (doR ⟨⟨⟨#[112]⟩, other1, out1, wait1, sent1, got1, sure1, owes1⟩, ⟨⟨#[113]⟩, ⟨#[112]⟩, outb1, waitb1, sentb1, gotb1, sureb1, owesb1⟩, fly1, atA1, atB1, fromA1, toA1⟩ ⟨nk, nn⟩).1 := ⟨_, rfl⟩
    obtain ⟨Sc, hSc⟩ : ∃ S', S' = (doR ⟨⟨⟨#[112]⟩, other1, out1, wait1, sent1, got1, sure1, owes1⟩, ⟨⟨#[113]⟩, ⟨#[112]⟩, outb1, [], sentb1, sureb1, sureb1, false⟩, fly1, atA1, atBc, fromA1, toA1⟩ ⟨nk, nn⟩).1 := ⟨_, rfl⟩
    rw [← hS'] at d2 d3 d4
    rw [← hSc] at e2 e3 e4
    dsimp only at d3 d4 e3 e4
    cbv; repeat' ((first | refine .e ?_ | refine .n fun h => ?_ | refine .y fun h => ?_ | refine .q fun z hz hz0 hz1 => ?_ | refine .mk (fun h => ?_) fun h => ?_ | refine .k fun z hz => ?_ | refine .o ?_ | refine .l fun ys hys hyl => ?_ | refine .zl fun zs hzs hzl => ?_ | refine .u fun u hu hul => ?_ | refine .z fun zs hzs => ?_ | refine .mk (fun h => ?_) ?_ | refine .ms fun ms hms => ?_ | refine .s fun s hs hsl => ?_ | refine And.intro ?_ ?_) <;> cbv)
    · have hil2 : i < C.length := by ((try simp only [vn] at *) <;> omega)
      obtain ⟨c, hgc⟩ := some_at hil2
      have hc0 := hxc c (mem_some hgc)
      obtain ⟨c⟩ := c
      dsimp only at hc0
      cbv; repeat' ((first | refine .e ?_ | refine .n fun h => ?_ | refine .y fun h => ?_ | refine .q fun z hz hz0 hz1 => ?_ | refine .mk (fun h => ?_) fun h => ?_ | refine .k fun z hz => ?_ | refine .o ?_ | refine .l fun ys hys hyl => ?_ | refine .zl fun zs hzs hzl => ?_ | refine .u fun u hu hul => ?_ | refine .z fun zs hzs => ?_ | refine .mk (fun h => ?_) ?_ | refine .ms fun ms hms => ?_ | refine .s fun s hs hsl => ?_ | refine And.intro ?_ ?_) <;> cbv)
      · (refine callG_ro F.ack 3 (rest := []) (fun x => (x 6, ⟨⟨#[113]⟩, ⟨#[112]⟩, outb1, waitb1, sentb1, gotb1, sureb1, owesb1⟩, i)) rfl rfl rfl rfl (fun _ => rfl) (fun x hx => ⟨rfl, hib, ?_⟩); try dsimp only)
        cbv; repeat' ((first | refine .e ?_ | refine .n fun h => ?_ | refine .y fun h => ?_ | refine .q fun z hz hz0 hz1 => ?_ | refine .mk (fun h => ?_) fun h => ?_ | refine .k fun z hz => ?_ | refine .o ?_ | refine .l fun ys hys hyl => ?_ | refine .zl fun zs hzs hzl => ?_ | refine .u fun u hu hul => ?_ | refine .z fun zs hzs => ?_ | refine .mk (fun h => ?_) ?_ | refine .ms fun ms hms => ?_ | refine .s fun s hs hsl => ?_ | refine And.intro ?_ ?_) <;> cbv)
        (refine callG_spec F.parts (⟨⟨#[113]⟩, ⟨#[112]⟩, outb1, waitb1, sentb1, gotb1, sureb1, owesb1⟩, i, q) [3, 4, 5] ⟨hib, hq⟩ rfl rfl (by decide) rfl rfl rfl rfl rfl ?_; try dsimp only)
        cbv; repeat' ((first | refine .e ?_ | refine .n fun h => ?_ | refine .y fun h => ?_ | refine .q fun z hz hz0 hz1 => ?_ | refine .mk (fun h => ?_) fun h => ?_ | refine .k fun z hz => ?_ | refine .o ?_ | refine .l fun ys hys hyl => ?_ | refine .zl fun zs hzs hzl => ?_ | refine .u fun u hu hul => ?_ | refine .z fun zs hzs => ?_ | refine .mk (fun h => ?_) ?_ | refine .ms fun ms hms => ?_ | refine .s fun s hs hsl => ?_ | refine And.intro ?_ ?_) <;> cbv)
        have w1 : outb1.length = 0 := by rw [ho1]; rfl
        have w2 := hfit.atB
        dsimp only at w2
        (refine callG_new O.c (⟨#[113]⟩, ⟨#[112]⟩, outb1, q, sureb1) ⟨⟨by dsimp only; decide, by dsimp only; decide, by dsimp only; omega, hib.outS⟩, fun hh => by (obtain hh | hh := hh; (· exact absurd hh (by dsimp only; decide)); dsimp only at hh; ((try simp only [vn] at *) <;> omega)), fun ⟨k, hk, _⟩ => by (dsimp only at hk; omega)⟩ rfl rfl ?_; try dsimp only)
        rw [e5]
        cbv; repeat' ((first | refine .e ?_ | refine .n fun h => ?_ | refine .y fun h => ?_ | refine .q fun z hz hz0 hz1 => ?_ | refine .mk (fun h => ?_) fun h => ?_ | refine .k fun z hz => ?_ | refine .o ?_ | refine .l fun ys hys hyl => ?_ | refine .zl fun zs hzs hzl => ?_ | refine .u fun u hu hul => ?_ | refine .z fun zs hzs => ?_ | refine .mk (fun h => ?_) ?_ | refine .ms fun ms hms => ?_ | refine .s fun s hs hsl => ?_ | refine And.intro ?_ ?_) <;> cbv)
        obtain rfl : ys = atBc := by rw [hys, hatBc]; rfl
        refine callG_publish 15 rfl ?_
        (refine callG_spec F.do_ (⟨⟨⟨#[112]⟩, other1, out1, wait1, sent1, got1, sure1, owes1⟩, ⟨⟨#[113]⟩, ⟨#[112]⟩, outb1, [], sentb1, sureb1, sureb1, false⟩, fly1, atA1, ys, fromA1, toA1⟩, i, ⟨nk, nn⟩) [0, 1, 2, 12, 13, 14, 6, 7, 8, 15, 10, 11] ⟨hfitc, by dsimp only; omega, hx0⟩ rfl rfl (by decide) rfl rfl rfl rfl rfl ?_; try dsimp only)
        rw [e1, ← hSc]
        have m1 := e2.begB
        obtain ⟨⟨self2, other2, out2, wait2, sent2, got2, sure2, owes2⟩, ⟨selfb2, otherb2, outb2, waitb2, sentb2, gotb2, sureb2, owesb2⟩, fly2, atA2, atB2, fromA2, toA2⟩ := Sc
        dsimp only at e3 e4 m1
        cbv; repeat' ((first | refine .e ?_ | refine .n fun h => ?_ | refine .y fun h => ?_ | refine .q fun z hz hz0 hz1 => ?_ | refine .mk (fun h => ?_) fun h => ?_ | refine .k fun z hz => ?_ | refine .o ?_ | refine .l fun ys hys hyl => ?_ | refine .zl fun zs hzs hzl => ?_ | refine .u fun u hu hul => ?_ | refine .z fun zs hzs => ?_ | refine .mk (fun h => ?_) ?_ | refine .ms fun ms hms => ?_ | refine .s fun s hs hsl => ?_ | refine And.intro ?_ ?_) <;> cbv)
        (refine callG_spec0 F.begins (atB2, fromA2) m1 rfl rfl rfl ?_; try dsimp only)
        cbv; repeat' ((first | refine .e ?_ | refine .n fun h => ?_ | refine .y fun h => ?_ | refine .q fun z hz hz0 hz1 => ?_ | refine .mk (fun h => ?_) fun h => ?_ | refine .k fun z hz => ?_ | refine .o ?_ | refine .l fun ys hys hyl => ?_ | refine .zl fun zs hzs hzl => ?_ | refine .u fun u hu hul => ?_ | refine .z fun zs hzs => ?_ | refine .mk (fun h => ?_) ?_ | refine .ms fun ms hms => ?_ | refine .s fun s hs hsl => ?_ | refine And.intro ?_ ?_) <;> cbv)
        obtain rfl := hz
        exact roundS [0, 1, 2, 12, 13, 14, 6, 7, 8, 15, 10, 11] ⟨(i + 1, ⟨⟨self2, other2, out2, wait2, sent2, got2, sure2, owes2⟩, ⟨selfb2, otherb2, outb2, waitb2, sentb2, gotb2, sureb2, owesb2⟩, fly2, atA2, atB2, fromA2, toA2⟩), by dsimp only; ((try simp only [vn] at *) <;> omega), e2, by dsimp only; rw [e3]; exact hF, by dsimp only; rw [e4]; exact hT⟩ (lft_lt (by ((try simp only [vn] at *) <;> omega)))
      · (refine callG_spec F.do_ (⟨⟨⟨#[112]⟩, other1, out1, wait1, sent1, got1, sure1, owes1⟩, ⟨⟨#[113]⟩, ⟨#[112]⟩, outb1, waitb1, sentb1, gotb1, sureb1, owesb1⟩, fly1, atA1, atB1, fromA1, toA1⟩, i, ⟨nk, nn⟩) [0, 1, 2, 3, 4, 5, 6, 7, 8, 9, 10, 11] ⟨hfit, by dsimp only; omega, hx0⟩ rfl rfl (by decide) rfl rfl rfl rfl rfl ?_; try dsimp only)
        rw [d1, ← hS']
        have m1 := d2.begB
        obtain ⟨⟨self2, other2, out2, wait2, sent2, got2, sure2, owes2⟩, ⟨selfb2, otherb2, outb2, waitb2, sentb2, gotb2, sureb2, owesb2⟩, fly2, atA2, atB2, fromA2, toA2⟩ := S'
        dsimp only at d3 d4 m1
        cbv; repeat' ((first | refine .e ?_ | refine .n fun h => ?_ | refine .y fun h => ?_ | refine .q fun z hz hz0 hz1 => ?_ | refine .mk (fun h => ?_) fun h => ?_ | refine .k fun z hz => ?_ | refine .o ?_ | refine .l fun ys hys hyl => ?_ | refine .zl fun zs hzs hzl => ?_ | refine .u fun u hu hul => ?_ | refine .z fun zs hzs => ?_ | refine .mk (fun h => ?_) ?_ | refine .ms fun ms hms => ?_ | refine .s fun s hs hsl => ?_ | refine And.intro ?_ ?_) <;> cbv)
        (refine callG_spec0 F.begins (atB2, fromA2) m1 rfl rfl rfl ?_; try dsimp only)
        cbv; repeat' ((first | refine .e ?_ | refine .n fun h => ?_ | refine .y fun h => ?_ | refine .q fun z hz hz0 hz1 => ?_ | refine .mk (fun h => ?_) fun h => ?_ | refine .k fun z hz => ?_ | refine .o ?_ | refine .l fun ys hys hyl => ?_ | refine .zl fun zs hzs hzl => ?_ | refine .u fun u hu hul => ?_ | refine .z fun zs hzs => ?_ | refine .mk (fun h => ?_) ?_ | refine .ms fun ms hms => ?_ | refine .s fun s hs hsl => ?_ | refine And.intro ?_ ?_) <;> cbv)
        obtain rfl := hz
        exact roundV ⟨(i + 1, ⟨⟨self2, other2, out2, wait2, sent2, got2, sure2, owes2⟩, ⟨selfb2, otherb2, outb2, waitb2, sentb2, gotb2, sureb2, owesb2⟩, fly2, atA2, atB2, fromA2, toA2⟩), by dsimp only; ((try simp only [vn] at *) <;> omega), d2, by dsimp only; rw [d3]; exact hF, by dsimp only; rw [d4]; exact hT⟩ (lft_lt (by ((try simp only [vn] at *) <;> omega)))
    · (refine callG_spec F.do_ (⟨⟨⟨#[112]⟩, other1, out1, wait1, sent1, got1, sure1, owes1⟩, ⟨⟨#[113]⟩, ⟨#[112]⟩, outb1, waitb1, sentb1, gotb1, sureb1, owesb1⟩, fly1, atA1, atB1, fromA1, toA1⟩, i, ⟨nk, nn⟩) [0, 1, 2, 3, 4, 5, 6, 7, 8, 9, 10, 11] ⟨hfit, by dsimp only; omega, hx0⟩ rfl rfl (by decide) rfl rfl rfl rfl rfl ?_; try dsimp only)
      rw [d1, ← hS']
      have m1 := d2.begB
      obtain ⟨⟨self2, other2, out2, wait2, sent2, got2, sure2, owes2⟩, ⟨selfb2, otherb2, outb2, waitb2, sentb2, gotb2, sureb2, owesb2⟩, fly2, atA2, atB2, fromA2, toA2⟩ := S'
      dsimp only at d3 d4 m1
      cbv; repeat' ((first | refine .e ?_ | refine .n fun h => ?_ | refine .y fun h => ?_ | refine .q fun z hz hz0 hz1 => ?_ | refine .mk (fun h => ?_) fun h => ?_ | refine .k fun z hz => ?_ | refine .o ?_ | refine .l fun ys hys hyl => ?_ | refine .zl fun zs hzs hzl => ?_ | refine .u fun u hu hul => ?_ | refine .z fun zs hzs => ?_ | refine .mk (fun h => ?_) ?_ | refine .ms fun ms hms => ?_ | refine .s fun s hs hsl => ?_ | refine And.intro ?_ ?_) <;> cbv)
      (refine callG_spec0 F.begins (atB2, fromA2) m1 rfl rfl rfl ?_; try dsimp only)
      cbv; repeat' ((first | refine .e ?_ | refine .n fun h => ?_ | refine .y fun h => ?_ | refine .q fun z hz hz0 hz1 => ?_ | refine .mk (fun h => ?_) fun h => ?_ | refine .k fun z hz => ?_ | refine .o ?_ | refine .l fun ys hys hyl => ?_ | refine .zl fun zs hzs hzl => ?_ | refine .u fun u hu hul => ?_ | refine .z fun zs hzs => ?_ | refine .mk (fun h => ?_) ?_ | refine .ms fun ms hms => ?_ | refine .s fun s hs hsl => ?_ | refine And.intro ?_ ?_) <;> cbv)
      obtain rfl := hz
      exact roundV ⟨(i + 1, ⟨⟨self2, other2, out2, wait2, sent2, got2, sure2, owes2⟩, ⟨selfb2, otherb2, outb2, waitb2, sentb2, gotb2, sureb2, owesb2⟩, fly2, atA2, atB2, fromA2, toA2⟩), by dsimp only; ((try simp only [vn] at *) <;> omega), d2, by dsimp only; rw [d3]; exact hF, by dsimp only; rw [d4]; exact hT⟩ (lft_lt (by ((try simp only [vn] at *) <;> omega)))
  · have hC0 : CalmJ th 0 ⟨⟨⟨#[112]⟩, other1, out1, wait1, sent1, got1, sure1, owes1⟩, ⟨⟨#[113]⟩, ⟨#[112]⟩, outb1, waitb1, sentb1, gotb1, sureb1, owesb1⟩, [], atA1, atB1, fromA1, toA1⟩ := ⟨(ok_calm hS).mono (by omega) (by decide), Cd.zero, hF⟩
    cbv; repeat' ((first | refine .e ?_ | refine .n fun h => ?_ | refine .y fun h => ?_ | refine .q fun z hz hz0 hz1 => ?_ | refine .mk (fun h => ?_) fun h => ?_ | refine .k fun z hz => ?_ | refine .o ?_ | refine .l fun ys hys hyl => ?_ | refine .zl fun zs hzs hzl => ?_ | refine .u fun u hu hul => ?_ | refine .z fun zs hzs => ?_ | refine .mk (fun h => ?_) ?_ | refine .ms fun ms hms => ?_ | refine .s fun s hs hsl => ?_ | refine And.intro ?_ ?_) <;> cbv)
    refine xloopG (Gh.adoptC 6 2 40 14 rfl rfl) ?_
    cbv
    refine xloopG (Gh.publish 12 rfl) ?_
    cbv
    refine xloopV [] (fun p : { p : Nat × Pr // p.1 ≤ 3 ∧ CalmJ th p.1 p.2 } => [(15, .i (nI p.1.1))]) (fun p => CalmH (mapA LtA fly1) p.1.2) (fun p => lft 3 p.1.1) ⟨(0, ⟨⟨⟨#[112]⟩, other1, out1, wait1, sent1, got1, sure1, owes1⟩, ⟨⟨#[113]⟩, ⟨#[112]⟩, outb1, waitb1, sentb1, gotb1, sureb1, owesb1⟩, [], atA1, atB1, fromA1, toA1⟩), Nat.zero_le _, hC0⟩ ?_
    rintro ⟨⟨r, S⟩, hr, hS⟩
    dsimp only at hr hS
    obtain ⟨D, hD⟩ : ∃ D, D = dueD S := ⟨_, rfl⟩
    obtain ⟨S1, hS1⟩ : ∃ x, x = dueS S := ⟨_, rfl⟩
    obtain ⟨Ea, hEa⟩ : ∃ R, R = dueE S.a := ⟨_, rfl⟩
    obtain ⟨Eb, hEb⟩ : ∃ R, R = dueE S.b := ⟨_, rfl⟩
    obtain ⟨Da, hDa⟩ : ∃ R, R = dueL S.a := ⟨_, rfl⟩
    obtain ⟨Db, hDb⟩ : ∃ R, R = dueL S.b := ⟨_, rfl⟩
    have hDD : D = Da ++ Db := by rw [hD, hDa, hDb]; rfl
    have hS1E : S1 = ⟨Ea, Eb, S.fly, S.atA, S.atB, S.fromA, S.toA⟩ := by rw [hS1, hEa, hEb]; rfl
    obtain ⟨df, ds, dl⟩ := due_all hS.ok (by omega)
    have ok1 := ok_due hS.ok
    rw [← hD] at df ds dl
    rw [← hS1] at df
    rw [← hEa, ← hEb, ← hS1E] at ok1
    have dl2 : Da.length + Db.length ≤ 26 := by rw [hDD, List.length_append] at dl; exact dl
    have ia := hS.ok.fit.a
    have ib := hS.ok.fit.b
    obtain ⟨nd, hnd⟩ : ∃ n, n = D.length := ⟨_, rfl⟩
    obtain ⟨⟨self2, other2, out2, wait2, sent2, got2, sure2, owes2⟩, ⟨selfb2, otherb2, outb2, waitb2, sentb2, gotb2, sureb2, owesb2⟩, fly2, atA2, atB2, fromA2, toA2⟩ := S
    obtain ⟨self3, other3, out3, wait3, sent3, got3, sure3, owes3⟩ := Ea
    obtain ⟨selfb3, otherb3, outb3, waitb3, sentb3, gotb3, sureb3, owesb3⟩ := Eb
    dsimp only at hEa hEb hDa hDb hS1E ia ib
    cbv; repeat' ((first | refine .e ?_ | refine .n fun h => ?_ | refine .y fun h => ?_ | refine .q fun z hz hz0 hz1 => ?_ | refine .mk (fun h => ?_) fun h => ?_ | refine .k fun z hz => ?_ | refine .o ?_ | refine .l fun ys hys hyl => ?_ | refine .zl fun zs hzs hzl => ?_ | refine .u fun u hu hul => ?_ | refine .z fun zs hzs => ?_ | refine .mk (fun h => ?_) ?_ | refine .ms fun ms hms => ?_ | refine .s fun s hs hsl => ?_ | refine And.intro ?_ ?_) <;> cbv)
    · (refine callG_spec F.due (⟨self2, other2, out2, wait2, sent2, got2, sure2, owes2⟩, 60 + 26 * r) [0, 1, 2] ia rfl rfl (by decide) rfl rfl rfl rfl rfl ?_; try dsimp only)
      rw [← hEa, ← hDa]
      cbv; repeat' ((first | refine .e ?_ | refine .n fun h => ?_ | refine .y fun h => ?_ | refine .q fun z hz hz0 hz1 => ?_ | refine .mk (fun h => ?_) fun h => ?_ | refine .k fun z hz => ?_ | refine .o ?_ | refine .l fun ys hys hyl => ?_ | refine .zl fun zs hzs hzl => ?_ | refine .u fun u hu hul => ?_ | refine .z fun zs hzs => ?_ | refine .mk (fun h => ?_) ?_ | refine .ms fun ms hms => ?_ | refine .s fun s hs hsl => ?_ | refine And.intro ?_ ?_) <;> cbv)
      (refine callG_spec F.due (⟨selfb2, otherb2, outb2, waitb2, sentb2, gotb2, sureb2, owesb2⟩, 60 + 26 * r) [3, 4, 5] ib rfl rfl (by decide) rfl rfl rfl rfl rfl ?_; try dsimp only)
      rw [← hEb, ← hDb]
      cbv; repeat' ((first | refine .e ?_ | refine .n fun h => ?_ | refine .y fun h => ?_ | refine .q fun z hz hz0 hz1 => ?_ | refine .mk (fun h => ?_) fun h => ?_ | refine .k fun z hz => ?_ | refine .o ?_ | refine .l fun ys hys hyl => ?_ | refine .zl fun zs hzs hzl => ?_ | refine .u fun u hu hul => ?_ | refine .z fun zs hzs => ?_ | refine .mk (fun h => ?_) ?_ | refine .ms fun ms hms => ?_ | refine .s fun s hs hsl => ?_ | refine And.intro ?_ ?_) <;> cbv)
      subst hys
      rw [← hDD]
      refine xloopG (Gh.plain 14 rfl) ?_
      cbv
      refine xloopG (Gh.plain 15 rfl) ?_
      cbv
      refine xloopV [] (fun p : { p : Nat × Pr // p.1 ≤ D.length ∧ p.2 = (D.take p.1).foldl comeS S1 ∧ Ok (60 + 26 * r + p.1) p.2 ∧ ∀ x ∈ D, Fl p.2.a p.2.fromA x ∨ Fl p.2.b p.2.toA x } => [(17, .i (nI p.1.1))]) (fun p => CalmH (mapA LtA fly1) p.1.2) (fun p => lft nd p.1.1) ⟨(0, ⟨⟨self3, other3, out3, wait3, sent3, got3, sure3, owes3⟩, ⟨selfb3, otherb3, outb3, waitb3, sentb3, gotb3, sureb3, owesb3⟩, fly2, atA2, atB2, fromA2, toA2⟩), Nat.zero_le _, hS1E.symm, by rw [hS1E] at ok1; exact ok1, by rw [hS1E] at df; exact df⟩ ?_
      rintro ⟨⟨i, S'⟩, hi, hS', hO, hFl⟩
      dsimp only at hi hS' hO hFl
      obtain ⟨⟨self4, other4, out4, wait4, sent4, got4, sure4, owes4⟩, ⟨selfb4, otherb4, outb4, waitb4, sentb4, gotb4, sureb4, owesb4⟩, fly4, atA4, atB4, fromA4, toA4⟩ := S'
      cbv; repeat' ((first | refine .e ?_ | refine .n fun h => ?_ | refine .y fun h => ?_ | refine .q fun z hz hz0 hz1 => ?_ | refine .mk (fun h => ?_) fun h => ?_ | refine .k fun z hz => ?_ | refine .o ?_ | refine .l fun ys hys hyl => ?_ | refine .zl fun zs hzs hzl => ?_ | refine .u fun u hu hul => ?_ | refine .z fun zs hzs => ?_ | refine .mk (fun h => ?_) ?_ | refine .ms fun ms hms => ?_ | refine .s fun s hs hsl => ?_ | refine And.intro ?_ ?_) <;> cbv)
      · have hil : i < D.length := by ((try simp only [vn] at *) <;> omega)
        obtain ⟨l, hg⟩ := some_at hil
        obtain ⟨c1, c2, c3⟩ := cm_step hO (by omega) hFl ds (mem_some hg)
        have c4 := cm_take (S := S1) hg
        rw [← hS'] at c4
        obtain ⟨S5, hS5⟩ : ∃ x, x = comeS ⟨⟨self4, other4, out4, wait4, sent4, got4, sure4, owes4⟩, ⟨selfb4, otherb4, outb4, waitb4, sentb4, gotb4, sureb4, owesb4⟩, fly4, atA4, atB4, fromA4, toA4⟩ l := ⟨_, rfl⟩
        rw [← hS5] at c2 c3 c4
        have hsl := ds l (mem_some hg)
        have hfit := hO.fit
        obtain ⟨frm, to, number, kind, ack, deal, text, party, index, day, cur, amt, docs, boxes⟩ := l
        cbv; repeat' ((first | refine .e ?_ | refine .n fun h => ?_ | refine .y fun h => ?_ | refine .q fun z hz hz0 hz1 => ?_ | refine .mk (fun h => ?_) fun h => ?_ | refine .k fun z hz => ?_ | refine .o ?_ | refine .l fun ys hys hyl => ?_ | refine .zl fun zs hzs hzl => ?_ | refine .u fun u hu hul => ?_ | refine .z fun zs hzs => ?_ | refine .mk (fun h => ?_) ?_ | refine .ms fun ms hms => ?_ | refine .s fun s hs hsl => ?_ | refine And.intro ?_ ?_) <;> cbv)
        (refine callG_spec F.come (⟨⟨self4, other4, out4, wait4, sent4, got4, sure4, owes4⟩, ⟨selfb4, otherb4, outb4, waitb4, sentb4, gotb4, sureb4, owesb4⟩, fly4, atA4, atB4, fromA4, toA4⟩, 60 + 26 * r + i, ⟨frm, to, number, kind, ack, deal, text, party, index, day, cur, amt, docs, boxes⟩) [0, 1, 2, 3, 4, 5, 6, 12, 8, 9, 10, 11] ⟨hfit, hsl⟩ rfl rfl (by decide) rfl rfl rfl rfl rfl ?_; try dsimp only)
        rw [c1, ← hS5]
        obtain ⟨⟨self5, other5, out5, wait5, sent5, got5, sure5, owes5⟩, ⟨selfb5, otherb5, outb5, waitb5, sentb5, gotb5, sureb5, owesb5⟩, fly5, atA5, atB5, fromA5, toA5⟩ := S5
        cbv; repeat' ((first | refine .e ?_ | refine .n fun h => ?_ | refine .y fun h => ?_ | refine .q fun z hz hz0 hz1 => ?_ | refine .mk (fun h => ?_) fun h => ?_ | refine .k fun z hz => ?_ | refine .o ?_ | refine .l fun ys hys hyl => ?_ | refine .zl fun zs hzs hzl => ?_ | refine .u fun u hu hul => ?_ | refine .z fun zs hzs => ?_ | refine .mk (fun h => ?_) ?_ | refine .ms fun ms hms => ?_ | refine .s fun s hs hsl => ?_ | refine And.intro ?_ ?_) <;> cbv)
        obtain rfl := hz
        exact roundV ⟨(i + 1, ⟨⟨self5, other5, out5, wait5, sent5, got5, sure5, owes5⟩, ⟨selfb5, otherb5, outb5, waitb5, sentb5, gotb5, sureb5, owesb5⟩, fly5, atA5, atB5, fromA5, toA5⟩), hil, c4.symm, c2, c3⟩ (lft_lt (by ((try simp only [vn] at *) <;> omega)))
      · obtain rfl : i = D.length := by ((try simp only [vn] at *) <;> omega)
        rw [List.take_length] at hS'
        have hC := calm_roundJ (S2 := ⟨⟨self4, other4, out4, wait4, sent4, got4, sure4, owes4⟩, ⟨selfb4, otherb4, outb4, waitb4, sentb4, gotb4, sureb4, owesb4⟩, fly4, atA4, atB4, fromA4, toA4⟩) hS (by ((try simp only [vn] at *) <;> omega)) (by rw [← hD, ← hS1]; exact hS') (by rw [← hD]; exact hO)
        have ja := hO.fit.a
        have jb := hO.fit.b
        dsimp only at hC ja jb
        obtain ⟨Fb, hFb⟩ : ∃ R, R = sureE ⟨selfb4, otherb4, outb4, waitb4, sentb4, gotb4, sureb4, owesb4⟩ gotb4 := ⟨_, rfl⟩
        obtain ⟨Nb, hNb⟩ : ∃ R, R = sureN ⟨selfb4, otherb4, outb4, waitb4, sentb4, gotb4, sureb4, owesb4⟩ gotb4 := ⟨_, rfl⟩
        rw [← hFb] at hC
        obtain ⟨selfb6, otherb6, outb6, waitb6, sentb6, gotb6, sureb6, owesb6⟩ := Fb
        (refine callG_ro F.got 3 (rest := []) (fun x => (x 6, ⟨selfb4, otherb4, outb4, waitb4, sentb4, gotb4, sureb4, owesb4⟩, 60 + 26 * r + D.length)) rfl rfl rfl rfl (fun _ => rfl) (fun x hx => ⟨rfl, jb, ?_⟩); try dsimp only)
        cbv; repeat' ((first | refine .e ?_ | refine .n fun h => ?_ | refine .y fun h => ?_ | refine .q fun z hz hz0 hz1 => ?_ | refine .mk (fun h => ?_) fun h => ?_ | refine .k fun z hz => ?_ | refine .o ?_ | refine .l fun ys hys hyl => ?_ | refine .zl fun zs hzs hzl => ?_ | refine .u fun u hu hul => ?_ | refine .z fun zs hzs => ?_ | refine .mk (fun h => ?_) ?_ | refine .ms fun ms hms => ?_ | refine .s fun s hs hsl => ?_ | refine And.intro ?_ ?_) <;> cbv)
        (refine callG_spec F.sure (⟨selfb4, otherb4, outb4, waitb4, sentb4, gotb4, sureb4, owesb4⟩, 60 + 26 * r + D.length, gotb4) [3, 4, 5] jb rfl rfl (by decide) rfl rfl rfl rfl rfl ?_; try dsimp only)
        rw [← hFb, ← hNb]
        cbv; repeat' ((first | refine .e ?_ | refine .n fun h => ?_ | refine .y fun h => ?_ | refine .q fun z hz hz0 hz1 => ?_ | refine .mk (fun h => ?_) fun h => ?_ | refine .k fun z hz => ?_ | refine .o ?_ | refine .l fun ys hys hyl => ?_ | refine .zl fun zs hzs hzl => ?_ | refine .u fun u hu hul => ?_ | refine .z fun zs hzs => ?_ | refine .mk (fun h => ?_) ?_ | refine .ms fun ms hms => ?_ | refine .s fun s hs hsl => ?_ | refine And.intro ?_ ?_) <;> cbv)
        obtain rfl := hz
        exact roundV ⟨(r + 1, ⟨⟨self4, other4, out4, wait4, sent4, got4, sure4, owes4⟩, ⟨selfb6, otherb6, outb6, waitb6, sentb6, gotb6, sureb6, owesb6⟩, fly4, atA4, atB4, fromA4, toA4⟩), by dsimp only; ((try simp only [vn] at *) <;> omega), hC⟩ (lft_lt (by ((try simp only [vn] at *) <;> omega)))
    · obtain rfl : r = 3 := by ((try simp only [vn] at *) <;> omega)
      have o1 := hS.ab.none (by decide)
      have g1 := hS.ab.got (by decide)
      have g3 := hS.ok.net.ab.rcv.got
      have g5 := hS.fa
      have m1 := hS.ok.begB
      dsimp only at o1 g1 g3 g5 m1
      obtain rfl := o1
      obtain ⟨q2, hq2⟩ : ∃ q, q = sent2 - (([] : List Lt).length : Int) := ⟨_, rfl⟩
      (refine callG_spec F.parts (⟨self2, other2, [], wait2, sent2, got2, sure2, owes2⟩, 138, q2) [0, 1, 2] ⟨ia, hq2⟩ rfl rfl (by decide) rfl rfl rfl rfl rfl ?_; try dsimp only)
      cbv; repeat' ((first | refine .e ?_ | refine .n fun h => ?_ | refine .y fun h => ?_ | refine .q fun z hz hz0 hz1 => ?_ | refine .mk (fun h => ?_) fun h => ?_ | refine .k fun z hz => ?_ | refine .o ?_ | refine .l fun ys hys hyl => ?_ | refine .zl fun zs hzs hzl => ?_ | refine .u fun u hu hul => ?_ | refine .z fun zs hzs => ?_ | refine .mk (fun h => ?_) ?_ | refine .ms fun ms hms => ?_ | refine .s fun s hs hsl => ?_ | refine And.intro ?_ ?_) <;> cbv)
      (refine callG_spec0 F.begins (atB2, fromA2) m1 rfl rfl rfl ?_; try dsimp only)
      cbv; repeat' ((first | refine .e ?_ | refine .n fun h => ?_ | refine .y fun h => ?_ | refine .q fun z hz hz0 hz1 => ?_ | refine .mk (fun h => ?_) fun h => ?_ | refine .k fun z hz => ?_ | refine .o ?_ | refine .l fun ys hys hyl => ?_ | refine .zl fun zs hzs hzl => ?_ | refine .u fun u hu hul => ?_ | refine .z fun zs hzs => ?_ | refine .mk (fun h => ?_) ?_ | refine .ms fun ms hms => ?_ | refine .s fun s hs hsl => ?_ | refine And.intro ?_ ?_) <;> cbv)
      exact FinK.mk ⟨_, Gh.refl _, .inl (CutK.val rfl (Le.refl _) hK)⟩
end Go.Proofs.Ytaflinfpmbfieaa
namespace Go.Proofs.Ytaflinfpmbfieaa
open Go.RowKit
set_option maxRecDepth 100000
theorem op_u8s {cs : List AV} (h : Op (.sl 1 (.int .u8)) cs) : ∃ L : List U8, cs = [.sl 1 (mapA U8A L)] ∧ L.length ≤ maxLen ∧ ∀ x ∈ L, x.n < 256 := op_list (fun cz h => by
  unfold Op at h
  obtain ⟨a, rfl, w⟩ := h
  obtain ⟨h0, h1⟩ := wf_u8 w
  obtain ⟨n, rfl⟩ := Int.eq_ofNat_of_zero_le h0
  exact ⟨⟨n⟩, rfl, by dsimp only; omega⟩) h
theorem sh_u8s : shOf Try.prog 9 62 = some (.sl 1 (.int .u8)) := by kernel_rfl
theorem k_crashes : FnOk Try.prog 7 CrashC := body_ok (by kernel_rfl) (crash_body _ k_fns4 (of_fns k_of k_rof))
end Go.Proofs.Ytaflinfpmbfieaa

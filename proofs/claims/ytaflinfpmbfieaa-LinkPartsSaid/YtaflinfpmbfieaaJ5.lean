/-
  Texts of this proof, joined: TO, VO, TQ, TR.
-/
import Derived.Test.YtaflinfpmbfieaaJ4
import Derived.Deep.Slices
import Derived.Deep.Fields
import Derived.ChangeSame
import Derived.ProofKit
import Derived.OpenShut
import Derived.ChangeOld
import Derived.Below
import Derived.KernelRfl
namespace Go.Proofs.Ytaflinfpmbfieaa
open Go.RowKit
set_option maxHeartbeats 8000000
set_option maxRecDepth 100000
abbrev PIn := List Dd × List Dd × ByteArray × ByteArray × List Lt × Int × Int
noncomputable def LPartsC : Ctr := spec (fun i : PIn => [.sl 16 (mapA DdA i.1), .sl 16 (mapA DdA i.2.1), .str i.2.2.1, .str i.2.2.2.1, .sl 14 (mapA LtA i.2.2.2.2.1), .i i.2.2.2.2.2.1, .i i.2.2.2.2.2.2]) (fun _ => [])
  (fun i => (∀ d ∈ i.1, IntsD d) ∧ (∀ d ∈ i.2.1, IntsD d) ∧ (∀ l ∈ i.2.2.2.2.1, IntsL l) ∧ i64 i.2.2.2.2.2.1 ∧ i64 i.2.2.2.2.2.2) (fun _ => .bl true) fun _ => []
theorem lparts_body (P : Program) (F : Fns2 P) (O : OfFns P) (hbig : FnOk P 24 BigC) (hparts : FnOk P 16 PartsC) : BodyOk P x8 LPartsC := by
  intro args H K hc
  obtain ⟨⟨L, L2, a, b, sent, acked, got⟩, rfl, rfl, ⟨hints, hints2, hsi, hai, hgi⟩, hK⟩ := hc
  refine ⟨Nat.le_of_ble_eq_true rfl, ?_⟩
  dsimp only at hints hints2 hsi hai hgi hK ⊢
  obtain ⟨n, hn⟩ : ∃ n, n = L.length := ⟨_, rfl⟩
  obtain ⟨n2, hn2⟩ : ∃ n, n = L2.length := ⟨_, rfl⟩
  obtain ⟨ns, hns⟩ : ∃ n, n = sent.length := ⟨_, rfl⟩
  cbv; repeat' ((first | refine .e ?_ | refine .n fun h => ?_ | refine .y fun h => ?_ | refine .q fun z hz hz0 hz1 => ?_ | refine .mk (fun h => ?_) fun h => ?_ | refine .k fun z hz => ?_ | refine .o ?_ | refine .l fun ys hys hyl => ?_ | refine .zl fun zs hzs hzl => ?_ | refine .u fun u hu hul => ?_ | refine .z fun zs hzs => ?_ | refine .mk (fun h => ?_) ?_ | refine .ms fun ms hms => ?_ | refine .s fun s hs hsl => ?_ | refine And.intro ?_ ?_) <;> cbv)
  (refine callG_spec0 F.awake () trivial rfl rfl rfl ?_; try dsimp only)
  cbv; repeat' ((first | refine .e ?_ | refine .n fun h => ?_ | refine .y fun h => ?_ | refine .q fun z hz hz0 hz1 => ?_ | refine .mk (fun h => ?_) fun h => ?_ | refine .k fun z hz => ?_ | refine .o ?_ | refine .l fun ys hys hyl => ?_ | refine .zl fun zs hzs hzl => ?_ | refine .u fun u hu hul => ?_ | refine .z fun zs hzs => ?_ | refine .mk (fun h => ?_) ?_ | refine .ms fun ms hms => ?_ | refine .s fun s hs hsl => ?_ | refine And.intro ?_ ?_) <;> cbv)
  refine callG_heavy F.heavy L 20 (by omega) rfl (fun hlen hnb => ?_) ?_
  rotate_left
  · cbv; repeat' ((first | refine .e ?_ | refine .n fun h => ?_ | refine .y fun h => ?_ | refine .q fun z hz hz0 hz1 => ?_ | refine .mk (fun h => ?_) fun h => ?_ | refine .k fun z hz => ?_ | refine .o ?_ | refine .l fun ys hys hyl => ?_ | refine .zl fun zs hzs hzl => ?_ | refine .u fun u hu hul => ?_ | refine .z fun zs hzs => ?_ | refine .mk (fun h => ?_) ?_ | refine .ms fun ms hms => ?_ | refine .s fun s hs hsl => ?_ | refine And.intro ?_ ?_) <;> cbv)
    exact FinK.mk ⟨_, Gh.refl _, .inl (CutK.val rfl (Le.refl _) hK)⟩
  cbv; repeat' ((first | refine .e ?_ | refine .n fun h => ?_ | refine .y fun h => ?_ | refine .q fun z hz hz0 hz1 => ?_ | refine .mk (fun h => ?_) fun h => ?_ | refine .k fun z hz => ?_ | refine .o ?_ | refine .l fun ys hys hyl => ?_ | refine .zl fun zs hzs hzl => ?_ | refine .u fun u hu hul => ?_ | refine .z fun zs hzs => ?_ | refine .mk (fun h => ?_) ?_ | refine .ms fun ms hms => ?_ | refine .s fun s hs hsl => ?_ | refine And.intro ?_ ?_) <;> cbv)
  refine callG_heavy F.heavy L2 8 (by omega) rfl (fun hlen2 hnb2 => ?_) ?_
  rotate_left
  · cbv; repeat' ((first | refine .e ?_ | refine .n fun h => ?_ | refine .y fun h => ?_ | refine .q fun z hz hz0 hz1 => ?_ | refine .mk (fun h => ?_) fun h => ?_ | refine .k fun z hz => ?_ | refine .o ?_ | refine .l fun ys hys hyl => ?_ | refine .zl fun zs hzs hzl => ?_ | refine .u fun u hu hul => ?_ | refine .z fun zs hzs => ?_ | refine .mk (fun h => ?_) ?_ | refine .ms fun ms hms => ?_ | refine .s fun s hs hsl => ?_ | refine And.intro ?_ ?_) <;> cbv)
    exact FinK.mk ⟨_, Gh.refl _, .inl (CutK.val rfl (Le.refl _) hK)⟩
  cbv; repeat' ((first | refine .e ?_ | refine .n fun h => ?_ | refine .y fun h => ?_ | refine .q fun z hz hz0 hz1 => ?_ | refine .mk (fun h => ?_) fun h => ?_ | refine .k fun z hz => ?_ | refine .o ?_ | refine .l fun ys hys hyl => ?_ | refine .zl fun zs hzs hzl => ?_ | refine .u fun u hu hul => ?_ | refine .z fun zs hzs => ?_ | refine .mk (fun h => ?_) ?_ | refine .ms fun ms hms => ?_ | refine .s fun s hs hsl => ?_ | refine And.intro ?_ ?_) <;> cbv)
  · exact FinK.mk ⟨_, Gh.refl _, .inl (CutK.val rfl (Le.refl _) hK)⟩
  · exact FinK.mk ⟨_, Gh.refl _, .inl (CutK.val rfl (Le.refl _) hK)⟩
  · exact FinK.mk ⟨_, Gh.refl _, .inl (CutK.val rfl (Le.refl _) hK)⟩
  have hslen : sent.length ≤ 10 := by ((try simp only [vn] at *) <;> omega)
  have hal : a.size ≤ 100 := by ((try simp only [vn] at *) <;> omega)
  have hbl : b.size ≤ 100 := by ((try simp only [vn] at *) <;> omega)
  refine xloopV [] (fun p : { p : Nat // p ≤ sent.length ∧ ∀ l ∈ sent.take p, NotBig l } => [(15, .i (nI p.1))]) (fun _ => []) (fun p => lft ns p.1) ⟨0, Nat.zero_le _, fun b h => by simp at h⟩ ?_
  rintro ⟨i, hi, hall⟩
  cbv; repeat' ((first | refine .e ?_ | refine .n fun h => ?_ | refine .y fun h => ?_ | refine .q fun z hz hz0 hz1 => ?_ | refine .mk (fun h => ?_) fun h => ?_ | refine .k fun z hz => ?_ | refine .o ?_ | refine .l fun ys hys hyl => ?_ | refine .zl fun zs hzs hzl => ?_ | refine .u fun u hu hul => ?_ | refine .z fun zs hzs => ?_ | refine .mk (fun h => ?_) ?_ | refine .ms fun ms hms => ?_ | refine .s fun s hs hsl => ?_ | refine And.intro ?_ ?_) <;> cbv)
  · have hil : i < sent.length := by ((try simp only [vn] at *) <;> omega)
    obtain ⟨l, hg⟩ := some_at hil
    have e := take_some hg
    have hst : NotBig l → ∀ x ∈ sent.take (i + 1), NotBig x := fun h x hx => by
      rw [e] at hx
      rcases List.mem_append.1 hx with hx | hx
      · exact hall x hx
      · simp at hx; subst hx; exact h
    obtain ⟨frm, to, number, kind, ack, deal, text, party, index, day, cur, amt, docs, boxes⟩ := l
    cbv; repeat' ((first | refine .e ?_ | refine .n fun h => ?_ | refine .y fun h => ?_ | refine .q fun z hz hz0 hz1 => ?_ | refine .mk (fun h => ?_) fun h => ?_ | refine .k fun z hz => ?_ | refine .o ?_ | refine .l fun ys hys hyl => ?_ | refine .zl fun zs hzs hzl => ?_ | refine .u fun u hu hul => ?_ | refine .z fun zs hzs => ?_ | refine .mk (fun h => ?_) ?_ | refine .ms fun ms hms => ?_ | refine .s fun s hs hsl => ?_ | refine And.intro ?_ ?_) <;> cbv)
    refine callG_big hbig ⟨frm, to, number, kind, ack, deal, text, party, index, day, cur, amt, docs, boxes⟩ rfl (fun hnb => ?_) (fun hnb => ?_)
    · cbv; repeat' ((first | refine .e ?_ | refine .n fun h => ?_ | refine .y fun h => ?_ | refine .q fun z hz hz0 hz1 => ?_ | refine .mk (fun h => ?_) fun h => ?_ | refine .k fun z hz => ?_ | refine .o ?_ | refine .l fun ys hys hyl => ?_ | refine .zl fun zs hzs hzl => ?_ | refine .u fun u hu hul => ?_ | refine .z fun zs hzs => ?_ | refine .mk (fun h => ?_) ?_ | refine .ms fun ms hms => ?_ | refine .s fun s hs hsl => ?_ | refine And.intro ?_ ?_) <;> cbv)
      obtain rfl := hz
      exact roundV ⟨i + 1, hil, hst hnb⟩ (lft_lt (by ((try simp only [vn] at *) <;> omega)))
    · cbv; repeat' ((first | refine .e ?_ | refine .n fun h => ?_ | refine .y fun h => ?_ | refine .q fun z hz hz0 hz1 => ?_ | refine .mk (fun h => ?_) fun h => ?_ | refine .k fun z hz => ?_ | refine .o ?_ | refine .l fun ys hys hyl => ?_ | refine .zl fun zs hzs hzl => ?_ | refine .u fun u hu hul => ?_ | refine .z fun zs hzs => ?_ | refine .mk (fun h => ?_) ?_ | refine .ms fun ms hms => ?_ | refine .s fun s hs hsl => ?_ | refine And.intro ?_ ?_) <;> cbv)
      exact FinK.mk ⟨_, Gh.refl _, .inl (CutK.val rfl (Le.refl _) hK)⟩
  have hnbs : ∀ l ∈ sent, NotBig l := by rw [List.take_of_length_le (by ((try simp only [vn] at *) <;> omega))] at hall; exact hall
  have hfit : ofFit (a, b, sent, acked, got) := ⟨hal, hbl, by dsimp only; omega, fun l hl => small_of (hnbs l hl) (hsi l hl)⟩
  by_cases hA : ofA (a, b, sent, acked, got)
  · (refine callG_spec0 O.a (a, b, sent, acked, got) ⟨hfit, hA⟩ rfl rfl rfl ?_; try dsimp only)
    cbv; repeat' ((first | refine .e ?_ | refine .n fun h => ?_ | refine .y fun h => ?_ | refine .q fun z hz hz0 hz1 => ?_ | refine .mk (fun h => ?_) fun h => ?_ | refine .k fun z hz => ?_ | refine .o ?_ | refine .l fun ys hys hyl => ?_ | refine .zl fun zs hzs hzl => ?_ | refine .u fun u hu hul => ?_ | refine .z fun zs hzs => ?_ | refine .mk (fun h => ?_) ?_ | refine .ms fun ms hms => ?_ | refine .s fun s hs hsl => ?_ | refine And.intro ?_ ?_) <;> cbv)
    (refine callG_spec0 O.ra (a, b, sent, acked, got) ⟨hfit, hA⟩ rfl rfl rfl ?_; try dsimp only)
    cbv; repeat' ((first | refine .e ?_ | refine .n fun h => ?_ | refine .y fun h => ?_ | refine .q fun z hz hz0 hz1 => ?_ | refine .mk (fun h => ?_) fun h => ?_ | refine .k fun z hz => ?_ | refine .o ?_ | refine .l fun ys hys hyl => ?_ | refine .zl fun zs hzs hzl => ?_ | refine .u fun u hu hul => ?_ | refine .z fun zs hzs => ?_ | refine .mk (fun h => ?_) ?_ | refine .ms fun ms hms => ?_ | refine .s fun s hs hsl => ?_ | refine And.intro ?_ ?_) <;> cbv)
    have hinv := newE_inv (a := ⟨#[112]⟩) (b := ⟨#[113]⟩) (by decide) (by decide)
    have hout : OutOk (newE ⟨#[112]⟩ ⟨#[113]⟩) := ⟨fun l hl => by simp [newE] at hl⟩
    (refine callG_new F.new (⟨#[112]⟩, ⟨#[113]⟩) ⟨⟨by decide, by decide⟩, by rfl⟩ rfl rfl ?_; try dsimp only)
    cbv; repeat' ((first | refine .e ?_ | refine .n fun h => ?_ | refine .y fun h => ?_ | refine .q fun z hz hz0 hz1 => ?_ | refine .mk (fun h => ?_) fun h => ?_ | refine .k fun z hz => ?_ | refine .o ?_ | refine .l fun ys hys hyl => ?_ | refine .zl fun zs hzs hzl => ?_ | refine .u fun u hu hul => ?_ | refine .z fun zs hzs => ?_ | refine .mk (fun h => ?_) ?_ | refine .ms fun ms hms => ?_ | refine .s fun s hs hsl => ?_ | refine And.intro ?_ ?_) <;> cbv)
    refine xloopG (Gh.le ([] ++ renH [0, 1, 2, 3] 0 (BothH (newE ⟨#[112]⟩ ⟨#[113]⟩))) (LeH.cons (LeE.refl _) (LeH.cons (LeE.refl _) (LeH.cons (LeE.refl _) (LeH.cons (LeE.blk (by repeat' (first | exact LeL.nil | exact LeL0.nil | exact LeH.nil | exact LeE.refl _ | exact Le.refl _ | exact Le0.one (.refl _) | exact Le0.one (.nil _) | exact Le1.refl _ | exact Le1.nil _ | refine LeH.cons ?_ ?_ | refine LeE.row ?_ | refine LeE.blk ?_ | refine LeL0.cons ?_ ?_ | refine LeL.cons ?_ ?_ | refine Le0.agg ?_ | refine Le.tup ?_ | exact Le.one (.one (.nil _)) | refine Le.one (.agg ?_)))) LeH.nil))))) ?_
    refine xloopV [] (fun p : { p : Nat × En // p.1 ≤ L.length ∧ InvE p.1 p.2 ∧ OutOk p.2 ∧ p.2.self = ⟨#[112]⟩ ∧ p.2.other = ⟨#[113]⟩ ∧ p.2.sent ≤ p.1 } => [(21, .i (nI p.1.1))]) (fun p => [] ++ renH [0, 1, 2, 3] 0 (BothH p.1.2)) (fun p => lft n p.1.1) ⟨(0, newE ⟨#[112]⟩ ⟨#[113]⟩), Nat.zero_le _, hinv, hout, rfl, rfl, Int.le_refl _⟩ ?_
    rintro ⟨⟨i, E⟩, hi, hE, hO, hs1, hs2, hs3⟩
    dsimp only at hi hE hO hs1 hs2 hs3
    have hform := of_form hE hO
    have hinv2 := ofE_inv hE
    obtain ⟨self, other, out, wait, sent0, got0, sure, owes⟩ := E
    dsimp only at hs1 hs2 hs3 hform hinv2
    subst hs1 hs2
    cbv; repeat' ((first | refine .e ?_ | refine .n fun h => ?_ | refine .y fun h => ?_ | refine .q fun z hz hz0 hz1 => ?_ | refine .mk (fun h => ?_) fun h => ?_ | refine .k fun z hz => ?_ | refine .o ?_ | refine .l fun ys hys hyl => ?_ | refine .zl fun zs hzs hzl => ?_ | refine .u fun u hu hul => ?_ | refine .z fun zs hzs => ?_ | refine .mk (fun h => ?_) ?_ | refine .ms fun ms hms => ?_ | refine .s fun s hs hsl => ?_ | refine And.intro ?_ ?_) <;> cbv)
    · have hil : i < L.length := by ((try simp only [vn] at *) <;> omega)
      obtain ⟨d, hg⟩ := some_at hil
      have hfit := fit_of (hnb d (mem_some hg)) (hints d (mem_some hg))
      obtain ⟨E', hE'⟩ : ∃ E', E' = stepE ⟨⟨#[112]⟩, ⟨#[113]⟩, out, wait, sent0, got0, sure, owes⟩ d := ⟨_, rfl⟩
      have hE2 := hE.step hfit
      have hO2 := hO.step d
      obtain ⟨q1, q2, q3⟩ := step_same ⟨⟨#[112]⟩, ⟨#[113]⟩, out, wait, sent0, got0, sure, owes⟩ d
      rw [← hE'] at hE2 hO2 q1 q2 q3
      obtain ⟨⟩ := E'
      dsimp only at q1 q2 q3
      obtain ⟨dk, l, dn⟩ := d
      obtain ⟨frm, to, number, kind, ack, deal, text, party, index, day, cur, amt, docs, boxes⟩ := l
      cbv; repeat' ((first | refine .e ?_ | refine .n fun h => ?_ | refine .y fun h => ?_ | refine .q fun z hz hz0 hz1 => ?_ | refine .mk (fun h => ?_) fun h => ?_ | refine .k fun z hz => ?_ | refine .o ?_ | refine .l fun ys hys hyl => ?_ | refine .zl fun zs hzs hzl => ?_ | refine .u fun u hu hul => ?_ | refine .z fun zs hzs => ?_ | refine .mk (fun h => ?_) ?_ | refine .ms fun ms hms => ?_ | refine .s fun s hs hsl => ?_ | refine And.intro ?_ ?_) <;> cbv)
      (refine callG_spec F.done (⟨⟨#[112]⟩, ⟨#[113]⟩, out, wait, sent0, got0, sure, owes⟩, i, ⟨dk, ⟨frm, to, number, kind, ack, deal, text, party, index, day, cur, amt, docs, boxes⟩, dn⟩) [0, 1, 2, 3] ⟨hE, hfit, by dsimp only; ((try simp only [vn] at *) <;> omega)⟩ rfl rfl (by decide) rfl rfl rfl rfl rfl ?_; try dsimp only)
      rw [← hE']
      cbv; repeat' ((first | refine .e ?_ | refine .n fun h => ?_ | refine .y fun h => ?_ | refine .q fun z hz hz0 hz1 => ?_ | refine .mk (fun h => ?_) fun h => ?_ | refine .k fun z hz => ?_ | refine .o ?_ | refine .l fun ys hys hyl => ?_ | refine .zl fun zs hzs hzl => ?_ | refine .u fun u hu hul => ?_ | refine .z fun zs hzs => ?_ | refine .mk (fun h => ?_) ?_ | refine .ms fun ms hms => ?_ | refine .s fun s hs hsl => ?_ | refine And.intro ?_ ?_) <;> cbv)
      obtain rfl := hz
      exact roundV ⟨(i + 1, ⟨_, _, _, _, _, _, _, _⟩), hil, hE2, hO2, q1, q2, by dsimp only; ((try simp only [vn] at *) <;> omega)⟩ (lft_lt (by ((try simp only [vn] at *) <;> omega)))
    · obtain ⟨q, hq⟩ : ∃ q, q = sent0 - (out.length : Int) := ⟨_, rfl⟩
      rw [← hq] at hform hinv2
      have e5 : ofE ⟨#[112]⟩ ⟨#[113]⟩ out q got0 = ⟨⟨#[112]⟩, ⟨#[113]⟩, out, [], sent0, got0, got0, false⟩ := by rw [ofE, hq]; congr 1; omega
      rw [e5] at hinv2
      have w0 := hE.sent0
      have w1 := hE.gotM
      have w2 := hE.got0
      have w3 := hE.outL
      have w4 := hE.outS
      dsimp only at w0 w1 w2 w3 w4
      (refine callG_spec hparts (⟨⟨#[112]⟩, ⟨#[113]⟩, out, wait, sent0, got0, sure, owes⟩, i, q) [0, 1, 2] ⟨hE, hq⟩ rfl rfl (by decide) rfl rfl rfl rfl rfl ?_; try dsimp only)
      cbv; repeat' ((first | refine .e ?_ | refine .n fun h => ?_ | refine .y fun h => ?_ | refine .q fun z hz hz0 hz1 => ?_ | refine .mk (fun h => ?_) fun h => ?_ | refine .k fun z hz => ?_ | refine .o ?_ | refine .l fun ys hys hyl => ?_ | refine .zl fun zs hzs hzl => ?_ | refine .u fun u hu hul => ?_ | refine .z fun zs hzs => ?_ | refine .mk (fun h => ?_) ?_ | refine .ms fun ms hms => ?_ | refine .s fun s hs hsl => ?_ | refine And.intro ?_ ?_) <;> cbv)
      (refine callG_new O.c (⟨#[112]⟩, ⟨#[113]⟩, out, q, got0) ⟨⟨by dsimp only; decide, by dsimp only; decide, by dsimp only; omega, w4⟩, fun hh => by (obtain hh | hh := hh; (· exact absurd hh (by dsimp only; decide)); dsimp only at hh; ((try simp only [vn] at *) <;> omega)), fun ⟨k, hk, hf⟩ => hform k hk hf⟩ rfl rfl ?_; try dsimp only)
      rw [e5]
      cbv; repeat' ((first | refine .e ?_ | refine .n fun h => ?_ | refine .y fun h => ?_ | refine .q fun z hz hz0 hz1 => ?_ | refine .mk (fun h => ?_) fun h => ?_ | refine .k fun z hz => ?_ | refine .o ?_ | refine .l fun ys hys hyl => ?_ | refine .zl fun zs hzs hzl => ?_ | refine .u fun u hu hul => ?_ | refine .z fun zs hzs => ?_ | refine .mk (fun h => ?_) ?_ | refine .ms fun ms hms => ?_ | refine .s fun s hs hsl => ?_ | refine And.intro ?_ ?_) <;> cbv)
      refine xloopG (Gh.le ([] ++ renH [0, 1, 2, 3] 0 (BothH ⟨⟨#[112]⟩, ⟨#[113]⟩, out, wait, sent0, got0, sure, owes⟩) ++ renH [4, 5, 6, 7] 0 (BothH ⟨⟨#[112]⟩, ⟨#[113]⟩, out, [], sent0, got0, got0, false⟩)) (LeH.cons (LeE.refl _) (LeH.cons (LeE.refl _) (LeH.cons (LeE.refl _) (LeH.cons (LeE.refl _) (LeH.cons (LeE.refl _) (LeH.cons (LeE.refl _) (LeH.cons (LeE.refl _) (LeH.cons (LeE.blk (by repeat' (first | exact LeL.nil | exact LeL0.nil | exact LeH.nil | exact LeE.refl _ | exact Le.refl _ | exact Le0.one (.refl _) | exact Le0.one (.nil _) | exact Le1.refl _ | exact Le1.nil _ | refine LeH.cons ?_ ?_ | refine LeE.row ?_ | refine LeE.blk ?_ | refine LeL0.cons ?_ ?_ | refine LeL.cons ?_ ?_ | refine Le0.agg ?_ | refine Le.tup ?_ | exact Le.one (.one (.nil _)) | refine Le.one (.agg ?_)))) LeH.nil))))))))) ?_
      refine xloopV [] (fun p : { p : Nat × En // p.1 ≤ L2.length ∧ InvE (i + p.1) p.2 } => [(28, .i (nI p.1.1))]) (fun p => [] ++ renH [0, 1, 2, 3] 0 (BothH ⟨⟨#[112]⟩, ⟨#[113]⟩, out, wait, sent0, got0, sure, owes⟩) ++ renH [4, 5, 6, 7] 0 (BothH p.1.2)) (fun p => lft n2 p.1.1) ⟨(0, ⟨⟨#[112]⟩, ⟨#[113]⟩, out, [], sent0, got0, got0, false⟩), Nat.zero_le _, hinv2⟩ ?_
      rintro ⟨⟨j, E⟩, hj, hEj⟩
      dsimp only at hj hEj
      obtain ⟨selfj, otherj, outj, waitj, sentj, gotj, surej, owesj⟩ := E
      cbv; repeat' ((first | refine .e ?_ | refine .n fun h => ?_ | refine .y fun h => ?_ | refine .q fun z hz hz0 hz1 => ?_ | refine .mk (fun h => ?_) fun h => ?_ | refine .k fun z hz => ?_ | refine .o ?_ | refine .l fun ys hys hyl => ?_ | refine .zl fun zs hzs hzl => ?_ | refine .u fun u hu hul => ?_ | refine .z fun zs hzs => ?_ | refine .mk (fun h => ?_) ?_ | refine .ms fun ms hms => ?_ | refine .s fun s hs hsl => ?_ | refine And.intro ?_ ?_) <;> cbv)
      · have hjl : j < L2.length := by ((try simp only [vn] at *) <;> omega)
        obtain ⟨d, hg⟩ := some_at hjl
        have hfit := fit_of (hnb2 d (mem_some hg)) (hints2 d (mem_some hg))
        obtain ⟨E', hE'⟩ : ∃ E', E' = stepE ⟨selfj, otherj, outj, waitj, sentj, gotj, surej, owesj⟩ d := ⟨_, rfl⟩
        have hE2 := hEj.step hfit
        rw [← hE'] at hE2
        obtain ⟨⟩ := E'
        obtain ⟨dk, l, dn⟩ := d
        obtain ⟨frm, to, number, kind, ack, deal, text, party, index, day, cur, amt, docs, boxes⟩ := l
        cbv; repeat' ((first | refine .e ?_ | refine .n fun h => ?_ | refine .y fun h => ?_ | refine .q fun z hz hz0 hz1 => ?_ | refine .mk (fun h => ?_) fun h => ?_ | refine .k fun z hz => ?_ | refine .o ?_ | refine .l fun ys hys hyl => ?_ | refine .zl fun zs hzs hzl => ?_ | refine .u fun u hu hul => ?_ | refine .z fun zs hzs => ?_ | refine .mk (fun h => ?_) ?_ | refine .ms fun ms hms => ?_ | refine .s fun s hs hsl => ?_ | refine And.intro ?_ ?_) <;> cbv)
        (refine callG_spec F.done (⟨selfj, otherj, outj, waitj, sentj, gotj, surej, owesj⟩, i + j, ⟨dk, ⟨frm, to, number, kind, ack, deal, text, party, index, day, cur, amt, docs, boxes⟩, dn⟩) [4, 5, 6, 7] ⟨hEj, hfit, by dsimp only; ((try simp only [vn] at *) <;> omega)⟩ rfl rfl (by decide) rfl rfl rfl rfl rfl ?_; try dsimp only)
        rw [← hE']
        cbv; repeat' ((first | refine .e ?_ | refine .n fun h => ?_ | refine .y fun h => ?_ | refine .q fun z hz hz0 hz1 => ?_ | refine .mk (fun h => ?_) fun h => ?_ | refine .k fun z hz => ?_ | refine .o ?_ | refine .l fun ys hys hyl => ?_ | refine .zl fun zs hzs hzl => ?_ | refine .u fun u hu hul => ?_ | refine .z fun zs hzs => ?_ | refine .mk (fun h => ?_) ?_ | refine .ms fun ms hms => ?_ | refine .s fun s hs hsl => ?_ | refine And.intro ?_ ?_) <;> cbv)
        (refine callG_spec F.even (⟨_, _, _, _, _, _, _, _⟩, i + j + 1) [4, 5, 6, 7] hE2 rfl rfl (by decide) rfl rfl rfl rfl rfl ?_; try dsimp only)
        cbv; repeat' ((first | refine .e ?_ | refine .n fun h => ?_ | refine .y fun h => ?_ | refine .q fun z hz hz0 hz1 => ?_ | refine .mk (fun h => ?_) fun h => ?_ | refine .k fun z hz => ?_ | refine .o ?_ | refine .l fun ys hys hyl => ?_ | refine .zl fun zs hzs hzl => ?_ | refine .u fun u hu hul => ?_ | refine .z fun zs hzs => ?_ | refine .mk (fun h => ?_) ?_ | refine .ms fun ms hms => ?_ | refine .s fun s hs hsl => ?_ | refine And.intro ?_ ?_) <;> cbv)
        obtain rfl := hz
        exact roundV ⟨(j + 1, ⟨_, _, _, _, _, _, _, _⟩), hjl, hE2⟩ (lft_lt (by ((try simp only [vn] at *) <;> omega)))
      · (refine callG_spec F.even (⟨⟨#[112]⟩, ⟨#[113]⟩, out, wait, sent0, got0, sure, owes⟩, i) [0, 1, 2, 3] hE rfl rfl (by decide) rfl rfl rfl rfl rfl ?_; try dsimp only)
        cbv; repeat' ((first | refine .e ?_ | refine .n fun h => ?_ | refine .y fun h => ?_ | refine .q fun z hz hz0 hz1 => ?_ | refine .mk (fun h => ?_) fun h => ?_ | refine .k fun z hz => ?_ | refine .o ?_ | refine .l fun ys hys hyl => ?_ | refine .zl fun zs hzs hzl => ?_ | refine .u fun u hu hul => ?_ | refine .z fun zs hzs => ?_ | refine .mk (fun h => ?_) ?_ | refine .ms fun ms hms => ?_ | refine .s fun s hs hsl => ?_ | refine And.intro ?_ ?_) <;> cbv)
        exact FinK.mk ⟨_, Gh.refl _, .inl (CutK.val rfl (Le.refl _) hK)⟩
  by_cases hB : ofB (a, b, sent, acked, got)
  · (refine callG_spec0 O.b (a, b, sent, acked, got) ⟨hfit, hA, hB⟩ rfl rfl rfl ?_; try dsimp only)
    cbv; repeat' ((first | refine .e ?_ | refine .n fun h => ?_ | refine .y fun h => ?_ | refine .q fun z hz hz0 hz1 => ?_ | refine .mk (fun h => ?_) fun h => ?_ | refine .k fun z hz => ?_ | refine .o ?_ | refine .l fun ys hys hyl => ?_ | refine .zl fun zs hzs hzl => ?_ | refine .u fun u hu hul => ?_ | refine .z fun zs hzs => ?_ | refine .mk (fun h => ?_) ?_ | refine .ms fun ms hms => ?_ | refine .s fun s hs hsl => ?_ | refine And.intro ?_ ?_) <;> cbv)
    (refine callG_spec0 O.rb (a, b, sent, acked, got) ⟨hfit, hA, hB⟩ rfl rfl rfl ?_; try dsimp only)
    cbv; repeat' ((first | refine .e ?_ | refine .n fun h => ?_ | refine .y fun h => ?_ | refine .q fun z hz hz0 hz1 => ?_ | refine .mk (fun h => ?_) fun h => ?_ | refine .k fun z hz => ?_ | refine .o ?_ | refine .l fun ys hys hyl => ?_ | refine .zl fun zs hzs hzl => ?_ | refine .u fun u hu hul => ?_ | refine .z fun zs hzs => ?_ | refine .mk (fun h => ?_) ?_ | refine .ms fun ms hms => ?_ | refine .s fun s hs hsl => ?_ | refine And.intro ?_ ?_) <;> cbv)
    have hinv := newE_inv (a := ⟨#[112]⟩) (b := ⟨#[113]⟩) (by decide) (by decide)
    have hout : OutOk (newE ⟨#[112]⟩ ⟨#[113]⟩) := ⟨fun l hl => by simp [newE] at hl⟩
    (refine callG_new F.new (⟨#[112]⟩, ⟨#[113]⟩) ⟨⟨by decide, by decide⟩, by rfl⟩ rfl rfl ?_; try dsimp only)
    cbv; repeat' ((first | refine .e ?_ | refine .n fun h => ?_ | refine .y fun h => ?_ | refine .q fun z hz hz0 hz1 => ?_ | refine .mk (fun h => ?_) fun h => ?_ | refine .k fun z hz => ?_ | refine .o ?_ | refine .l fun ys hys hyl => ?_ | refine .zl fun zs hzs hzl => ?_ | refine .u fun u hu hul => ?_ | refine .z fun zs hzs => ?_ | refine .mk (fun h => ?_) ?_ | refine .ms fun ms hms => ?_ | refine .s fun s hs hsl => ?_ | refine And.intro ?_ ?_) <;> cbv)
    refine xloopG (Gh.le ([] ++ renH [0, 1, 2, 3] 0 (BothH (newE ⟨#[112]⟩ ⟨#[113]⟩))) (LeH.cons (LeE.refl _) (LeH.cons (LeE.refl _) (LeH.cons (LeE.refl _) (LeH.cons (LeE.blk (by repeat' (first | exact LeL.nil | exact LeL0.nil | exact LeH.nil | exact LeE.refl _ | exact Le.refl _ | exact Le0.one (.refl _) | exact Le0.one (.nil _) | exact Le1.refl _ | exact Le1.nil _ | refine LeH.cons ?_ ?_ | refine LeE.row ?_ | refine LeE.blk ?_ | refine LeL0.cons ?_ ?_ | refine LeL.cons ?_ ?_ | refine Le0.agg ?_ | refine Le.tup ?_ | exact Le.one (.one (.nil _)) | refine Le.one (.agg ?_)))) LeH.nil))))) ?_
    refine xloopV [] (fun p : { p : Nat × En // p.1 ≤ L.length ∧ InvE p.1 p.2 ∧ OutOk p.2 ∧ p.2.self = ⟨#[112]⟩ ∧ p.2.other = ⟨#[113]⟩ ∧ p.2.sent ≤ p.1 } => [(21, .i (nI p.1.1))]) (fun p => [] ++ renH [0, 1, 2, 3] 0 (BothH p.1.2)) (fun p => lft n p.1.1) ⟨(0, newE ⟨#[112]⟩ ⟨#[113]⟩), Nat.zero_le _, hinv, hout, rfl, rfl, Int.le_refl _⟩ ?_
    rintro ⟨⟨i, E⟩, hi, hE, hO, hs1, hs2, hs3⟩
    dsimp only at hi hE hO hs1 hs2 hs3
    have hform := of_form hE hO
    have hinv2 := ofE_inv hE
    obtain ⟨self, other, out, wait, sent0, got0, sure, owes⟩ := E
    dsimp only at hs1 hs2 hs3 hform hinv2
    subst hs1 hs2
    cbv; repeat' ((first | refine .e ?_ | refine .n fun h => ?_ | refine .y fun h => ?_ | refine .q fun z hz hz0 hz1 => ?_ | refine .mk (fun h => ?_) fun h => ?_ | refine .k fun z hz => ?_ | refine .o ?_ | refine .l fun ys hys hyl => ?_ | refine .zl fun zs hzs hzl => ?_ | refine .u fun u hu hul => ?_ | refine .z fun zs hzs => ?_ | refine .mk (fun h => ?_) ?_ | refine .ms fun ms hms => ?_ | refine .s fun s hs hsl => ?_ | refine And.intro ?_ ?_) <;> cbv)
    · have hil : i < L.length := by ((try simp only [vn] at *) <;> omega)
      obtain ⟨d, hg⟩ := some_at hil
      have hfit := fit_of (hnb d (mem_some hg)) (hints d (mem_some hg))
      obtain ⟨E', hE'⟩ : ∃ E', E' = stepE ⟨⟨#[112]⟩, ⟨#[113]⟩, out, wait, sent0, got0, sure, owes⟩ d := ⟨_, rfl⟩
      have hE2 := hE.step hfit
      have hO2 := hO.step d
      obtain ⟨q1, q2, q3⟩ := step_same ⟨⟨#[112]⟩, ⟨#[113]⟩, out, wait, sent0, got0, sure, owes⟩ d
      rw [← hE'] at hE2 hO2 q1 q2 q3
      obtain ⟨⟩ := E'
      dsimp only at q1 q2 q3
      obtain ⟨dk, l, dn⟩ := d
      obtain ⟨frm, to, number, kind, ack, deal, text, party, index, day, cur, amt, docs, boxes⟩ := l
      cbv; repeat' ((first | refine .e ?_ | refine .n fun h => ?_ | refine .y fun h => ?_ | refine .q fun z hz hz0 hz1 => ?_ | refine .mk (fun h => ?_) fun h => ?_ | refine .k fun z hz => ?_ | refine .o ?_ | refine .l fun ys hys hyl => ?_ | refine .zl fun zs hzs hzl => ?_ | refine .u fun u hu hul => ?_ | refine .z fun zs hzs => ?_ | refine .mk (fun h => ?_) ?_ | refine .ms fun ms hms => ?_ | refine .s fun s hs hsl => ?_ | refine And.intro ?_ ?_) <;> cbv)
      (refine callG_spec F.done (⟨⟨#[112]⟩, ⟨#[113]⟩, out, wait, sent0, got0, sure, owes⟩, i, ⟨dk, ⟨frm, to, number, kind, ack, deal, text, party, index, day, cur, amt, docs, boxes⟩, dn⟩) [0, 1, 2, 3] ⟨hE, hfit, by dsimp only; ((try simp only [vn] at *) <;> omega)⟩ rfl rfl (by decide) rfl rfl rfl rfl rfl ?_; try dsimp only)
      rw [← hE']
      cbv; repeat' ((first | refine .e ?_ | refine .n fun h => ?_ | refine .y fun h => ?_ | refine .q fun z hz hz0 hz1 => ?_ | refine .mk (fun h => ?_) fun h => ?_ | refine .k fun z hz => ?_ | refine .o ?_ | refine .l fun ys hys hyl => ?_ | refine .zl fun zs hzs hzl => ?_ | refine .u fun u hu hul => ?_ | refine .z fun zs hzs => ?_ | refine .mk (fun h => ?_) ?_ | refine .ms fun ms hms => ?_ | refine .s fun s hs hsl => ?_ | refine And.intro ?_ ?_) <;> cbv)
      obtain rfl := hz
      exact roundV ⟨(i + 1, ⟨_, _, _, _, _, _, _, _⟩), hil, hE2, hO2, q1, q2, by dsimp only; ((try simp only [vn] at *) <;> omega)⟩ (lft_lt (by ((try simp only [vn] at *) <;> omega)))
    · obtain ⟨q, hq⟩ : ∃ q, q = sent0 - (out.length : Int) := ⟨_, rfl⟩
      rw [← hq] at hform hinv2
      have e5 : ofE ⟨#[112]⟩ ⟨#[113]⟩ out q got0 = ⟨⟨#[112]⟩, ⟨#[113]⟩, out, [], sent0, got0, got0, false⟩ := by rw [ofE, hq]; congr 1; omega
      rw [e5] at hinv2
      have w0 := hE.sent0
      have w1 := hE.gotM
      have w2 := hE.got0
      have w3 := hE.outL
      have w4 := hE.outS
      dsimp only at w0 w1 w2 w3 w4
      (refine callG_spec hparts (⟨⟨#[112]⟩, ⟨#[113]⟩, out, wait, sent0, got0, sure, owes⟩, i, q) [0, 1, 2] ⟨hE, hq⟩ rfl rfl (by decide) rfl rfl rfl rfl rfl ?_; try dsimp only)
      cbv; repeat' ((first | refine .e ?_ | refine .n fun h => ?_ | refine .y fun h => ?_ | refine .q fun z hz hz0 hz1 => ?_ | refine .mk (fun h => ?_) fun h => ?_ | refine .k fun z hz => ?_ | refine .o ?_ | refine .l fun ys hys hyl => ?_ | refine .zl fun zs hzs hzl => ?_ | refine .u fun u hu hul => ?_ | refine .z fun zs hzs => ?_ | refine .mk (fun h => ?_) ?_ | refine .ms fun ms hms => ?_ | refine .s fun s hs hsl => ?_ | refine And.intro ?_ ?_) <;> cbv)
      (refine callG_new O.c (⟨#[112]⟩, ⟨#[113]⟩, out, q, got0) ⟨⟨by dsimp only; decide, by dsimp only; decide, by dsimp only; omega, w4⟩, fun hh => by (obtain hh | hh := hh; (· exact absurd hh (by dsimp only; decide)); dsimp only at hh; ((try simp only [vn] at *) <;> omega)), fun ⟨k, hk, hf⟩ => hform k hk hf⟩ rfl rfl ?_; try dsimp only)
      rw [e5]
      cbv; repeat' ((first | refine .e ?_ | refine .n fun h => ?_ | refine .y fun h => ?_ | refine .q fun z hz hz0 hz1 => ?_ | refine .mk (fun h => ?_) fun h => ?_ | refine .k fun z hz => ?_ | refine .o ?_ | refine .l fun ys hys hyl => ?_ | refine .zl fun zs hzs hzl => ?_ | refine .u fun u hu hul => ?_ | refine .z fun zs hzs => ?_ | refine .mk (fun h => ?_) ?_ | refine .ms fun ms hms => ?_ | refine .s fun s hs hsl => ?_ | refine And.intro ?_ ?_) <;> cbv)
      refine xloopG (Gh.le ([] ++ renH [0, 1, 2, 3] 0 (BothH ⟨⟨#[112]⟩, ⟨#[113]⟩, out, wait, sent0, got0, sure, owes⟩) ++ renH [4, 5, 6, 7] 0 (BothH ⟨⟨#[112]⟩, ⟨#[113]⟩, out, [], sent0, got0, got0, false⟩)) (LeH.cons (LeE.refl _) (LeH.cons (LeE.refl _) (LeH.cons (LeE.refl _) (LeH.cons (LeE.refl _) (LeH.cons (LeE.refl _) (LeH.cons (LeE.refl _) (LeH.cons (LeE.refl _) (LeH.cons (LeE.blk (by repeat' (first | exact LeL.nil | exact LeL0.nil | exact LeH.nil | exact LeE.refl _ | exact Le.refl _ | exact Le0.one (.refl _) | exact Le0.one (.nil _) | exact Le1.refl _ | exact Le1.nil _ | refine LeH.cons ?_ ?_ | refine LeE.row ?_ | refine LeE.blk ?_ | refine LeL0.cons ?_ ?_ | refine LeL.cons ?_ ?_ | refine Le0.agg ?_ | refine Le.tup ?_ | exact Le.one (.one (.nil _)) | refine Le.one (.agg ?_)))) LeH.nil))))))))) ?_
      refine xloopV [] (fun p : { p : Nat × En // p.1 ≤ L2.length ∧ InvE (i + p.1) p.2 } => [(28, .i (nI p.1.1))]) (fun p => [] ++ renH [0, 1, 2, 3] 0 (BothH ⟨⟨#[112]⟩, ⟨#[113]⟩, out, wait, sent0, got0, sure, owes⟩) ++ renH [4, 5, 6, 7] 0 (BothH p.1.2)) (fun p => lft n2 p.1.1) ⟨(0, ⟨⟨#[112]⟩, ⟨#[113]⟩, out, [], sent0, got0, got0, false⟩), Nat.zero_le _, hinv2⟩ ?_
      rintro ⟨⟨j, E⟩, hj, hEj⟩
      dsimp only at hj hEj
      obtain ⟨selfj, otherj, outj, waitj, sentj, gotj, surej, owesj⟩ := E
      cbv; repeat' ((first | refine .e ?_ | refine .n fun h => ?_ | refine .y fun h => ?_ | refine .q fun z hz hz0 hz1 => ?_ | refine .mk (fun h => ?_) fun h => ?_ | refine .k fun z hz => ?_ | refine .o ?_ | refine .l fun ys hys hyl => ?_ | refine .zl fun zs hzs hzl => ?_ | refine .u fun u hu hul => ?_ | refine .z fun zs hzs => ?_ | refine .mk (fun h => ?_) ?_ | refine .ms fun ms hms => ?_ | refine .s fun s hs hsl => ?_ | refine And.intro ?_ ?_) <;> cbv)
      · have hjl : j < L2.length := by ((try simp only [vn] at *) <;> omega)
        obtain ⟨d, hg⟩ := some_at hjl
        have hfit := fit_of (hnb2 d (mem_some hg)) (hints2 d (mem_some hg))
        obtain ⟨E', hE'⟩ : ∃ E', E' = stepE ⟨selfj, otherj, outj, waitj, sentj, gotj, surej, owesj⟩ d := ⟨_, rfl⟩
        have hE2 := hEj.step hfit
        rw [← hE'] at hE2
        obtain ⟨⟩ := E'
        obtain ⟨dk, l, dn⟩ := d
        obtain ⟨frm, to, number, kind, ack, deal, text, party, index, day, cur, amt, docs, boxes⟩ := l
        cbv; repeat' ((first | refine .e ?_ | refine .n fun h => ?_ | refine .y fun h => ?_ | refine .q fun z hz hz0 hz1 => ?_ | refine .mk (fun h => ?_) fun h => ?_ | refine .k fun z hz => ?_ | refine .o ?_ | refine .l fun ys hys hyl => ?_ | refine .zl fun zs hzs hzl => ?_ | refine .u fun u hu hul => ?_ | refine .z fun zs hzs => ?_ | refine .mk (fun h => ?_) ?_ | refine .ms fun ms hms => ?_ | refine .s fun s hs hsl => ?_ | refine And.intro ?_ ?_) <;> cbv)
        (refine callG_spec F.done (⟨selfj, otherj, outj, waitj, sentj, gotj, surej, owesj⟩, i + j, ⟨dk, ⟨frm, to, number, kind, ack, deal, text, party, index, day, cur, amt, docs, boxes⟩, dn⟩) [4, 5, 6, 7] ⟨hEj, hfit, by dsimp only; ((try simp only [vn] at *) <;> omega)⟩ rfl rfl (by decide) rfl rfl rfl rfl rfl ?_; try dsimp only)
        rw [← hE']
        cbv; repeat' ((first | refine .e ?_ | refine .n fun h => ?_ | refine .y fun h => ?_ | refine .q fun z hz hz0 hz1 => ?_ | refine .mk (fun h => ?_) fun h => ?_ | refine .k fun z hz => ?_ | refine .o ?_ | refine .l fun ys hys hyl => ?_ | refine .zl fun zs hzs hzl => ?_ | refine .u fun u hu hul => ?_ | refine .z fun zs hzs => ?_ | refine .mk (fun h => ?_) ?_ | refine .ms fun ms hms => ?_ | refine .s fun s hs hsl => ?_ | refine And.intro ?_ ?_) <;> cbv)
        (refine callG_spec F.even (⟨_, _, _, _, _, _, _, _⟩, i + j + 1) [4, 5, 6, 7] hE2 rfl rfl (by decide) rfl rfl rfl rfl rfl ?_; try dsimp only)
        cbv; repeat' ((first | refine .e ?_ | refine .n fun h => ?_ | refine .y fun h => ?_ | refine .q fun z hz hz0 hz1 => ?_ | refine .mk (fun h => ?_) fun h => ?_ | refine .k fun z hz => ?_ | refine .o ?_ | refine .l fun ys hys hyl => ?_ | refine .zl fun zs hzs hzl => ?_ | refine .u fun u hu hul => ?_ | refine .z fun zs hzs => ?_ | refine .mk (fun h => ?_) ?_ | refine .ms fun ms hms => ?_ | refine .s fun s hs hsl => ?_ | refine And.intro ?_ ?_) <;> cbv)
        obtain rfl := hz
        exact roundV ⟨(j + 1, ⟨_, _, _, _, _, _, _, _⟩), hjl, hE2⟩ (lft_lt (by ((try simp only [vn] at *) <;> omega)))
      · (refine callG_spec F.even (⟨⟨#[112]⟩, ⟨#[113]⟩, out, wait, sent0, got0, sure, owes⟩, i) [0, 1, 2, 3] hE rfl rfl (by decide) rfl rfl rfl rfl rfl ?_; try dsimp only)
        cbv; repeat' ((first | refine .e ?_ | refine .n fun h => ?_ | refine .y fun h => ?_ | refine .q fun z hz hz0 hz1 => ?_ | refine .mk (fun h => ?_) fun h => ?_ | refine .k fun z hz => ?_ | refine .o ?_ | refine .l fun ys hys hyl => ?_ | refine .zl fun zs hzs hzl => ?_ | refine .u fun u hu hul => ?_ | refine .z fun zs hzs => ?_ | refine .mk (fun h => ?_) ?_ | refine .ms fun ms hms => ?_ | refine .s fun s hs hsl => ?_ | refine And.intro ?_ ?_) <;> cbv)
        exact FinK.mk ⟨_, Gh.refl _, .inl (CutK.val rfl (Le.refl _) hK)⟩
  · obtain ⟨sx, hsx⟩ : ∃ sx, sx = acked + (sent.length : Int) := ⟨_, rfl⟩
    have e0 : ofE a b sent acked got = ⟨a, b, sent, [], sx, got, got, false⟩ := by rw [ofE, hsx]
    (refine callG_new O.c (a, b, sent, acked, got) ⟨hfit, hA, hB⟩ rfl rfl ?_; try dsimp only)
    rw [e0]
    cbv; repeat' ((first | refine .e ?_ | refine .n fun h => ?_ | refine .y fun h => ?_ | refine .q fun z hz hz0 hz1 => ?_ | refine .mk (fun h => ?_) fun h => ?_ | refine .k fun z hz => ?_ | refine .o ?_ | refine .l fun ys hys hyl => ?_ | refine .zl fun zs hzs hzl => ?_ | refine .u fun u hu hul => ?_ | refine .z fun zs hzs => ?_ | refine .mk (fun h => ?_) ?_ | refine .ms fun ms hms => ?_ | refine .s fun s hs hsl => ?_ | refine And.intro ?_ ?_) <;> cbv)
    (refine callG_spec0 O.rc (a, b, sent, acked, got) ⟨hfit, hA, hB⟩ rfl rfl rfl ?_; try dsimp only)
    cbv; repeat' ((first | refine .e ?_ | refine .n fun h => ?_ | refine .y fun h => ?_ | refine .q fun z hz hz0 hz1 => ?_ | refine .mk (fun h => ?_) fun h => ?_ | refine .k fun z hz => ?_ | refine .o ?_ | refine .l fun ys hys hyl => ?_ | refine .zl fun zs hzs hzl => ?_ | refine .u fun u hu hul => ?_ | refine .z fun zs hzs => ?_ | refine .mk (fun h => ?_) ?_ | refine .ms fun ms hms => ?_ | refine .s fun s hs hsl => ?_ | refine And.intro ?_ ?_) <;> cbv)
    have hinv := newE_inv (a := ⟨#[112]⟩) (b := ⟨#[113]⟩) (by decide) (by decide)
    have hout : OutOk (newE ⟨#[112]⟩ ⟨#[113]⟩) := ⟨fun l hl => by simp [newE] at hl⟩
    (refine callG_new F.new (⟨#[112]⟩, ⟨#[113]⟩) ⟨⟨by decide, by decide⟩, by rfl⟩ rfl rfl ?_; try dsimp only)
    cbv; repeat' ((first | refine .e ?_ | refine .n fun h => ?_ | refine .y fun h => ?_ | refine .q fun z hz hz0 hz1 => ?_ | refine .mk (fun h => ?_) fun h => ?_ | refine .k fun z hz => ?_ | refine .o ?_ | refine .l fun ys hys hyl => ?_ | refine .zl fun zs hzs hzl => ?_ | refine .u fun u hu hul => ?_ | refine .z fun zs hzs => ?_ | refine .mk (fun h => ?_) ?_ | refine .ms fun ms hms => ?_ | refine .s fun s hs hsl => ?_ | refine And.intro ?_ ?_) <;> cbv)
    refine xloopG (Gh.le (EndH ⟨a, b, sent, [], sx, got, got, false⟩ ++ renH [3, 4, 5, 6] 0 (BothH (newE ⟨#[112]⟩ ⟨#[113]⟩))) (LeH.cons (LeE.refl _) (LeH.cons (LeE.refl _) (LeH.cons (LeE.refl _) (LeH.cons (LeE.refl _) (LeH.cons (LeE.refl _) (LeH.cons (LeE.refl _) (LeH.cons (LeE.blk (by repeat' (first | exact LeL.nil | exact LeL0.nil | exact LeH.nil | exact LeE.refl _ | exact Le.refl _ | exact Le0.one (.refl _) | exact Le0.one (.nil _) | exact Le1.refl _ | exact Le1.nil _ | refine LeH.cons ?_ ?_ | refine LeE.row ?_ | refine LeE.blk ?_ | refine LeL0.cons ?_ ?_ | refine LeL.cons ?_ ?_ | refine Le0.agg ?_ | refine Le.tup ?_ | exact Le.one (.one (.nil _)) | refine Le.one (.agg ?_)))) LeH.nil)))))))) ?_
    refine xloopV [] (fun p : { p : Nat × En // p.1 ≤ L.length ∧ InvE p.1 p.2 ∧ OutOk p.2 ∧ p.2.self = ⟨#[112]⟩ ∧ p.2.other = ⟨#[113]⟩ ∧ p.2.sent ≤ p.1 } => [(21, .i (nI p.1.1))]) (fun p => EndH ⟨a, b, sent, [], sx, got, got, false⟩ ++ renH [3, 4, 5, 6] 0 (BothH p.1.2)) (fun p => lft n p.1.1) ⟨(0, newE ⟨#[112]⟩ ⟨#[113]⟩), Nat.zero_le _, hinv, hout, rfl, rfl, Int.le_refl _⟩ ?_
    rintro ⟨⟨i, E⟩, hi, hE, hO, hs1, hs2, hs3⟩
    dsimp only at hi hE hO hs1 hs2 hs3
    have hform := of_form hE hO
    have hinv2 := ofE_inv hE
    obtain ⟨self, other, out, wait, sent0, got0, sure, owes⟩ := E
    dsimp only at hs1 hs2 hs3 hform hinv2
    subst hs1 hs2
    cbv; repeat' ((first | refine .e ?_ | refine .n fun h => ?_ | refine .y fun h => ?_ | refine .q fun z hz hz0 hz1 => ?_ | refine .mk (fun h => ?_) fun h => ?_ | refine .k fun z hz => ?_ | refine .o ?_ | refine .l fun ys hys hyl => ?_ | refine .zl fun zs hzs hzl => ?_ | refine .u fun u hu hul => ?_ | refine .z fun zs hzs => ?_ | refine .mk (fun h => ?_) ?_ | refine .ms fun ms hms => ?_ | refine .s fun s hs hsl => ?_ | refine And.intro ?_ ?_) <;> cbv)
    · have hil : i < L.length := by ((try simp only [vn] at *) <;> omega)
      obtain ⟨d, hg⟩ := some_at hil
      have hfit := fit_of (hnb d (mem_some hg)) (hints d (mem_some hg))
      obtain ⟨E', hE'⟩ : ∃ E', E' = stepE ⟨⟨#[112]⟩, ⟨#[113]⟩, out, wait, sent0, got0, sure, owes⟩ d := ⟨_, rfl⟩
      have hE2 := hE.step hfit
      have hO2 := hO.step d
      obtain ⟨q1, q2, q3⟩ := step_same ⟨⟨#[112]⟩, ⟨#[113]⟩, out, wait, sent0, got0, sure, owes⟩ d
      rw [← hE'] at hE2 hO2 q1 q2 q3
      obtain ⟨⟩ := E'
      dsimp only at q1 q2 q3
      obtain ⟨dk, l, dn⟩ := d
      obtain ⟨frm, to, number, kind, ack, deal, text, party, index, day, cur, amt, docs, boxes⟩ := l
      cbv; repeat' ((first | refine .e ?_ | refine .n fun h => ?_ | refine .y fun h => ?_ | refine .q fun z hz hz0 hz1 => ?_ | refine .mk (fun h => ?_) fun h => ?_ | refine .k fun z hz => ?_ | refine .o ?_ | refine .l fun ys hys hyl => ?_ | refine .zl fun zs hzs hzl => ?_ | refine .u fun u hu hul => ?_ | refine .z fun zs hzs => ?_ | refine .mk (fun h => ?_) ?_ | refine .ms fun ms hms => ?_ | refine .s fun s hs hsl => ?_ | refine And.intro ?_ ?_) <;> cbv)
      (refine callG_spec F.done (⟨⟨#[112]⟩, ⟨#[113]⟩, out, wait, sent0, got0, sure, owes⟩, i, ⟨dk, ⟨frm, to, number, kind, ack, deal, text, party, index, day, cur, amt, docs, boxes⟩, dn⟩) [3, 4, 5, 6] ⟨hE, hfit, by dsimp only; ((try simp only [vn] at *) <;> omega)⟩ rfl rfl (by decide) rfl rfl rfl rfl rfl ?_; try dsimp only)
      rw [← hE']
      cbv; repeat' ((first | refine .e ?_ | refine .n fun h => ?_ | refine .y fun h => ?_ | refine .q fun z hz hz0 hz1 => ?_ | refine .mk (fun h => ?_) fun h => ?_ | refine .k fun z hz => ?_ | refine .o ?_ | refine .l fun ys hys hyl => ?_ | refine .zl fun zs hzs hzl => ?_ | refine .u fun u hu hul => ?_ | refine .z fun zs hzs => ?_ | refine .mk (fun h => ?_) ?_ | refine .ms fun ms hms => ?_ | refine .s fun s hs hsl => ?_ | refine And.intro ?_ ?_) <;> cbv)
      obtain rfl := hz
      exact roundV ⟨(i + 1, ⟨_, _, _, _, _, _, _, _⟩), hil, hE2, hO2, q1, q2, by dsimp only; ((try simp only [vn] at *) <;> omega)⟩ (lft_lt (by ((try simp only [vn] at *) <;> omega)))
    · obtain ⟨q, hq⟩ : ∃ q, q = sent0 - (out.length : Int) := ⟨_, rfl⟩
      rw [← hq] at hform hinv2
      have e5 : ofE ⟨#[112]⟩ ⟨#[113]⟩ out q got0 = ⟨⟨#[112]⟩, ⟨#[113]⟩, out, [], sent0, got0, got0, false⟩ := by rw [ofE, hq]; congr 1; omega
      rw [e5] at hinv2
      have w0 := hE.sent0
      have w1 := hE.gotM
      have w2 := hE.got0
      have w3 := hE.outL
      have w4 := hE.outS
      dsimp only at w0 w1 w2 w3 w4
      (refine callG_spec hparts (⟨⟨#[112]⟩, ⟨#[113]⟩, out, wait, sent0, got0, sure, owes⟩, i, q) [3, 4, 5] ⟨hE, hq⟩ rfl rfl (by decide) rfl rfl rfl rfl rfl ?_; try dsimp only)
      cbv; repeat' ((first | refine .e ?_ | refine .n fun h => ?_ | refine .y fun h => ?_ | refine .q fun z hz hz0 hz1 => ?_ | refine .mk (fun h => ?_) fun h => ?_ | refine .k fun z hz => ?_ | refine .o ?_ | refine .l fun ys hys hyl => ?_ | refine .zl fun zs hzs hzl => ?_ | refine .u fun u hu hul => ?_ | refine .z fun zs hzs => ?_ | refine .mk (fun h => ?_) ?_ | refine .ms fun ms hms => ?_ | refine .s fun s hs hsl => ?_ | refine And.intro ?_ ?_) <;> cbv)
      (refine callG_new O.c (⟨#[112]⟩, ⟨#[113]⟩, out, q, got0) ⟨⟨by dsimp only; decide, by dsimp only; decide, by dsimp only; omega, w4⟩, fun hh => by (obtain hh | hh := hh; (· exact absurd hh (by dsimp only; decide)); dsimp only at hh; ((try simp only [vn] at *) <;> omega)), fun ⟨k, hk, hf⟩ => hform k hk hf⟩ rfl rfl ?_; try dsimp only)
      rw [e5]
      cbv; repeat' ((first | refine .e ?_ | refine .n fun h => ?_ | refine .y fun h => ?_ | refine .q fun z hz hz0 hz1 => ?_ | refine .mk (fun h => ?_) fun h => ?_ | refine .k fun z hz => ?_ | refine .o ?_ | refine .l fun ys hys hyl => ?_ | refine .zl fun zs hzs hzl => ?_ | refine .u fun u hu hul => ?_ | refine .z fun zs hzs => ?_ | refine .mk (fun h => ?_) ?_ | refine .ms fun ms hms => ?_ | refine .s fun s hs hsl => ?_ | refine And.intro ?_ ?_) <;> cbv)
      refine xloopG (Gh.le (EndH ⟨a, b, sent, [], sx, got, got, false⟩ ++ renH [3, 4, 5, 6] 0 (BothH ⟨⟨#[112]⟩, ⟨#[113]⟩, out, wait, sent0, got0, sure, owes⟩) ++ renH [7, 8, 9, 10] 0 (BothH ⟨⟨#[112]⟩, ⟨#[113]⟩, out, [], sent0, got0, got0, false⟩)) (LeH.cons (LeE.refl _) (LeH.cons (LeE.refl _) (LeH.cons (LeE.refl _) (LeH.cons (LeE.refl _) (LeH.cons (LeE.refl _) (LeH.cons (LeE.refl _) (LeH.cons (LeE.refl _) (LeH.cons (LeE.refl _) (LeH.cons (LeE.refl _) (LeH.cons (LeE.refl _) (LeH.cons (LeE.blk (by repeat' (first | exact LeL.nil | exact LeL0.nil | exact LeH.nil | exact LeE.refl _ | exact Le.refl _ | exact Le0.one (.refl _) | exact Le0.one (.nil _) | exact Le1.refl _ | exact Le1.nil _ | refine LeH.cons ?_ ?_ | refine LeE.row ?_ | refine LeE.blk ?_ | refine LeL0.cons ?_ ?_ | refine LeL.cons ?_ ?_ | refine Le0.agg ?_ | refine Le.tup ?_ | exact Le.one (.one (.nil _)) | refine Le.one (.agg ?_)))) LeH.nil)))))))))))) ?_
      refine xloopV [] (fun p : { p : Nat × En // p.1 ≤ L2.length ∧ InvE (i + p.1) p.2 } => [(28, .i (nI p.1.1))]) (fun p => EndH ⟨a, b, sent, [], sx, got, got, false⟩ ++ renH [3, 4, 5, 6] 0 (BothH ⟨⟨#[112]⟩, ⟨#[113]⟩, out, wait, sent0, got0, sure, owes⟩) ++ renH [7, 8, 9, 10] 0 (BothH p.1.2)) (fun p => lft n2 p.1.1) ⟨(0, ⟨⟨#[112]⟩, ⟨#[113]⟩, out, [], sent0, got0, got0, false⟩), Nat.zero_le _, hinv2⟩ ?_
      rintro ⟨⟨j, E⟩, hj, hEj⟩
      dsimp only at hj hEj
      obtain ⟨selfj, otherj, outj, waitj, sentj, gotj, surej, owesj⟩ := E
      cbv; repeat' ((first | refine .e ?_ | refine .n fun h => ?_ | refine .y fun h => ?_ | refine .q fun z hz hz0 hz1 => ?_ | refine .mk (fun h => ?_) fun h => ?_ | refine .k fun z hz => ?_ | refine .o ?_ | refine .l fun ys hys hyl => ?_ | refine .zl fun zs hzs hzl => ?_ | refine .u fun u hu hul => ?_ | refine .z fun zs hzs => ?_ | refine .mk (fun h => ?_) ?_ | refine .ms fun ms hms => ?_ | refine .s fun s hs hsl => ?_ | refine And.intro ?_ ?_) <;> cbv)
      · have hjl : j < L2.length := by ((try simp only [vn] at *) <;> omega)
        obtain ⟨d, hg⟩ := some_at hjl
        have hfit := fit_of (hnb2 d (mem_some hg)) (hints2 d (mem_some hg))
        obtain ⟨E', hE'⟩ : ∃ E', E' = stepE ⟨selfj, otherj, outj, waitj, sentj, gotj, surej, owesj⟩ d := ⟨_, rfl⟩
        have hE2 := hEj.step hfit
        rw [← hE'] at hE2
        obtain ⟨⟩ := E'
        obtain ⟨dk, l, dn⟩ := d
        obtain ⟨frm, to, number, kind, ack, deal, text, party, index, day, cur, amt, docs, boxes⟩ := l
        cbv; repeat' ((first | refine .e ?_ | refine .n fun h => ?_ | refine .y fun h => ?_ | refine .q fun z hz hz0 hz1 => ?_ | refine .mk (fun h => ?_) fun h => ?_ | refine .k fun z hz => ?_ | refine .o ?_ | refine .l fun ys hys hyl => ?_ | refine .zl fun zs hzs hzl => ?_ | refine .u fun u hu hul => ?_ | refine .z fun zs hzs => ?_ | refine .mk (fun h => ?_) ?_ | refine .ms fun ms hms => ?_ | refine .s fun s hs hsl => ?_ | refine And.intro ?_ ?_) <;> cbv)
        (refine callG_spec F.done (⟨selfj, otherj, outj, waitj, sentj, gotj, surej, owesj⟩, i + j, ⟨dk, ⟨frm, to, number, kind, ack, deal, text, party, index, day, cur, amt, docs, boxes⟩, dn⟩) [7, 8, 9, 10] ⟨hEj, hfit, by dsimp only; ((try simp only [vn] at *) <;> omega)⟩ rfl rfl (by decide) rfl rfl rfl rfl rfl ?_; try dsimp only)
        rw [← hE']
        cbv; repeat' ((first | refine .e ?_ | refine .n fun h => ?_ | refine .y fun h => ?_ | refine .q fun z hz hz0 hz1 => ?_ | refine .mk (fun h => ?_) fun h => ?_ | refine .k fun z hz => ?_ | refine .o ?_ | refine .l fun ys hys hyl => ?_ | refine .zl fun zs hzs hzl => ?_ | refine .u fun u hu hul => ?_ | refine .z fun zs hzs => ?_ | refine .mk (fun h => ?_) ?_ | refine .ms fun ms hms => ?_ | refine .s fun s hs hsl => ?_ | refine And.intro ?_ ?_) <;> cbv)
        (refine callG_spec F.even (⟨_, _, _, _, _, _, _, _⟩, i + j + 1) [7, 8, 9, 10] hE2 rfl rfl (by decide) rfl rfl rfl rfl rfl ?_; try dsimp only)
        cbv; repeat' ((first | refine .e ?_ | refine .n fun h => ?_ | refine .y fun h => ?_ | refine .q fun z hz hz0 hz1 => ?_ | refine .mk (fun h => ?_) fun h => ?_ | refine .k fun z hz => ?_ | refine .o ?_ | refine .l fun ys hys hyl => ?_ | refine .zl fun zs hzs hzl => ?_ | refine .u fun u hu hul => ?_ | refine .z fun zs hzs => ?_ | refine .mk (fun h => ?_) ?_ | refine .ms fun ms hms => ?_ | refine .s fun s hs hsl => ?_ | refine And.intro ?_ ?_) <;> cbv)
        obtain rfl := hz
        exact roundV ⟨(j + 1, ⟨_, _, _, _, _, _, _, _⟩), hjl, hE2⟩ (lft_lt (by ((try simp only [vn] at *) <;> omega)))
      · (refine callG_spec F.even (⟨⟨#[112]⟩, ⟨#[113]⟩, out, wait, sent0, got0, sure, owes⟩, i) [3, 4, 5, 6] hE rfl rfl (by decide) rfl rfl rfl rfl rfl ?_; try dsimp only)
        cbv; repeat' ((first | refine .e ?_ | refine .n fun h => ?_ | refine .y fun h => ?_ | refine .q fun z hz hz0 hz1 => ?_ | refine .mk (fun h => ?_) fun h => ?_ | refine .k fun z hz => ?_ | refine .o ?_ | refine .l fun ys hys hyl => ?_ | refine .zl fun zs hzs hzl => ?_ | refine .u fun u hu hul => ?_ | refine .z fun zs hzs => ?_ | refine .mk (fun h => ?_) ?_ | refine .ms fun ms hms => ?_ | refine .s fun s hs hsl => ?_ | refine And.intro ?_ ?_) <;> cbv)
        exact FinK.mk ⟨_, Gh.refl _, .inl (CutK.val rfl (Le.refl _) hK)⟩
end Go.Proofs.Ytaflinfpmbfieaa
/-
  The door: arguments as they come in, as abstract values, by their type's shape; a contract as what a row asks.
-/
namespace Go.Proofs.Ytaflinfpmbfieaa
open Go.ChangeShapes Go.WideShapes Go.Deep Go.RowKit

inductive Sh where
  | int (k : IntKind)
  | str
  | bl
  | sl (sz : Nat) (e : Sh)
  | st (l : List Sh)
mutual
def Sh.width : Sh → Nat
  | .int _ => 1
  | .str => 1
  | .bl => 1
  | .sl _ _ => 1
  | .st l => Sh.widthL l
def Sh.widthL : List Sh → Nat
  | [] => 0
  | s :: l => s.width + Sh.widthL l
end
mutual
/-- The cells of a value of that shape. -/
def Op : Sh → List AV → Prop
  | .int k, cs => ∃ n, cs = [.int k n] ∧ (Lit.int k n).wf = true
  | .str, cs => ∃ s, cs = [.str s] ∧ s.size ≤ maxLen
  | .bl, cs => ∃ b, cs = [.bl b]
  | .sl sz e, cs => ∃ xs, cs = [.sl sz xs] ∧ xs.length ≤ maxLen ∧ ∀ x ∈ xs, x = elemAV sz x.cells ∧ Op e x.cells
  | .st l, cs => OpL l cs
def OpL : List Sh → List AV → Prop
  | [], cs => cs = []
  | s :: l, cs => ∃ a b, cs = a ++ b ∧ Op s a ∧ OpL l b
end
mutual
theorem Op.one : ∀ (s : Sh) (cs : List AV), Op s cs → cs.all AV.one = true
  | .int k, cs, h => by unfold Op at h; obtain ⟨n, rfl, _⟩ := h; rfl
  | .str, cs, h => by unfold Op at h; obtain ⟨n, rfl, _⟩ := h; rfl
  | .bl, cs, h => by unfold Op at h; obtain ⟨n, rfl⟩ := h; rfl
  | .sl sz e, cs, h => by unfold Op at h; obtain ⟨xs, rfl, _⟩ := h; rfl
  | .st l, cs, h => by unfold Op at h; exact OpL.one l cs h
theorem OpL.one : ∀ (l : List Sh) (cs : List AV), OpL l cs → cs.all AV.one = true
  | [], cs, h => by unfold OpL at h; subst h; rfl
  | s :: l, cs, h => by
    unfold OpL at h
    obtain ⟨a, b, rfl, h1, h2⟩ := h
    rw [List.all_append, Op.one s a h1, OpL.one l b h2]
    rfl
end
def shFs (P : Program) (g : TypeId → Option Sh) : List Field → Nat → Nat → Option (List Sh)
  | [], off, tot => if off = tot then some [] else none
  | f :: l, off, tot => if f.offset = off then match g f.type, shFs P g l (off + P.cellsOf f.type) tot with
      | some s, some r => some (s :: r)
      | _, _ => none
    else none
mutual
theorem Op.len : ∀ (s : Sh) (cs : List AV), Op s cs → cs.length = s.width
  | .int k, cs, h => by unfold Op at h; obtain ⟨n, rfl, _⟩ := h; rfl
  | .str, cs, h => by unfold Op at h; obtain ⟨n, rfl, _⟩ := h; rfl
  | .bl, cs, h => by unfold Op at h; obtain ⟨n, rfl⟩ := h; rfl
  | .sl sz e, cs, h => by unfold Op at h; obtain ⟨xs, rfl, _⟩ := h; rfl
  | .st l, cs, h => by unfold Op at h; exact OpL.len l cs h
theorem OpL.len : ∀ (l : List Sh) (cs : List AV), OpL l cs → cs.length = Sh.widthL l
  | [], cs, h => by unfold OpL at h; subst h; rfl
  | s :: l, cs, h => by
    unfold OpL at h
    obtain ⟨a, b, rfl, h1, h2⟩ := h
    rw [List.length_append, Op.len s a h1, OpL.len l b h2]
    rfl
end
/-- A type's shape, as the program tells it: structs' fields one behind the other. -/
def shOf (P : Program) : Nat → TypeId → Option Sh
  | 0, _ => none
  | n + 1, t => match P.underlying t with
    | some .bool => some .bl
    | some (.int k) => some (.int k)
    | some .string => some .str
    | some (.slice e) => match shOf P n e with
      | some s => if s.width = P.cellsOf e then some (.sl (P.cellsOf e) s) else none
      | none => none
    | some (.struct fs) => (shFs P (shOf P n) fs.toList 0 (P.cellsOf t)).map .st
    | _ => none
/-- All of memory is published. -/
def pubW (w : World) : Pub := fun b => match w.heap[b]? with
  | some (.cells arr _ _) => arr.size
  | _ => 0
theorem pubW_cell {w : World} {b i : Nat} {u : Value} (h : w.cell? ⟨b, i, none⟩ = some u) : i < pubW w b := by
  unfold World.cell? at h
  unfold pubW
  cases hb : w.heap[b]? with
  | none => simp [hb] at h
  | some o =>
    cases o <;> simp [hb] at h ⊢
    rename_i arr _ _
    rcases Nat.lt_or_ge i arr.size with h1 | h1
    · exact h1
    · rw [Array.getElem?_eq_none h1] at h; simp at h
theorem pubW_there {w : World} {b i : Nat} (h : i < pubW w b) : ∃ u, w.cell? ⟨b, i, none⟩ = some u := by
  unfold pubW at h
  cases hb : w.heap[b]? with
  | none => simp [hb] at h
  | some o =>
    cases o <;> simp [hb] at h
    rename_i arr _ _
    exact ⟨arr[i], by unfold World.cell?; simp [hb, Array.getElem?_eq_getElem h]⟩
theorem Mod.door (w : World) : Mod (pubW w) w rho0 [] :=
  ⟨fun k e he => (by simp at he), fun _ _ => rfl, (fun _ _ _ _ _ h => by cases h), (fun b hb => by unfold pubW; rw [Array.getElem?_eq_none hb]), fun b i hi => pubW_there hi⟩
theorem elemAV_cells_ {sz : Nat} {l : List AV} (hl : l.length = sz) (h1 : l.all AV.one = true) : (elemAV sz l).cells = l := elemAV_cells hl h1
theorem of_each_ {α : Type} {p : Nat → α → Prop} : ∀ (n : Nat), (∀ i, i < n → ∃ a, p i a) → ∃ l : List α, l.length = n ∧ ∀ i (h : i < l.length), p i l[i]
  | 0, _ => ⟨[], rfl, fun i h => by simp at h⟩
  | n + 1, h => by
    obtain ⟨l, hl, hp⟩ := of_each_ n (fun i hi => h i (by omega))
    obtain ⟨a, ha⟩ := h n (by omega)
    refine ⟨l ++ [a], by simp [hl], fun i hi => ?_⟩
    by_cases h1 : i < l.length
    · rw [List.getElem_append_left h1]; exact hp i h1
    · simp at hi
      obtain rfl : i = n := by omega
      subst hl
      simpa using ha
theorem Addr_add_none (b o n : Nat) : (⟨b, o, none⟩ : Addr).add n = ⟨b, o + n, none⟩ := by unfold Addr.add; split <;> simp_all
section
variable {H : Type} {enc : TypeId × Value → H} {P : Program} {w : World} {base : Nat} {spare : Nat → Bool} {held : Bool}
theorem open_fs {g : TypeId → Option Sh} {cs : List Value} (hg : ∀ t s, g t = some s → ∀ fuel cs x, DataW.trod enc P w base spare held fuel t cs = some x → ∃ cz, Op s cz ∧ VRels (pubW w) w rho0 cz cs) :
    ∀ (l : List Field) (off tot : Nat) (ss : List Sh), shFs P g l off tot = some ss → cs.length = tot → (∀ f ∈ l, ∃ fuel y, DataW.trod enc P w base spare held fuel f.type ((cs.drop f.offset).take (P.cellsOf f.type)) = some y) →
      ∃ cz, OpL ss cz ∧ VRels (pubW w) w rho0 cz (cs.drop off)
  | [], off, tot, ss, h, hl, _ => by
    unfold shFs at h
    split at h
    · cases h
      rename_i e
      refine ⟨[], by unfold OpL; rfl, ?_⟩
      rw [List.drop_eq_nil_of_le (by omega)]
      exact .nil
    · cases h
  | f :: l, off, tot, ss, h, hl, hf => by
    unfold shFs at h
    split at h
    · rename_i e
      split at h
      · rename_i s r hs hr
        cases h
        obtain ⟨fuel, y, hy⟩ := hf f (List.mem_cons_self ..)
        obtain ⟨cz1, h1, h2⟩ := hg _ _ hs _ _ _ hy
        obtain ⟨cz2, h3, h4⟩ := open_fs hg l _ tot r hr hl (fun f hm => hf f (List.mem_cons_of_mem _ hm))
        refine ⟨cz1 ++ cz2, by unfold OpL; exact ⟨cz1, cz2, rfl, h1, h3⟩, ?_⟩
        rw [e] at h2
        have := h2.app h4
        rw [← List.drop_drop, List.take_append_drop] at this
        exact this
      · cases h
    · cases h
theorem VRels.single {x : AV} {u : Value} {pub : Pub} {r : Rho} (h : VRel pub w r x u) : VRels pub w r [x] [u] := .cons h .nil
theorem open_cells : ∀ (n : Nat) (t : TypeId) (s : Sh), shOf P n t = some s → ∀ (fuel : Nat) (cs : List Value) (x : DataW H × List MemPlace), DataW.trod enc P w base spare held fuel t cs = some x → ∃ cz, Op s cz ∧ VRels (pubW w) w rho0 cz cs
  | 0, t, s, h => by cases h
  | n + 1, t, s, h => by
    intro fuel cs x hx
    have ih := open_cells n
    unfold shOf at h
    split at h
    · rename_i ht
      cases h
      obtain ⟨b, rfl, _⟩ := DataW.trod_bool ht hx
      exact ⟨[.bl b], by unfold Op; exact ⟨b, rfl⟩, .single (.bl b)⟩
    · rename_i k ht
      cases h
      obtain ⟨b, rfl, _, hw⟩ := DataW.trod_int ht hx
      exact ⟨[.int k b], by unfold Op; exact ⟨b, rfl, hw⟩, .single (.int k b)⟩
    · rename_i ht
      cases h
      obtain ⟨b, rfl, _, hw⟩ := DataW.trod_string ht hx
      exact ⟨[.str b], by unfold Op; exact ⟨b, rfl, hw⟩, .single (.str b)⟩
    · rename_i e ht
      split at h
      · rename_i se hse
        split at h
        · rename_i hwd
          cases h
          rcases open_slice ht hx with ⟨rfl, _⟩ | ⟨a, len, cap, m, n', D, Pl, rfl, _, hl, hm, hmm, _, hi⟩
          · refine ⟨[.sl (P.cellsOf e) []], by unfold Op; exact ⟨[], rfl, Nat.zero_le _, fun x hx => by cases hx⟩, .single (.sl (A := none) (c := 0) (xs := []) (Nat.le_refl _) (by unfold maxLen; omega) (fun _ => ⟨rfl, rfl⟩) (fun x hx => by cases hx) (fun _ _ => undef) (fun i x j u hx => by simp at hx) (fun i x j u hx => by simp at hx))⟩
          · have hle : len ≤ m := by rw [hmm]; split <;> omega
            have each : ∀ i, i < len → ∃ cz, Op se cz ∧ ∃ vs : List Value, VRels (pubW w) w rho0 cz vs ∧ ∀ j v, vs[j]? = some v → w.cell? ((a.add (i * P.cellsOf e)).add j) = some v := fun i hil => by
              obtain ⟨cs', hc, ht'⟩ := hi i (by omega)
              obtain ⟨cz, h1, h2⟩ := ih e se hse _ _ _ ht'
              obtain ⟨_, hcl, hat⟩ := World.cells?_some hc
              exact ⟨cz, h1, cs', h2, fun j v hv => by rw [hat j (by rw [← hcl]; exact (List.getElem?_eq_some_iff.1 hv).1), hv]⟩
            obtain ⟨A, hAl, hA⟩ : ∃ A : List (List AV), A.length = len ∧ ∀ i (h : i < A.length), Op se A[i] ∧ ∃ vs : List Value, VRels (pubW w) w rho0 A[i] vs ∧ ∀ j v, vs[j]? = some v → w.cell? ((a.add (i * P.cellsOf e)).add j) = some v := of_each_ len (p := fun i cz => Op se cz ∧ ∃ vs : List Value, VRels (pubW w) w rho0 cz vs ∧ ∀ j v, vs[j]? = some v → w.cell? ((a.add (i * P.cellsOf e)).add j) = some v) each
            have hcells : ∀ (cz : List AV), Op se cz → (elemAV (P.cellsOf e) cz).cells = cz := fun cz ho => elemAV_cells_ ((Op.len _ _ ho).trans hwd) (Op.one _ _ ho)
            refine ⟨[.sl (P.cellsOf e) (A.map (elemAV (P.cellsOf e)))], ?_, ?_⟩
            · unfold Op
              refine ⟨_, rfl, by rw [List.length_map, hAl]; omega, fun x hx => ?_⟩
              obtain ⟨cz, has, rfl⟩ := List.mem_map.1 hx
              obtain ⟨i, hil, rfl⟩ := List.getElem_of_mem has
              rw [hcells _ (hA i hil).1]
              exact ⟨rfl, (hA i hil).1⟩
            · refine .single ?_
              rw [← hAl, ← List.length_map (f := elemAV (P.cellsOf e))]
              have get : ∀ (i : Nat) (x : AV) (j : Nat) (u : AV), (A.map (elemAV (P.cellsOf e)))[i]? = some x → x.cells[j]? = some u → ∃ v, w.cell? ((a.add (i * P.cellsOf e)).add j) = some v ∧ VRel (pubW w) w rho0 u v := fun i x j u hx hu => by
                rw [List.getElem?_map] at hx
                rcases Nat.lt_or_ge i A.length with hil | hil
                · rw [List.getElem?_eq_getElem hil] at hx
                  cases hx
                  obtain ⟨ho, vs, hvs, hc⟩ := hA i hil
                  rw [hcells _ ho] at hu
                  obtain ⟨v, hv, hr⟩ := hvs.get hu
                  exact ⟨v, hc j v hv, hr⟩
                · rw [List.getElem?_eq_none hil] at hx; cases hx
              refine .sl (by rw [List.length_map]; omega) (by omega) (fun h => by cases h) (fun x hx => ?_) (fun i j => (w.cell? ((a.add (i * P.cellsOf e)).add j)).getD undef) (fun i x j u hx hu => ?_) (fun i x j u hx hu => ?_)
              · obtain ⟨cz, has, rfl⟩ := List.mem_map.1 hx
                obtain ⟨i, hil, rfl⟩ := List.getElem_of_mem has
                rw [hcells _ (hA i hil).1]
                exact ⟨(Op.len _ _ (hA i hil).1).trans hwd, Op.one _ _ (hA i hil).1⟩
              · obtain ⟨v, hv, hr⟩ := get i x j u hx hu
                rw [hv]
                exact hr
              · obtain ⟨v, hv, hr⟩ := get i x j u hx hu
                have hsp : a.spot = none := by
                  rw [List.getElem?_map] at hx
                  cases hAi : A[i]? with
                  | none => rw [hAi] at hx; cases hx
                  | some cz =>
                    rw [hAi] at hx
                    cases hx
                    obtain ⟨hil, rfl⟩ := List.getElem?_eq_some_iff.1 hAi
                    have hju : j < A[i].length := by rw [hcells _ (hA i hil).1] at hu; exact (List.getElem?_eq_some_iff.1 hu).1
                    have hli := Op.len _ _ (hA i hil).1
                    obtain ⟨ho, vs, hvs, hc⟩ := hA 0 (by omega)
                    have hl0 := Op.len _ _ ho
                    have hv0 : 0 < vs.length := by rw [hvs.len]; omega
                    have := World.cell?_spot (hc 0 vs[0] (List.getElem?_eq_getElem hv0))
                    simpa [Addr.add] using this
                obtain ⟨b, o, spot⟩ := a
                dsimp only at hsp
                subst hsp
                rw [hv]
                have e1 : ((⟨b, o, none⟩ : Addr).add (i * P.cellsOf e)).add j = ⟨b, o + i * P.cellsOf e + j, none⟩ := by
                  rw [Addr_add_none, Addr_add_none]
                rw [e1] at hv
                exact ⟨b, o, rfl, pubW_cell hv, hv⟩
        · cases h
      · cases h
    · rename_i fs ht
      obtain ⟨ss, hss, rfl⟩ := map_some h
      obtain ⟨xs, n', _, _, hl, hlen, hf⟩ := DataW.trod_struct ht hx
      obtain ⟨cz, h1, h2⟩ := open_fs (cs := cs) ih fs.toList 0 _ ss hss hl (fun f hm => by
        obtain ⟨j, hj⟩ := List.getElem?_of_mem hm
        have hjl : j < xs.length := by rw [hlen]; simpa using (List.getElem?_eq_some_iff.1 hj).1
        exact ⟨n', xs[j], by rw [hf j f (by simpa using hj), List.getElem?_eq_getElem hjl]⟩)
      exact ⟨cz, by unfold Op; exact h1, by simpa using h2⟩
    · cases h
def topAV : Sh → List AV → AV
  | .st _, cz => .agg cz
  | _, cz => cz.headD .any
theorem cells_one_ {v : Value} (h : ∀ cs, v ≠ .agg cs) : v.cells.toList = [v] := by
  cases v with
  | agg cs => exact absurd rfl (h cs)
  | _ => rfl
theorem open_val {n : Nat} {t : TypeId} {s : Sh} {r : Reach} {b0 : Nat} {v : Value} {d : DataW H} {p : List MemPlace} (hs : shOf P n t = some s) (hv : Value.okWide P w r b0 t v) (hd : DataW.Trod enc P w base spare held t v d p) :
    ∃ cz, Op s cz ∧ VRel (pubW w) w rho0 (topAV s cz) v := by
  obtain ⟨fuel, hf⟩ := hd
  obtain ⟨cz, h1, h2⟩ := open_cells n t s hs _ _ _ hf
  refine ⟨cz, h1, ?_⟩
  have scal : (∀ cs, v ≠ .agg cs) → ∀ a, cz = [a] → VRel (pubW w) w rho0 a v := fun hne a ha => by
    rw [cells_one_ hne, ha] at h2
    exact h2.at_ 0 a v rfl rfl
  cases n with
  | zero => cases hs
  | succ n =>
    unfold shOf at hs
    split at hs
    · rename_i ht
      cases hs
      unfold Op at h1
      obtain ⟨b, rfl⟩ := h1
      exact scal (fun cs hc => by subst hc; simp [Value.okWide, ht, Cell.okWide, Cell.ok] at hv) _ rfl
    · rename_i k ht
      cases hs
      unfold Op at h1
      obtain ⟨b, rfl, _⟩ := h1
      exact scal (fun cs hc => by subst hc; simp [Value.okWide, ht, Cell.okWide, Cell.ok] at hv) _ rfl
    · rename_i ht
      cases hs
      unfold Op at h1
      obtain ⟨b, rfl, _⟩ := h1
      exact scal (fun cs hc => by subst hc; simp [Value.okWide, ht, Cell.okWide, Cell.ok] at hv) _ rfl
    · rename_i e ht
      split at hs
      · split at hs
        · cases hs
          unfold Op at h1
          obtain ⟨b, rfl, _⟩ := h1
          exact scal (fun cs hc => by subst hc; simp [Value.okWide, ht, Cell.okWide, Cell.ok] at hv) _ rfl
        · cases hs
      · cases hs
    · rename_i fs ht
      obtain ⟨ss, hss, rfl⟩ := map_some hs
      simp only [Value.okWide, ht] at hv
      obtain ⟨cs, rfl, _⟩ := hv
      exact .agg (by simpa [Value.cells] using h2.len) fun i x u hx hu => h2.at_ i x u hx (by simpa [Value.cells] using hu)
    · cases hs
theorem op_list {α : Type} {sz : Nat} {e : Sh} {f : α → AV} {q : α → Prop} (h : ∀ cz, Op e cz → ∃ x : α, elemAV sz cz = f x ∧ q x) {cs : List AV} (ho : Op (.sl sz e) cs) : ∃ L : List α, cs = [.sl sz (mapA f L)] ∧ L.length ≤ maxLen ∧ ∀ x ∈ L, q x := by
  unfold Op at ho
  obtain ⟨xs, rfl, hl, hx⟩ := ho
  have key : ∀ xs : List AV, (∀ x ∈ xs, x = elemAV sz x.cells ∧ Op e x.cells) → ∃ L : List α, xs = mapA f L ∧ ∀ x ∈ L, q x := fun xs => by
    induction xs with
    | nil => exact fun _ => ⟨[], rfl, fun x hx => by cases hx⟩
    | cons y ys ih =>
      intro hx
      obtain ⟨L, rfl, hL⟩ := ih fun x hm => hx x (List.mem_cons_of_mem _ hm)
      obtain ⟨e1, e2⟩ := hx y (List.mem_cons_self ..)
      obtain ⟨x, hf, hq⟩ := h _ e2
      refine ⟨x :: L, ?_, fun z hz => ?_⟩
      · show y :: mapA f L = f x :: mapA f L
        rw [e1, hf]
      · rcases List.mem_cons.1 hz with rfl | hz
        · exact hq
        · exact hL z hz
  obtain ⟨L, rfl, hL⟩ := key xs hx
  exact ⟨L, rfl, by rwa [mapA_len] at hl, hL⟩
theorem wf_i64 {n : Int} (h : (Lit.int .i64 n).wf = true) : -9223372036854775808 ≤ n ∧ n ≤ 9223372036854775807 := by
  simp only [Lit.wf, Bool.and_eq_true, decide_eq_true_eq] at h
  have h1 : IntKind.i64.min = -9223372036854775808 := rfl
  have h2 : IntKind.i64.max = 9223372036854775807 := rfl
  omega
theorem wf_u8 {n : Int} (h : (Lit.int .u8 n).wf = true) : 0 ≤ n ∧ n ≤ 255 := by
  simp only [Lit.wf, Bool.and_eq_true, decide_eq_true_eq] at h
  have h1 : IntKind.u8.min = 0 := rfl
  have h2 : IntKind.u8.max = 255 := rfl
  omega
/-- A contract as what a row asks: true, and all that came in as it was. -/
theorem walk_of {f : Nat} {c : Ctr} (hf : FnOk P f c) {args : List AV} {vals : Array Value} (hv : VRels (pubW w) w rho0 args vals.toList) (hc : c args [] fun x _ => x = .bl true) :
    Calls P f vals w fun e w' => e = .returned (.bool true) ∧ Below w.heap.size w w' := by
  refine (hf args [] _ hc w rho0 (pubW w) vals (Mod.door w) hv).mono fun e w' ⟨v, x, H', r', pub', he, hx, hvx, _, hfr, _⟩ => ?_
  subst he
  subst hx
  cases hvx
  exact ⟨rfl, hfr.os, hfr.tape, hfr.output, hfr.size, fun j hj => (hfr.keep j hj (fun ⟨_, _, h, _⟩ => by cases h)).1⟩
end
end Go.Proofs.Ytaflinfpmbfieaa
namespace Go.Proofs.Ytaflinfpmbfieaa
open Go.RowKit
set_option maxRecDepth 100000
/-! What came in, cz letters and deeds. -/
def fieldSh : Sh := .st [.str, .str]
def docSh : Sh := .st [.int .i64, .str, .str, .sl 2 fieldSh]
def letterSh : Sh := .st [.str, .str, .int .i64, .int .i64, .int .i64, .str, .str, .str, .int .i64, .int .i64, .st [.str, .int .i64], .sl 4 docSh, .sl 1 .str]
def deedSh : Sh := .st [.int .u8, letterSh, .int .i64]
theorem op_field (cz : List AV) (h : Op fieldSh cz) : ∃ x : Fd, elemAV 2 cz = FdA x ∧ True := by
  unfold fieldSh Op at h
  (unfold OpL at h; obtain ⟨_, _, rfl, h1, h⟩ := h; unfold Op at h1; obtain ⟨a0, rfl, w0⟩ := h1)
  (unfold OpL at h; obtain ⟨_, _, rfl, h1, h⟩ := h; unfold Op at h1; obtain ⟨a1, rfl, w1⟩ := h1)
  (unfold OpL at h; subst h)
  exact ⟨⟨a0, a1⟩, rfl, trivial⟩
theorem op_doc (cz : List AV) (h : Op docSh cz) : ∃ x : Dc, elemAV 4 cz = DcA x ∧ i64 x.kind := by
  unfold docSh Op at h
  (unfold OpL at h; obtain ⟨_, _, rfl, h1, h⟩ := h; unfold Op at h1; obtain ⟨a0, rfl, w0⟩ := h1)
  (unfold OpL at h; obtain ⟨_, _, rfl, h1, h⟩ := h; unfold Op at h1; obtain ⟨a1, rfl, w1⟩ := h1)
  (unfold OpL at h; obtain ⟨_, _, rfl, h1, h⟩ := h; unfold Op at h1; obtain ⟨a2, rfl, w2⟩ := h1)
  unfold OpL at h
  obtain ⟨_, _, rfl, h1, h⟩ := h
  obtain ⟨L, rfl, _⟩ := op_list op_field h1
  (unfold OpL at h; subst h)
  exact ⟨⟨a0, a1, a2, L⟩, rfl, wf_i64 w0⟩
theorem op_letter (cz : List AV) (h : Op letterSh cz) : ∃ x : Lt, .agg cz = LtA x ∧ IntsL x := by
  unfold letterSh Op at h
  (unfold OpL at h; obtain ⟨_, _, rfl, h1, h⟩ := h; unfold Op at h1; obtain ⟨a0, rfl, w0⟩ := h1)
  (unfold OpL at h; obtain ⟨_, _, rfl, h1, h⟩ := h; unfold Op at h1; obtain ⟨a1, rfl, w1⟩ := h1)
  (unfold OpL at h; obtain ⟨_, _, rfl, h1, h⟩ := h; unfold Op at h1; obtain ⟨a2, rfl, w2⟩ := h1)
  (unfold OpL at h; obtain ⟨_, _, rfl, h1, h⟩ := h; unfold Op at h1; obtain ⟨a3, rfl, w3⟩ := h1)
  (unfold OpL at h; obtain ⟨_, _, rfl, h1, h⟩ := h; unfold Op at h1; obtain ⟨a4, rfl, w4⟩ := h1)
  (unfold OpL at h; obtain ⟨_, _, rfl, h1, h⟩ := h; unfold Op at h1; obtain ⟨a5, rfl, w5⟩ := h1)
  (unfold OpL at h; obtain ⟨_, _, rfl, h1, h⟩ := h; unfold Op at h1; obtain ⟨a6, rfl, w6⟩ := h1)
  (unfold OpL at h; obtain ⟨_, _, rfl, h1, h⟩ := h; unfold Op at h1; obtain ⟨a7, rfl, w7⟩ := h1)
  (unfold OpL at h; obtain ⟨_, _, rfl, h1, h⟩ := h; unfold Op at h1; obtain ⟨a8, rfl, w8⟩ := h1)
  (unfold OpL at h; obtain ⟨_, _, rfl, h1, h⟩ := h; unfold Op at h1; obtain ⟨a9, rfl, w9⟩ := h1)
  unfold OpL at h
  obtain ⟨_, _, rfl, hm, h'⟩ := h
  have h := hm
  unfold Op at h
  (unfold OpL at h; obtain ⟨_, _, rfl, h1, h⟩ := h; unfold Op at h1; obtain ⟨b0, rfl, v0⟩ := h1)
  (unfold OpL at h; obtain ⟨_, _, rfl, h1, h⟩ := h; unfold Op at h1; obtain ⟨b1, rfl, v1⟩ := h1)
  (unfold OpL at h; subst h)
  have h := h'
  unfold OpL at h
  obtain ⟨_, _, rfl, h1, h⟩ := h
  obtain ⟨L, rfl, _, hL⟩ := op_list op_doc h1
  unfold OpL at h
  obtain ⟨_, _, rfl, h1, h⟩ := h
  obtain ⟨B, rfl, _⟩ := op_list (f := AV.str) (q := fun _ => True) (fun cz h => by unfold Op at h; obtain ⟨s, rfl, _⟩ := h; exact ⟨s, rfl, trivial⟩) h1
  (unfold OpL at h; subst h)
  exact ⟨⟨a0, a1, a2, a3, a4, a5, a6, a7, a8, a9, b0, b1, L, B⟩, rfl, ⟨wf_i64 w2, wf_i64 w3, wf_i64 w4, wf_i64 w8, wf_i64 w9, wf_i64 v1, hL⟩⟩
theorem op_deed (cz : List AV) (h : Op deedSh cz) : ∃ x : Dd, elemAV 16 cz = DdA x ∧ IntsD x := by
  unfold deedSh Op at h
  (unfold OpL at h; obtain ⟨_, _, rfl, h1, h⟩ := h; unfold Op at h1; obtain ⟨a0, rfl, w0⟩ := h1)
  unfold OpL at h
  obtain ⟨ls, _, rfl, hl, h⟩ := h
  obtain ⟨x, hx, hi⟩ := op_letter ls hl
  (unfold OpL at h; obtain ⟨_, _, rfl, h1, h⟩ := h; unfold Op at h1; obtain ⟨a2, rfl, w2⟩ := h1)
  (unfold OpL at h; subst h)
  refine ⟨⟨a0, x, a2⟩, ?_, hi, wf_i64 w2⟩
  obtain ⟨⟩ := x
  unfold LtA at hx
  cases hx
  rfl
theorem op_letters {cs : List AV} (h : Op (.sl 14 letterSh) cs) : ∃ L : List Lt, cs = [.sl 14 (mapA LtA L)] ∧ L.length ≤ maxLen ∧ ∀ x ∈ L, IntsL x := op_list (fun cz h => by obtain ⟨x, h1, h2⟩ := op_letter cz h; exact ⟨x, h1, h2⟩) h
theorem op_deeds {cs : List AV} (h : Op (.sl 16 deedSh) cs) : ∃ L : List Dd, cs = [.sl 16 (mapA DdA L)] ∧ L.length ≤ maxLen ∧ ∀ x ∈ L, IntsD x := op_list op_deed h
theorem sh_deeds : shOf Try.prog 9 47 = some (.sl 16 deedSh) := by kernel_rfl
theorem sh_letters : shOf Try.prog 9 30 = some (.sl 14 letterSh) := by kernel_rfl
theorem sh_letter : shOf Try.prog 9 40 = some letterSh := by kernel_rfl
end Go.Proofs.Ytaflinfpmbfieaa
namespace Go.Proofs.Ytaflinfpmbfieaa
open Go.RowKit
set_option maxRecDepth 100000
/-! All functions of the chapter, by their contracts. -/
theorem own : ownKnob Try.prog.godebug = none := by kernel_rfl
theorem laidOut : laidOutB Try.prog = true := by kernel_rfl
theorem k_name : FnOk Try.prog 46 NameC := fn_strB fun s w h => name_any s w h
theorem k_rname : FnOk Try.prog 36 NameC := fn_strB fun s w h => refName_any s w h
theorem k_parties : FnOk Try.prog 35 PartC := body_ok (by kernel_rfl) (areParties_body _ k_name)
theorem k_rnames : FnOk Try.prog 21 PartC := body_ok (by kernel_rfl) (rnames_body _ k_rname)
theorem k_new : FnOk Try.prog 20 NewC := body_ok (by kernel_rfl) (new_body _ k_parties)
theorem k_newNo : FnOk Try.prog 20 NewNoC := body_ok (by kernel_rfl) (newNo_body _ k_parties)
theorem k_cloneLR : FnOk Try.prog 48 (CloneR 40 14 192) := body_ok (by kernel_rfl) (cloneLR_body _)
theorem k_cloneDR : FnOk Try.prog 49 (CloneR 78 4 64) := body_ok (by kernel_rfl) (cloneDR_body _)
theorem k_cloneF : FnOk Try.prog 50 (CloneC 2 32) := body_ok (by kernel_rfl) (cloneF_body _)
theorem k_cloneS : FnOk Try.prog 51 (CloneC 1 16) := body_ok (by kernel_rfl) (cloneS_body _)
theorem k_own : FnOk Try.prog 44 OwnC := body_ok (by kernel_rfl) (own_body _ k_cloneDR k_cloneF k_cloneS)
theorem k_owns : FnOk Try.prog 32 OwnsR := body_ok (by kernel_rfl) (owns_body _ k_own)
theorem k_due : FnOk Try.prog 12 DueC := body_ok (by kernel_rfl) (due_body _ k_owns)
theorem k_send : FnOk Try.prog 31 SendC := body_ok (by kernel_rfl) (send_body _ k_own)
theorem k_ack : FnOk Try.prog 18 AckC := body_ok (by kernel_rfl) (ack_body _)
theorem k_sent : FnOk Try.prog 42 SentC := body_ok (by kernel_rfl) (sent_body _)
theorem k_got : FnOk Try.prog 15 GotC := body_ok (by kernel_rfl) (got_body _)
theorem k_inAcked : FnOk Try.prog 33 InAckedC := body_ok (by kernel_rfl) (inAcked_body _)
theorem k_isOwn : FnOk Try.prog 43 IsOwnC := body_ok (by kernel_rfl) (isOwn_body _)
theorem k_sure : FnOk Try.prog 14 SureC := body_ok (by kernel_rfl) (sure_body _)
theorem k_parts : FnOk Try.prog 16 PartsC := body_ok (by kernel_rfl) (parts_body _ k_owns k_inAcked)
theorem k_acked : FnOk Try.prog 40 AckedC := body_ok (by kernel_rfl) (acked_body _ k_cloneLR k_inAcked)
theorem k_take : FnOk Try.prog 26 TakeC := body_ok (by kernel_rfl) (take_body _ k_isOwn k_acked k_own)
theorem k_of : FnOk Try.prog 29 OfC := body_ok (by kernel_rfl) (of_body _ k_parties k_new k_owns)
theorem k_rof : FnOk Try.prog 30 ROfC := body_ok (by kernel_rfl) (rof_body _ k_rnames)
theorem k_rown : FnOk Try.prog 25 ROwnC := body_ok (by kernel_rfl) (rown_body _)
theorem k_find : FnOk Try.prog 47 FindC := body_ok (by kernel_rfl) (rfind_body _)
theorem k_rsure : FnOk Try.prog 39 RSureC := body_ok (by kernel_rfl) (rsure_body _)
theorem k_racked : FnOk Try.prog 41 RAckedC := body_ok (by kernel_rfl) (racked_body _)
theorem k_rsend : FnOk Try.prog 37 RSendC := body_ok (by kernel_rfl) (rsend_body _)
theorem k_rdue : FnOk Try.prog 28 RDueC := body_ok (by kernel_rfl) (rdue_body _)
theorem k_rtake : FnOk Try.prog 38 RTakeC := body_ok (by kernel_rfl) (rtake_body _ k_rown k_racked k_find)
theorem k_digP : FnOk Try.prog 45 DigP := body_ok (by kernel_rfl) (digP_body _)
theorem k_digits : FnOk Try.prog 45 DigC := body_ok (by kernel_rfl) (digits_body _ k_digP)
theorem k_text : FnOk Try.prog 34 TextC := body_ok (by kernel_rfl) (text_body _ k_digits)
theorem k_same : FnOk Try.prog 27 SameC := body_ok (by kernel_rfl) (same_body _ k_text)
theorem k_big : FnOk Try.prog 24 BigC := body_ok (by kernel_rfl) (big_body _)
theorem k_heavy : FnOk Try.prog 19 HeavyC := body_ok (by kernel_rfl) (heavy_body _ k_big)
theorem k_even : FnOk Try.prog 23 EvenC := body_ok (by kernel_rfl) (even_body _ k_parts k_ack k_sent k_got k_same)
theorem k_fns : Fns Try.prog := ⟨k_send, k_rsend, k_text, k_take, k_rtake, k_same, k_due, k_rdue, k_sure, k_rsure, k_acked, k_racked⟩
theorem k_done : FnOk Try.prog 22 DoneC := body_ok (by kernel_rfl) (done_body _ k_fns)
theorem k_awake : FnOk Try.prog 9 AwakeC := body_ok (by kernel_rfl) (awake_body _ k_new k_take k_got)
theorem k_fns2 : Fns2 Try.prog := ⟨k_awake, k_heavy, k_new, k_newNo, k_rnames, k_done, k_even⟩
theorem k_plays : FnOk Try.prog 5 PlaysC := body_ok (by kernel_rfl) (plays_body _ k_fns2)
theorem k_strange : FnOk Try.prog 6 StrangeC := body_ok (by kernel_rfl) (strange_body _ k_fns2 k_fns k_big k_rown)
theorem k_lparts : FnOk Try.prog 8 LPartsC := body_ok (by kernel_rfl) (lparts_body _ k_fns2 (of_fns k_of k_rof) k_big k_parts)
end Go.Proofs.Ytaflinfpmbfieaa

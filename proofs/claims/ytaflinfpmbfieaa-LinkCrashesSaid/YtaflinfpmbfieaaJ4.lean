/-
  Texts of this proof, joined: T7, T8, T9, TA, Mark, LName, TB, TC, TD, TE, TF, TG, TH, TI, TJ, TK, TL, TN.
-/
import Derived.Test.YtaflinfpmbfieaaJ3
import Derived.Test.YtaflinfpmbfieaaRows
import Derived.WalkSpells
import Derived.WalkLawsBesides
namespace Go.Proofs.Ytaflinfpmbfieaa
open Go.RowKit
set_option maxHeartbeats 1000000
set_option maxRecDepth 100000
noncomputable def EndH : En → List Ent
  | ⟨self, other, out, wait, sent, got, sure, owes⟩ => [.blk 73 [.str self, .str other, .hd 1, .i sent, .i got, .i sure, .hd 2, .bl owes], .tip 40 14 (mapA LtA out), .map 71 (mapA (fun l => (.i l.number, LtA l)) wait)]
/-- An end that is only read. -/
noncomputable def RoEnd (x : Value) : En → List AV
  | ⟨self, other, out, _, sent, got, sure, owes⟩ => [.str self, .str other, .sl 14 (mapA LtA out), .i sent, .i got, .i sure, .v x, .bl owes]
noncomputable def DueC : Ctr := spec (fun _ : En × Nat => [.ptr 0 0]) (fun i => EndH i.1) (fun i => InvE i.2 i.1) (fun _ => .hd 3) fun i => EndH (dueE i.1) ++ [.row 40 14 (mapA LtA (dueL i.1))]
theorem due_body (P : Program) (howns : FnOk P 32 OwnsR) : BodyOk P x12 DueC := by
  intro args H K hc
  obtain ⟨⟨E, M⟩, rfl, rfl, hi, hK⟩ := hc
  refine ⟨Nat.le_of_ble_eq_true rfl, ?_⟩
  dsimp only at hi hK ⊢
  obtain ⟨self, other, out, wait, sent, got, sure, owes⟩ := E
  have h2 : out.length ≤ 4096 := hi.outL
  have h3 : ∀ l ∈ out, Small l := hi.outS
  cbv; repeat' ((first | refine .e ?_ | refine .n fun h => ?_ | refine .y fun h => ?_ | refine .q fun z hz hz0 hz1 => ?_ | refine .mk (fun h => ?_) fun h => ?_ | refine .k fun z hz => ?_ | refine .o ?_ | refine .l fun ys hys hyl => ?_ | refine .zl fun zs hzs hzl => ?_ | refine .u fun u hu hul => ?_ | refine .z fun zs hzs => ?_ | refine .mk (fun h => ?_) ?_ | refine .ms fun ms hms => ?_ | refine .s fun s hs hsl => ?_ | refine And.intro ?_ ?_) <;> cbv)
  refine callG_new howns out ⟨by omega, h3⟩ rfl rfl ?_
  cbv; repeat' ((first | refine .e ?_ | refine .n fun h => ?_ | refine .y fun h => ?_ | refine .q fun z hz hz0 hz1 => ?_ | refine .mk (fun h => ?_) fun h => ?_ | refine .k fun z hz => ?_ | refine .o ?_ | refine .l fun ys hys hyl => ?_ | refine .zl fun zs hzs hzl => ?_ | refine .u fun u hu hul => ?_ | refine .z fun zs hzs => ?_ | refine .mk (fun h => ?_) ?_ | refine .ms fun ms hms => ?_ | refine .s fun s hs hsl => ?_ | refine And.intro ?_ ?_) <;> cbv)
  obtain ⟨n, hn⟩ : ∃ n, n = out.length := ⟨_, rfl⟩
  refine xloop (fun p : { p : Nat × List Lt // p.1 ≤ n ∧ (out.take p.1).map (withAck sure) ++ out.drop p.1 = p.2 } => ⟨[(12, .i (nI p.1.1)), (11, .i z), (3, .hd 3), (0, .ptr 0 0)],
    [.blk 73 [.str self, .str other, .hd 1, .i sent, .i got, .i sure, .hd 2, .bl owes], .tip 40 14 (mapA LtA out), .map 71 (mapA (fun l => (.i l.number, LtA l)) wait), .row 40 14 (mapA LtA p.1.2)]⟩) (fun p => lft n p.1.1) ⟨(0, out), Nat.zero_le _, rfl⟩
    (Gh.weak ⟨.inl rfl, .inl rfl, .inl rfl, .inl rfl, trivial⟩ rfl rfl rfl (Nat.le_of_ble_eq_true rfl)) ?_
  rintro ⟨⟨i, a⟩, hi, ha⟩
  dsimp only at hi ha ⊢
  have hal : a.length = n := by rw [← ha, List.length_append, List.length_map, List.length_take, List.length_drop]; omega
  cbv; repeat' ((first | refine .e ?_ | refine .n fun h => ?_ | refine .y fun h => ?_ | refine .q fun z hz hz0 hz1 => ?_ | refine .mk (fun h => ?_) fun h => ?_ | refine .k fun z hz => ?_ | refine .o ?_ | refine .l fun ys hys hyl => ?_ | refine .zl fun zs hzs hzl => ?_ | refine .u fun u hu hul => ?_ | refine .z fun zs hzs => ?_ | refine .mk (fun h => ?_) ?_ | refine .ms fun ms hms => ?_ | refine .s fun s hs hsl => ?_ | refine And.intro ?_ ?_) <;> cbv)
  · have hil : i < n := by ((try simp only [vn] at *) <;> omega)
    refine ⟨i, rfl, by ((try simp only [vn] at *) <;> omega), ?_⟩
    cbv; repeat' ((first | refine .e ?_ | refine .n fun h => ?_ | refine .y fun h => ?_ | refine .q fun z hz hz0 hz1 => ?_ | refine .mk (fun h => ?_) fun h => ?_ | refine .k fun z hz => ?_ | refine .o ?_ | refine .l fun ys hys hyl => ?_ | refine .zl fun zs hzs hzl => ?_ | refine .u fun u hu hul => ?_ | refine .z fun zs hzs => ?_ | refine .mk (fun h => ?_) ?_ | refine .ms fun ms hms => ?_ | refine .s fun s hs hsl => ?_ | refine And.intro ?_ ?_) <;> cbv)
    obtain ⟨_, hai, hset⟩ := upd_step (withAck sure) out a (by omega) ha
    have hg : (mapA LtA a)[i]? = some (LtA (out[i]'(by omega))) := by rw [mapA_eq, List.getElem?_map, hai]; rfl
    generalize (out[i]'(by omega)) = l at hg hset
    obtain ⟨frm, to, number, kind, ack, deal, text, party, index, day, cur, amt, docs, boxes⟩ := l
    refine ⟨i, _, rfl, hg, ?_⟩
    cbv; repeat' ((first | refine .e ?_ | refine .n fun h => ?_ | refine .y fun h => ?_ | refine .q fun z hz hz0 hz1 => ?_ | refine .mk (fun h => ?_) fun h => ?_ | refine .k fun z hz => ?_ | refine .o ?_ | refine .l fun ys hys hyl => ?_ | refine .zl fun zs hzs hzl => ?_ | refine .u fun u hu hul => ?_ | refine .z fun zs hzs => ?_ | refine .mk (fun h => ?_) ?_ | refine .ms fun ms hms => ?_ | refine .s fun s hs hsl => ?_ | refine And.intro ?_ ?_) <;> cbv)
    obtain rfl : zs = mapA LtA (a.set i (withAck sure ⟨frm, to, number, kind, ack, deal, text, party, index, day, cur, amt, docs, boxes⟩)) := by rw [← mapA_set_]; exact hzs
    obtain rfl := hz
    exact round_ok ⟨(i + 1, _), by dsimp only; omega, hset⟩ (Gh.weak ⟨.inl rfl, .inl rfl, .inl rfl, .inl rfl, trivial⟩ rfl rfl rfl (Nat.le_of_ble_eq_true rfl)) (lft_lt (by omega))
  · have han : i = n := by ((try simp only [vn] at *) <;> omega)
    have hae : a = out.map (withAck sure) := by rw [← ha, han, hn, List.take_length, List.drop_length, List.append_nil]
    have hoe : out = [] := List.eq_nil_of_length_eq_zero (by ((try simp only [vn] at *) <;> omega))
    subst hoe
    cases owes with
    | true =>
      cbv; repeat' ((first | refine .e ?_ | refine .n fun h => ?_ | refine .y fun h => ?_ | refine .q fun z hz hz0 hz1 => ?_ | refine .mk (fun h => ?_) fun h => ?_ | refine .k fun z hz => ?_ | refine .o ?_ | refine .l fun ys hys hyl => ?_ | refine .zl fun zs hzs hzl => ?_ | refine .u fun u hu hul => ?_ | refine .z fun zs hzs => ?_ | refine .mk (fun h => ?_) ?_ | refine .ms fun ms hms => ?_ | refine .s fun s hs hsl => ?_ | refine And.intro ?_ ?_) <;> cbv)
      refine ⟨⟨_, Gh.refl _, ?_⟩⟩
      cbv
      rw [dueL, if_pos ⟨rfl, rfl⟩] at hK
      refine .inl ⟨⟨[0, 1, 2, 4], .hd 3, EndH (dueE ⟨self, other, [], wait, sent, got, sure, true⟩) ++ [.row 40 14 [.agg [.str self, .str other, .i 0, .i 28, .i sure, .str ⟨#[]⟩, .str ⟨#[]⟩, .str ⟨#[]⟩, .i 0, .i 0, .str ⟨#[]⟩, .i 0, .v (.slice none 0 0), .v (.slice none 0 0)]]], _, _, rfl, rfl, by decide, rfl, Nat.le_of_ble_eq_true rfl, rfl, rfl, Le.refl _, ?_, hK⟩⟩
      repeat' (first | exact LeL.nil | exact LeL0.nil | exact LeH.nil | exact LeE.refl _ | exact Le.refl _ | exact Le0.one (.refl _) | exact Le0.one (.nil _) | exact Le1.refl _ | exact Le1.nil _ | refine LeH.cons ?_ ?_ | refine LeE.row ?_ | refine LeE.blk ?_ | refine LeL0.cons ?_ ?_ | refine LeL.cons ?_ ?_ | refine Le0.agg ?_ | refine Le.tup ?_ | exact Le.one (.one (.nil _)) | refine Le.one (.agg ?_))
    | false =>
      cbv; repeat' ((first | refine .e ?_ | refine .n fun h => ?_ | refine .y fun h => ?_ | refine .q fun z hz hz0 hz1 => ?_ | refine .mk (fun h => ?_) fun h => ?_ | refine .k fun z hz => ?_ | refine .o ?_ | refine .l fun ys hys hyl => ?_ | refine .zl fun zs hzs hzl => ?_ | refine .u fun u hu hul => ?_ | refine .z fun zs hzs => ?_ | refine .mk (fun h => ?_) ?_ | refine .ms fun ms hms => ?_ | refine .s fun s hs hsl => ?_ | refine And.intro ?_ ?_) <;> cbv)
      rw [dueL, if_neg (by rintro ⟨_, h⟩; cases h)] at hK
      subst hae
      exact ⟨⟨_, Gh.refl _, .inl (CutK.pre _ rfl (Nat.le_of_ble_eq_true rfl) rfl rfl (Le.refl _) (LeH.refl _) hK)⟩⟩
  · have han : i = n := by ((try simp only [vn] at *) <;> omega)
    have hae : a = out.map (withAck sure) := by rw [← ha, han, hn, List.take_length, List.drop_length, List.append_nil]
    have hoe : ¬ (out = [] ∧ owes = true) := fun hh => by
      obtain ⟨hh, _⟩ := hh
      subst hh
      have : n = 0 := hn
      ((try simp only [vn] at *) <;> omega)
    rw [dueL, if_neg hoe, ← hae] at hK
    refine ⟨⟨_, Gh.refl _, .inl (CutK.pre _ rfl (Nat.le_of_ble_eq_true rfl) rfl rfl (Le.refl _) (LeH.refl _) hK)⟩⟩
end Go.Proofs.Ytaflinfpmbfieaa
namespace Go.Proofs.Ytaflinfpmbfieaa
open Go.RowKit
set_option maxHeartbeats 1000000
set_option maxRecDepth 100000
noncomputable def SendC : Ctr := spec (fun i : En × Nat × Lt => [.ptr 0 0, LtA i.2.2]) (fun i => EndH i.1) (fun i => InvE i.2.1 i.1 ∧ Small i.2.2) (fun i => LtA (sendL i.1 i.2.2)) fun i => EndH (sendE i.1 i.2.2)
theorem send_body (P : Program) (hown : FnOk P 44 OwnC) : BodyOk P x31 SendC := by
  intro args H K hc
  obtain ⟨⟨E, M, l⟩, rfl, rfl, ⟨hi, hs⟩, hK⟩ := hc
  refine ⟨Nat.le_of_ble_eq_true rfl, ?_⟩
  dsimp only at hi hs hK ⊢
  have hst := stamp_small hi hs
  obtain ⟨self, other, out, wait, sent, got, sure, owes⟩ := E
  obtain ⟨frm, to, number, kind, ack, deal, text, party, index, day, cur, amt, docs, boxes⟩ := l
  have h0 : (out.length : Int) ≤ sent := hi.sent0
  have h1 : sent ≤ 1052672 := hi.sent1
  have h2 : out.length ≤ 4096 := hi.outL
  rw [sendL, sendE] at hK
  cbv; repeat' ((first | refine .e ?_ | refine .n fun h => ?_ | refine .y fun h => ?_ | refine .q fun z hz hz0 hz1 => ?_ | refine .mk (fun h => ?_) fun h => ?_ | refine .k fun z hz => ?_ | refine .o ?_ | refine .l fun ys hys hyl => ?_ | refine .zl fun zs hzs hzl => ?_ | refine .u fun u hu hul => ?_ | refine .z fun zs hzs => ?_ | refine .mk (fun h => ?_) ?_ | refine .ms fun ms hms => ?_ | refine .s fun s hs hsl => ?_ | refine And.intro ?_ ?_) <;> cbv)
  rotate_left 3
  · refine callG_spec0 hown _ ⟨_, by rw [hz]; rfl, hst⟩ rfl rfl rfl ?_
    cbv; repeat' ((first | refine .e ?_ | refine .n fun h => ?_ | refine .y fun h => ?_ | refine .q fun z hz hz0 hz1 => ?_ | refine .mk (fun h => ?_) fun h => ?_ | refine .k fun z hz => ?_ | refine .o ?_ | refine .l fun ys hys hyl => ?_ | refine .zl fun zs hzs hzl => ?_ | refine .u fun u hu hul => ?_ | refine .z fun zs hzs => ?_ | refine .mk (fun h => ?_) ?_ | refine .ms fun ms hms => ?_ | refine .s fun s hs hsl => ?_ | refine And.intro ?_ ?_) <;> cbv)
    refine callG_spec0 hown _ ⟨_, by rw [hz]; rfl, hst⟩ rfl rfl rfl ?_
    cbv; repeat' ((first | refine .e ?_ | refine .n fun h => ?_ | refine .y fun h => ?_ | refine .q fun z hz hz0 hz1 => ?_ | refine .mk (fun h => ?_) fun h => ?_ | refine .k fun z hz => ?_ | refine .o ?_ | refine .l fun ys hys hyl => ?_ | refine .zl fun zs hzs hzl => ?_ | refine .u fun u hu hul => ?_ | refine .z fun zs hzs => ?_ | refine .mk (fun h => ?_) ?_ | refine .ms fun ms hms => ?_ | refine .s fun s hs hsl => ?_ | refine And.intro ?_ ?_) <;> cbv)
    refine ⟨⟨_, Gh.refl _, ?_⟩⟩
    cbv
    rw [if_neg (by unfold noSend; ((try simp only [vn] at *) <;> omega)), if_neg (by unfold noSend; ((try simp only [vn] at *) <;> omega)), EndH] at hK
    rw [mapA_app, mapA_one] at hK
    subst hzs hz
    exact .inl (CutK.pre _ rfl (Nat.le_of_ble_eq_true rfl) rfl rfl (Le.refl _) (LeH.refl _) hK)
  all_goals
    rw [if_pos (by unfold noSend; ((try simp only [vn] at *) <;> omega)), if_pos (by unfold noSend; ((try simp only [vn] at *) <;> omega))] at hK
    refine ⟨⟨_, Gh.refl _, ?_⟩⟩
    cbv
    refine .inl (CutK.pre (EndH _) rfl (Nat.le_of_ble_eq_true rfl) rfl rfl (.one (.agg ?_)) (LeH.refl _) hK)
    repeat' (first | exact LeL.nil | exact LeL0.nil | exact LeH.nil | exact LeE.refl _ | exact Le.refl _ | exact Le0.one (.refl _) | exact Le0.one (.nil _) | exact Le1.refl _ | exact Le1.nil _ | refine LeH.cons ?_ ?_ | refine LeE.row ?_ | refine LeE.blk ?_ | refine LeL0.cons ?_ ?_ | refine LeL.cons ?_ ?_ | refine Le0.agg ?_ | refine Le.tup ?_ | exact Le.one (.one (.nil _)) | refine Le.one (.agg ?_))
noncomputable def AckC : Ctr := spec (fun i : Value × En × Nat => [.rp (RoEnd i.1 i.2.1) 0]) (fun _ => []) (fun i => InvE i.2.2 i.2.1) (fun i => (.i i.2.1.sure)) fun _ => []
theorem ack_body (P : Program) : BodyOk P x18 AckC := by
  intro args H K hc
  obtain ⟨⟨x, E, M⟩, rfl, rfl, hi, hK⟩ := hc
  refine ⟨Nat.le_of_ble_eq_true rfl, ?_⟩
  dsimp only at hi hK ⊢
  obtain ⟨self, other, out, wait, sent, got, sure, owes⟩ := E
  have h0 : (out.length : Int) ≤ sent := hi.sent0
  have h1 : sent ≤ 1052672 := hi.sent1
  have h2 : out.length ≤ 4096 := hi.outL
  cbv; repeat' ((first | refine .e ?_ | refine .n fun h => ?_ | refine .y fun h => ?_ | refine .q fun z hz hz0 hz1 => ?_ | refine .mk (fun h => ?_) fun h => ?_ | refine .k fun z hz => ?_ | refine .o ?_ | refine .l fun ys hys hyl => ?_ | refine .zl fun zs hzs hzl => ?_ | refine .u fun u hu hul => ?_ | refine .z fun zs hzs => ?_ | refine .mk (fun h => ?_) ?_ | refine .ms fun ms hms => ?_ | refine .s fun s hs hsl => ?_ | refine And.intro ?_ ?_) <;> cbv)
  exact ⟨⟨_, Gh.refl _, .inl (CutK.val rfl (Le.refl _) hK)⟩⟩
noncomputable def SentC : Ctr := spec (fun i : Value × En × Nat => [.rp (RoEnd i.1 i.2.1) 0]) (fun _ => []) (fun i => InvE i.2.2 i.2.1) (fun i => (.i i.2.1.sent)) fun _ => []
theorem sent_body (P : Program) : BodyOk P x42 SentC := by
  intro args H K hc
  obtain ⟨⟨x, E, M⟩, rfl, rfl, hi, hK⟩ := hc
  refine ⟨Nat.le_of_ble_eq_true rfl, ?_⟩
  dsimp only at hi hK ⊢
  obtain ⟨self, other, out, wait, sent, got, sure, owes⟩ := E
  have h0 : (out.length : Int) ≤ sent := hi.sent0
  have h1 : sent ≤ 1052672 := hi.sent1
  have h2 : out.length ≤ 4096 := hi.outL
  cbv; repeat' ((first | refine .e ?_ | refine .n fun h => ?_ | refine .y fun h => ?_ | refine .q fun z hz hz0 hz1 => ?_ | refine .mk (fun h => ?_) fun h => ?_ | refine .k fun z hz => ?_ | refine .o ?_ | refine .l fun ys hys hyl => ?_ | refine .zl fun zs hzs hzl => ?_ | refine .u fun u hu hul => ?_ | refine .z fun zs hzs => ?_ | refine .mk (fun h => ?_) ?_ | refine .ms fun ms hms => ?_ | refine .s fun s hs hsl => ?_ | refine And.intro ?_ ?_) <;> cbv)
  exact ⟨⟨_, Gh.refl _, .inl (CutK.val rfl (Le.refl _) hK)⟩⟩
noncomputable def GotC : Ctr := spec (fun i : Value × En × Nat => [.rp (RoEnd i.1 i.2.1) 0]) (fun _ => []) (fun i => InvE i.2.2 i.2.1) (fun i => (.i i.2.1.got)) fun _ => []
theorem got_body (P : Program) : BodyOk P x15 GotC := by
  intro args H K hc
  obtain ⟨⟨x, E, M⟩, rfl, rfl, hi, hK⟩ := hc
  refine ⟨Nat.le_of_ble_eq_true rfl, ?_⟩
  dsimp only at hi hK ⊢
  obtain ⟨self, other, out, wait, sent, got, sure, owes⟩ := E
  have h0 : (out.length : Int) ≤ sent := hi.sent0
  have h1 : sent ≤ 1052672 := hi.sent1
  have h2 : out.length ≤ 4096 := hi.outL
  cbv; repeat' ((first | refine .e ?_ | refine .n fun h => ?_ | refine .y fun h => ?_ | refine .q fun z hz hz0 hz1 => ?_ | refine .mk (fun h => ?_) fun h => ?_ | refine .k fun z hz => ?_ | refine .o ?_ | refine .l fun ys hys hyl => ?_ | refine .zl fun zs hzs hzl => ?_ | refine .u fun u hu hul => ?_ | refine .z fun zs hzs => ?_ | refine .mk (fun h => ?_) ?_ | refine .ms fun ms hms => ?_ | refine .s fun s hs hsl => ?_ | refine And.intro ?_ ?_) <;> cbv)
  exact ⟨⟨_, Gh.refl _, .inl (CutK.val rfl (Le.refl _) hK)⟩⟩
noncomputable def InAckedC : Ctr := spec (fun i : Value × En × Nat × Int => [.rp (RoEnd i.1 i.2.1) 0]) (fun _ => []) (fun i => InvE i.2.2.1 i.2.1 ∧ i.2.2.2 = i.2.1.sent - i.2.1.out.length) (fun i => .i i.2.2.2) fun _ => []
theorem inAcked_body (P : Program) : BodyOk P x33 InAckedC := by
  intro args H K hc
  obtain ⟨⟨x, E, M, q⟩, rfl, rfl, ⟨hi, hq⟩, hK⟩ := hc
  refine ⟨Nat.le_of_ble_eq_true rfl, ?_⟩
  dsimp only at hi hq hK ⊢
  obtain ⟨self, other, out, wait, sent, got, sure, owes⟩ := E
  have h0 : (out.length : Int) ≤ sent := hi.sent0
  have h1 : sent ≤ 1052672 := hi.sent1
  have h2 : out.length ≤ 4096 := hi.outL
  cbv; repeat' ((first | refine .e ?_ | refine .n fun h => ?_ | refine .y fun h => ?_ | refine .q fun z hz hz0 hz1 => ?_ | refine .mk (fun h => ?_) fun h => ?_ | refine .k fun z hz => ?_ | refine .o ?_ | refine .l fun ys hys hyl => ?_ | refine .zl fun zs hzs hzl => ?_ | refine .u fun u hu hul => ?_ | refine .z fun zs hzs => ?_ | refine .mk (fun h => ?_) ?_ | refine .ms fun ms hms => ?_ | refine .s fun s hs hsl => ?_ | refine And.intro ?_ ?_) <;> cbv)
  rename_i z' hz'
  obtain rfl : z = q := by ((try simp only [vn] at *) <;> omega)
  exact ⟨⟨_, Gh.refl _, .inl (CutK.val rfl (Le.refl _) hK)⟩⟩
noncomputable def IsOwnC : Ctr := spec (fun i : Value × En × Nat × Lt => [.rp (RoEnd i.1 i.2.1) 0, LtA i.2.2.2]) (fun _ => []) (fun i => InvE i.2.2.1 i.2.1) (fun i => .bl (decide (OwnL i.2.1 i.2.2.2))) fun _ => []
theorem isOwn_body (P : Program) : BodyOk P x43 IsOwnC := by
  intro args H K hc
  obtain ⟨⟨x, E, M, l⟩, rfl, rfl, hi, hK⟩ := hc
  refine ⟨Nat.le_of_ble_eq_true rfl, ?_⟩
  dsimp only at hi hK ⊢
  obtain ⟨self, other, out, wait, sent, got, sure, owes⟩ := E
  obtain ⟨frm, to, number, kind, ack, deal, text, party, index, day, cur, amt, docs, boxes⟩ := l
  cbv; repeat' ((first | refine .e ?_ | refine .n fun h => ?_ | refine .y fun h => ?_ | refine .q fun z hz hz0 hz1 => ?_ | refine .mk (fun h => ?_) fun h => ?_ | refine .k fun z hz => ?_ | refine .o ?_ | refine .l fun ys hys hyl => ?_ | refine .zl fun zs hzs hzl => ?_ | refine .u fun u hu hul => ?_ | refine .z fun zs hzs => ?_ | refine .mk (fun h => ?_) ?_ | refine .ms fun ms hms => ?_ | refine .s fun s hs hsl => ?_ | refine And.intro ?_ ?_) <;> cbv)
  all_goals
    refine ⟨⟨_, Gh.refl _, .inl (CutK.val rfl (Le.refl _) ?_)⟩⟩
    cbv
    first
    | (rw [decide_eq_true (by unfold OwnL; dsimp only; refine ⟨?_, ?_, ?_, ?_, ?_, ?_⟩ <;> first | assumption | omega)] at hK; exact hK)
    | (rw [decide_eq_false (by unfold OwnL; dsimp only; rintro ⟨a1, a2, a3, a4, a5, a6⟩; first | contradiction | omega)] at hK; exact hK)
noncomputable def SureC : Ctr := spec (fun i : En × Nat × Int => [.ptr 0 0, .i i.2.2]) (fun i => EndH i.1) (fun i => InvE i.2.1 i.1) (fun i => .i (sureN i.1 i.2.2)) fun i => EndH (sureE i.1 i.2.2)
theorem sure_body (P : Program) : BodyOk P x14 SureC := by
  intro args H K hc
  obtain ⟨⟨E, M, n⟩, rfl, rfl, hi, hK⟩ := hc
  refine ⟨Nat.le_of_ble_eq_true rfl, ?_⟩
  dsimp only at hi hK ⊢
  obtain ⟨self, other, out, wait, sent, got, sure, owes⟩ := E
  rw [sureN, sureE] at hK
  dsimp only at hK
  cbv; repeat' ((first | refine .e ?_ | refine .n fun h => ?_ | refine .y fun h => ?_ | refine .q fun z hz hz0 hz1 => ?_ | refine .mk (fun h => ?_) fun h => ?_ | refine .k fun z hz => ?_ | refine .o ?_ | refine .l fun ys hys hyl => ?_ | refine .zl fun zs hzs hzl => ?_ | refine .u fun u hu hul => ?_ | refine .z fun zs hzs => ?_ | refine .mk (fun h => ?_) ?_ | refine .ms fun ms hms => ?_ | refine .s fun s hs hsl => ?_ | refine And.intro ?_ ?_) <;> cbv)
  · rw [← hz, if_pos h, if_pos h] at hK
    refine ⟨⟨_, Gh.refl _, ?_⟩⟩
    cbv
    exact .inl (CutK.pre (EndH _) rfl (Nat.le_of_ble_eq_true rfl) rfl rfl (Le.refl _) (LeH.refl _) hK)
  · rw [← hz, if_neg (by omega), if_neg (by omega)] at hK
    refine ⟨⟨_, Gh.refl _, ?_⟩⟩
    cbv
    exact .inl (CutK.pre (EndH _) rfl (Nat.le_of_ble_eq_true rfl) rfl rfl (Le.refl _) (LeH.refl _) hK)
end Go.Proofs.Ytaflinfpmbfieaa
namespace Go.Proofs.Ytaflinfpmbfieaa
open Go.RowKit
set_option maxHeartbeats 1000000
set_option maxRecDepth 100000
noncomputable def PartsC : Ctr := spec (fun _ : En × Nat × Int => [.ptr 0 0]) (fun i => EndH i.1) (fun i => InvE i.2.1 i.1 ∧ i.2.2 = i.1.sent - i.1.out.length) (fun i => .tup [.sl 14 (mapA LtA i.1.out), .i i.2.2, .i i.1.got]) fun i => EndH i.1
theorem parts_body (P : Program) (howns : FnOk P 32 OwnsR) (hacked : FnOk P 33 InAckedC) : BodyOk P x16 PartsC := by
  intro args H K hc
  obtain ⟨⟨E, M, q⟩, rfl, rfl, ⟨hi, hq⟩, hK⟩ := hc
  refine ⟨Nat.le_of_ble_eq_true rfl, ?_⟩
  dsimp only at hi hq hK ⊢
  obtain ⟨self, other, out, wait, sent, got, sure, owes⟩ := E
  have h2 : out.length ≤ 4096 := hi.outL
  have h3 : ∀ l ∈ out, Small l := hi.outS
  cbv; repeat' ((first | refine .e ?_ | refine .n fun h => ?_ | refine .y fun h => ?_ | refine .q fun z hz hz0 hz1 => ?_ | refine .mk (fun h => ?_) fun h => ?_ | refine .k fun z hz => ?_ | refine .o ?_ | refine .l fun ys hys hyl => ?_ | refine .zl fun zs hzs hzl => ?_ | refine .u fun u hu hul => ?_ | refine .z fun zs hzs => ?_ | refine .mk (fun h => ?_) ?_ | refine .ms fun ms hms => ?_ | refine .s fun s hs hsl => ?_ | refine And.intro ?_ ?_) <;> cbv)
  refine callG_new howns out ⟨by omega, h3⟩ rfl rfl ?_
  cbv; repeat' ((first | refine .e ?_ | refine .n fun h => ?_ | refine .y fun h => ?_ | refine .q fun z hz hz0 hz1 => ?_ | refine .mk (fun h => ?_) fun h => ?_ | refine .k fun z hz => ?_ | refine .o ?_ | refine .l fun ys hys hyl => ?_ | refine .zl fun zs hzs hzl => ?_ | refine .u fun u hu hul => ?_ | refine .z fun zs hzs => ?_ | refine .mk (fun h => ?_) ?_ | refine .ms fun ms hms => ?_ | refine .s fun s hs hsl => ?_ | refine And.intro ?_ ?_) <;> cbv)
  refine callG_ro hacked 0 (rest := []) (fun x => (x 6, ⟨self, other, out, wait, sent, got, sure, owes⟩, M, q)) rfl rfl rfl rfl (fun _ => rfl) (fun x hx => ⟨rfl, ⟨hi, hq⟩, ?_⟩)
  cbv; repeat' ((first | refine .e ?_ | refine .n fun h => ?_ | refine .y fun h => ?_ | refine .q fun z hz hz0 hz1 => ?_ | refine .mk (fun h => ?_) fun h => ?_ | refine .k fun z hz => ?_ | refine .o ?_ | refine .l fun ys hys hyl => ?_ | refine .zl fun zs hzs hzl => ?_ | refine .u fun u hu hul => ?_ | refine .z fun zs hzs => ?_ | refine .mk (fun h => ?_) ?_ | refine .ms fun ms hms => ?_ | refine .s fun s hs hsl => ?_ | refine And.intro ?_ ?_) <;> cbv)
  refine ⟨⟨_, Gh.publish 3 rfl, ?_⟩⟩
  cbv
  exact .inr (CutK.pre (EndH _) rfl (Nat.le_of_ble_eq_true rfl) rfl rfl (Le.refl _) (LeH.refl _) hK)
noncomputable def AckedC : Ctr := spec (fun i : En × Nat × Int => [.ptr 0 0, .i i.2.2]) (fun i => EndH i.1) (fun i => InvE i.2.1 i.1 ∧ i64 i.2.2) (fun i => .i (ackedN i.1 i.2.2)) fun i => EndH (ackedE i.1 i.2.2)
theorem acked_body (P : Program) (hclone : FnOk P 48 (CloneR 40 14 192)) (hacked : FnOk P 33 InAckedC) : BodyOk P x40 AckedC := by
  intro args H K hc
  obtain ⟨⟨E, M, n⟩, rfl, rfl, ⟨hi, hn⟩, hK⟩ := hc
  refine ⟨Nat.le_of_ble_eq_true rfl, ?_⟩
  dsimp only at hi hn hK ⊢
  unfold i64 at hn
  have hN := hi.ackedN n
  have hD := hi.drop n
  have hack : ackK E n = min (n - (E.sent - E.out.length)).toNat E.out.length := rfl
  obtain ⟨q, hq⟩ : ∃ q, q = E.sent - E.out.length := ⟨_, rfl⟩
  rw [← hq] at hack
  have hEE : ackedE E n = { E with out := (ackedE E n).out } := rfl
  rw [hN, hEE, hD, hack] at hK
  obtain ⟨self, other, out, wait, sent, got, sure, owes⟩ := E
  have h2 : out.length ≤ 4096 := hi.outL
  have h0 : (out.length : Int) ≤ sent := hi.sent0
  have h1 : sent ≤ 1052672 := hi.sent1
  dsimp only at hq hK
  cbv; repeat' ((first | refine .e ?_ | refine .n fun h => ?_ | refine .y fun h => ?_ | refine .q fun z hz hz0 hz1 => ?_ | refine .mk (fun h => ?_) fun h => ?_ | refine .k fun z hz => ?_ | refine .o ?_ | refine .l fun ys hys hyl => ?_ | refine .zl fun zs hzs hzl => ?_ | refine .u fun u hu hul => ?_ | refine .z fun zs hzs => ?_ | refine .mk (fun h => ?_) ?_ | refine .ms fun ms hms => ?_ | refine .s fun s hs hsl => ?_ | refine And.intro ?_ ?_) <;> cbv)
  refine callG_ro hacked 0 (rest := []) (fun x => (x 6, ⟨self, other, out, wait, sent, got, sure, owes⟩, M, q)) rfl rfl rfl rfl (fun _ => rfl) (fun x hx => ⟨rfl, ⟨hi, hq⟩, ?_⟩)
  cbv; repeat' ((first | refine .e ?_ | refine .n fun h => ?_ | refine .y fun h => ?_ | refine .q fun z hz hz0 hz1 => ?_ | refine .mk (fun h => ?_) fun h => ?_ | refine .k fun z hz => ?_ | refine .o ?_ | refine .l fun ys hys hyl => ?_ | refine .zl fun zs hzs hzl => ?_ | refine .u fun u hu hul => ?_ | refine .z fun zs hzs => ?_ | refine .mk (fun h => ?_) ?_ | refine .ms fun ms hms => ?_ | refine .s fun s hs hsl => ?_ | refine And.intro ?_ ?_) <;> cbv)
  · have e0 : min (n - q).toNat out.length = 0 := by omega
    rw [e0] at hK
    exact ⟨⟨_, Gh.refl _, .inl (CutK.pre (EndH _) rfl (Nat.le_of_ble_eq_true rfl) rfl rfl (Le.refl _) (LeH.refl _) hK)⟩⟩
  refine callG_ro hacked 0 (rest := []) (fun x => (x 6, ⟨self, other, out, wait, sent, got, sure, owes⟩, M, q)) rfl rfl rfl rfl (fun _ => rfl) (fun x hx => ⟨rfl, ⟨hi, hq⟩, ?_⟩)
  cbv; repeat' ((first | refine .e ?_ | refine .n fun h => ?_ | refine .y fun h => ?_ | refine .q fun z hz hz0 hz1 => ?_ | refine .mk (fun h => ?_) fun h => ?_ | refine .k fun z hz => ?_ | refine .o ?_ | refine .l fun ys hys hyl => ?_ | refine .zl fun zs hzs hzl => ?_ | refine .u fun u hu hul => ?_ | refine .z fun zs hzs => ?_ | refine .mk (fun h => ?_) ?_ | refine .ms fun ms hms => ?_ | refine .s fun s hs hsl => ?_ | refine And.intro ?_ ?_) <;> cbv)
  obtain ⟨k, hk⟩ : ∃ k, k = min (n - q).toNat out.length := ⟨_, rfl⟩
  rw [← hk] at hK
  have hzk : z = k := by ((try simp only [vn] at *) <;> omega)
  obtain ⟨od, hod⟩ : ∃ od, od = out.drop k := ⟨_, rfl⟩
  rw [← hod] at hK
  obtain rfl : ys = od := by
    rw [hys, hod]
    dsimp only [Option.getD]
    rw [hzk, Int.toNat_natCast, Int.toNat_natCast, List.take_of_length_le (Nat.le_refl _)]
  have hdl : ys.length ≤ 4096 := by rw [hod, List.length_drop]; omega
  refine callG_new hclone _ (by constructor <;> ((try unfold maxLen); (try simp only [vn] at *) <;> omega)) rfl rfl ?_
  cbv; repeat' ((first | refine .e ?_ | refine .n fun h => ?_ | refine .y fun h => ?_ | refine .q fun z hz hz0 hz1 => ?_ | refine .mk (fun h => ?_) fun h => ?_ | refine .k fun z hz => ?_ | refine .o ?_ | refine .l fun ys hys hyl => ?_ | refine .zl fun zs hzs hzl => ?_ | refine .u fun u hu hul => ?_ | refine .z fun zs hzs => ?_ | refine .mk (fun h => ?_) ?_ | refine .ms fun ms hms => ?_ | refine .s fun s hs hsl => ?_ | refine And.intro ?_ ?_) <;> cbv)
  refine ⟨⟨_, Gh.publish 3 rfl, ?_⟩⟩
  cbv
  rw [← hzk] at hK
  exact .inl ⟨⟨[0, 3, 2], .int .i64 z, EndH ⟨self, other, ys, wait, sent, got, sure, owes⟩, _, _, rfl, rfl, by decide, rfl, Nat.le_of_ble_eq_true rfl, rfl, rfl, Le.refl _, LeH.refl _, hK⟩⟩
end Go.Proofs.Ytaflinfpmbfieaa
namespace Go.Proofs.Ytaflinfpmbfieaa
open Go.RowKit
set_option maxHeartbeats 1000000
set_option maxRecDepth 100000
theorem findA_int {α : Type} (f : α → Int) (g : α → AV) (k : Int) : ∀ (l : List α) (i : Nat), findA (.int .i64 k) (mapA (fun x => (.int .i64 (f x), g x)) l) i = some ((l.findIdx? fun x => decide (f x = k)).map (· + i))
  | [], i => rfl
  | x :: l, i => by
    have e : mapA (fun x => (AV.int .i64 (f x), g x)) (x :: l) = (.int .i64 (f x), g x) :: mapA (fun x => (AV.int .i64 (f x), g x)) l := rfl
    rw [e, List.findIdx?_cons]
    unfold findA
    by_cases h : f x = k
    · have h2 : keyIs (.int .i64 k) (.int .i64 (f x)) = some true := by simp [keyIs, h]
      simp only [h2]
      simp [h]
    · have h3 : ¬ k = f x := fun e => h e.symm
      have h2 : keyIs (.int .i64 k) (.int .i64 (f x)) = some false := by simp [keyIs, h3]
      simp only [h2, findA_int f g k l (i + 1), h, decide_false, Bool.false_eq_true, if_false, Option.map_map]
      congr 1
      cases (l.findIdx? fun x => decide (f x = k)) with
      | none => rfl
      | some n => simp; omega
theorem mapA_erase {α β : Type} (f : α → β) (l : List α) (i : Nat) : (mapA f l).eraseIdx i = mapA f (l.eraseIdx i) := by rw [mapA_eq, mapA_eq]; exact (map_erase_ f l i).symm
theorem findA_wait (w : List Lt) (k : Int) : findA (.int .i64 k) (mapA (fun l => (AV.int .i64 l.number, LtA l)) w) 0 = some (at_ w k) := by
  rw [findA_int (fun l : Lt => l.number) LtA]
  unfold at_
  cases (w.findIdx? fun x => decide (x.number = k)) <;> rfl
/-- A lookup among the letters that wait. -/
theorem find_wait {w : List Lt} {k : Int} {K : Option (Nat × AV) → Prop} (hs : ∀ i y, at_ w k = some i → w[i]? = some y → K (some (i, LtA y))) (hn : at_ w k = none → K none) : FindK (.int .i64 k) (mapA (fun l => (AV.int .i64 l.number, LtA l)) w) K := by
  refine ⟨?_⟩
  cases h : at_ w k with
  | some i =>
    obtain ⟨hi, _⟩ := at_some h
    exact .inl ⟨i, _, LtA w[i], by rw [findA_wait, h], mapA_get _ _ hi, hs i _ h (List.getElem?_eq_getElem hi)⟩
  | none => exact .inr ⟨by rw [findA_wait, h], hn h⟩
def junk (e : Ent) : Prop := bndE 8 e = true ∧ Ent.kill 7 .any e = e
theorem bndH_junk {a b c d3 d4 d5 d6 e : Ent} (b3 : bndE 8 d3 = true) (b4 : bndE 8 d4 = true) (b5 : bndE 8 d5 = true) (b6 : bndE 8 d6 = true) (ha : bndE 8 a = true) (hb : bndE 8 b = true) (hc : bndE 8 c = true) (he : bndE 8 e = true) : bndH [a, b, c, d3, d4, d5, d6, e].length [a, b, c, d3, d4, d5, d6, e] = true := by
  show bndH 8 [a, b, c, d3, d4, d5, d6, e] = true
  simp only [bndH, ha, hb, hc, he, b3, b4, b5, b6, Bool.and_true]
noncomputable def TakeC : Ctr := spec (fun i : En × Nat × Lt => [.ptr 0 0, LtA i.2.2]) (fun i => EndH i.1) (fun i => InvE i.2.1 i.1 ∧ Small i.2.2 ∧ i.2.1 ≤ 1060000) (fun i => .tup [.sl 14 (mapA LtA (takeR i.1 i.2.2).2), .bl (decide (OwnL i.1 i.2.2))]) fun i => EndH (takeR i.1 i.2.2).1
theorem take_body (P : Program) (hisOwn : FnOk P 43 IsOwnC) (hacked : FnOk P 40 AckedC) (hown : FnOk P 44 OwnC) : BodyOk P x26 TakeC := by
  intro args H K hc
  obtain ⟨⟨E, M, l⟩, rfl, rfl, ⟨hi, hs, hM⟩, hK⟩ := hc
  refine ⟨Nat.le_of_ble_eq_true rfl, ?_⟩
  dsimp only at hi hs hM hK ⊢
  have hEE : ackedE E l.ack = { E with out := (ackedE E l.ack).out } := rfl
  have hia := hi.acked l.ack
  obtain ⟨od, hod⟩ : ∃ od, od = (ackedE E l.ack).out := ⟨_, rfl⟩
  rw [← hod] at hEE
  obtain ⟨na, hna⟩ : ∃ na, na = ackedN E l.ack := ⟨_, rfl⟩
  obtain ⟨b, hb⟩ : ∃ b, b = decide (OwnL E l) := ⟨_, rfl⟩
  rw [← hb] at hK
  have hg0 := hi.got0
  have hgM := hi.gotM
  have hnum := hs.number
  unfold i64 at hnum
  obtain ⟨self, other, out, wait, sent, got, sure, owes⟩ := E
  obtain ⟨frm, to, number, kind, ack, deal, text, party, index, day, cur, amt, docs, boxes⟩ := l
  cbv; repeat' ((first | refine .e ?_ | refine .n fun h => ?_ | refine .y fun h => ?_ | refine .q fun z hz hz0 hz1 => ?_ | refine .mk (fun h => ?_) fun h => ?_ | refine .k fun z hz => ?_ | refine .o ?_ | refine .l fun ys hys hyl => ?_ | refine .zl fun zs hzs hzl => ?_ | refine .u fun u hu hul => ?_ | refine .z fun zs hzs => ?_ | refine .mk (fun h => ?_) ?_ | refine .ms fun ms hms => ?_ | refine .s fun s hs hsl => ?_ | refine And.intro ?_ ?_) <;> cbv)
  dsimp only at hg0 hgM hnum
  obtain ⟨R, hR⟩ : ∃ R, R = pull (wait.length + 1) ⟨self, other, od, wait ++ [⟨frm, to, number, kind, ack, deal, text, party, index, day, cur, amt, docs, boxes⟩], sent, got, sure, true⟩ [] := ⟨_, rfl⟩
  refine xscope 0 (fun p : { p : Nat × Int × List Lt × List Lt × Ent × Ent × Ent × Ent // p.1 = p.2.2.1.length ∧ 0 ≤ p.2.1 ∧ p.2.1 + p.2.2.1.length ≤ M + 1 ∧ (p.2.2.2.1.length : Int) ≤ p.2.1 ∧ pull p.1 ⟨self, other, od, p.2.2.1, sent, p.2.1, sure, true⟩ p.2.2.2.1 = R ∧ junk p.2.2.2.2.1 ∧ junk p.2.2.2.2.2.1 ∧ junk p.2.2.2.2.2.2.1 ∧ junk p.2.2.2.2.2.2.2 ∧ b = true ∧ takeR ⟨self, other, out, wait, sent, got, sure, owes⟩ ⟨frm, to, number, kind, ack, deal, text, party, index, day, cur, amt, docs, boxes⟩ = R } =>
    ⟨[(8, .hd 7), (0, .ptr 0 0)], [.blk 73 [.str self, .str other, .hd 1, .i sent, .i p.1.2.1, .i sure, .hd 2, .bl true], .tip 40 14 (mapA LtA od), .map 71 (mapA (fun l => (.i l.number, LtA l)) p.1.2.2.1), p.1.2.2.2.2.1, p.1.2.2.2.2.2.1, p.1.2.2.2.2.2.2.1, p.1.2.2.2.2.2.2.2, .row 40 14 (mapA LtA p.1.2.2.2.1)]⟩) (fun p => lft p.1.1 0) rfl ?_ ?_
  · cbv; repeat' ((first | refine .e ?_ | refine .n fun h => ?_ | refine .y fun h => ?_ | refine .q fun z hz hz0 hz1 => ?_ | refine .mk (fun h => ?_) fun h => ?_ | refine .k fun z hz => ?_ | refine .o ?_ | refine .l fun ys hys hyl => ?_ | refine .zl fun zs hzs hzl => ?_ | refine .u fun u hu hul => ?_ | refine .z fun zs hzs => ?_ | refine .mk (fun h => ?_) ?_ | refine .ms fun ms hms => ?_ | refine .s fun s hs hsl => ?_ | refine And.intro ?_ ?_) <;> cbv)
    refine callG_ro hisOwn 0 (fun x => (x 6, ⟨self, other, out, wait, sent, got, sure, owes⟩, M, ⟨frm, to, number, kind, ack, deal, text, party, index, day, cur, amt, docs, boxes⟩)) rfl rfl rfl rfl (fun _ => rfl) (fun x hx => ⟨rfl, hi, ?_⟩)
    dsimp only
    rw [← hb]
    cases b with
    | false =>
      cbv; repeat' ((first | refine .e ?_ | refine .n fun h => ?_ | refine .y fun h => ?_ | refine .q fun z hz hz0 hz1 => ?_ | refine .mk (fun h => ?_) fun h => ?_ | refine .k fun z hz => ?_ | refine .o ?_ | refine .l fun ys hys hyl => ?_ | refine .zl fun zs hzs hzl => ?_ | refine .u fun u hu hul => ?_ | refine .z fun zs hzs => ?_ | refine .mk (fun h => ?_) ?_ | refine .ms fun ms hms => ?_ | refine .s fun s hs hsl => ?_ | refine And.intro ?_ ?_) <;> cbv)
      have hno : ¬ OwnL _ _ := of_decide_eq_false hb.symm
      rw [takeR, if_pos hno] at hK
      refine ⟨⟨_, Gh.refl _, .inl (CutK.pre (EndH _) rfl (Nat.le_of_ble_eq_true rfl) rfl rfl (.tup (.cons (.one (.nil _)) (.cons (.one (.refl _)) .nil))) (LeH.refl _) hK)⟩⟩
    | true =>
      have hyes : OwnL _ _ := of_decide_eq_true hb.symm
      rw [takeR, if_neg (fun h => h hyes)] at hK
      cbv; repeat' ((first | refine .e ?_ | refine .n fun h => ?_ | refine .y fun h => ?_ | refine .q fun z hz hz0 hz1 => ?_ | refine .mk (fun h => ?_) fun h => ?_ | refine .k fun z hz => ?_ | refine .o ?_ | refine .l fun ys hys hyl => ?_ | refine .zl fun zs hzs hzl => ?_ | refine .u fun u hu hul => ?_ | refine .z fun zs hzs => ?_ | refine .mk (fun h => ?_) ?_ | refine .ms fun ms hms => ?_ | refine .s fun s hs hsl => ?_ | refine And.intro ?_ ?_) <;> cbv)
      refine callG_spec hacked (⟨self, other, out, wait, sent, got, sure, owes⟩, M, ack) [0, 1, 2] ⟨hi, hs.ack⟩ rfl rfl (by decide) rfl rfl rfl rfl rfl ?_
      dsimp only
      rw [hEE, ← hna]
      cbv; repeat' ((first | refine .e ?_ | refine .n fun h => ?_ | refine .y fun h => ?_ | refine .q fun z hz hz0 hz1 => ?_ | refine .mk (fun h => ?_) fun h => ?_ | refine .k fun z hz => ?_ | refine .o ?_ | refine .l fun ys hys hyl => ?_ | refine .zl fun zs hzs hzl => ?_ | refine .u fun u hu hul => ?_ | refine .z fun zs hzs => ?_ | refine .mk (fun h => ?_) ?_ | refine .ms fun ms hms => ?_ | refine .s fun s hs hsl => ?_ | refine And.intro ?_ ?_) <;> cbv)
      · rw [if_pos h, hEE] at hK
        exact ⟨⟨_, Gh.refl _, .inl (CutK.pre (EndH _) rfl (Nat.le_of_ble_eq_true rfl) rfl rfl (.tup (.cons (.one (.nil _)) (.cons (.one (.refl _)) .nil))) (LeH.refl _) hK)⟩⟩
      · rw [if_neg ‹_›, if_pos (.inl h), heard, hEE] at hK
        exact ⟨⟨_, Gh.refl _, .inl (CutK.pre (EndH _) rfl (Nat.le_of_ble_eq_true rfl) rfl rfl (.tup (.cons (.one (.nil _)) (.cons (.one (.refl _)) .nil))) (LeH.refl _) hK)⟩⟩
      have hn1 : 1 ≤ number := hyes.2.2.2.2.2 ‹_›
      · rw [if_neg ‹_›, if_pos (.inr (.inl (by rw [← hz]; exact h))), heard, hEE] at hK
        exact ⟨⟨_, Gh.refl _, .inl (CutK.pre (EndH _) rfl (Nat.le_of_ble_eq_true rfl) rfl rfl (.tup (.cons (.one (.nil _)) (.cons (.one (.refl _)) .nil))) (LeH.refl _) hK)⟩⟩
      refine find_wait (fun i y hai hy => ?_) (fun hai => ?_)
      · obtain ⟨frm2, to2, number2, kind2, ack2, deal2, text2, party2, index2, day2, cur2, amt2, docs2, boxes2⟩ := y
        cbv; repeat' ((first | refine .e ?_ | refine .n fun h => ?_ | refine .y fun h => ?_ | refine .q fun z hz hz0 hz1 => ?_ | refine .mk (fun h => ?_) fun h => ?_ | refine .k fun z hz => ?_ | refine .o ?_ | refine .l fun ys hys hyl => ?_ | refine .zl fun zs hzs hzl => ?_ | refine .u fun u hu hul => ?_ | refine .z fun zs hzs => ?_ | refine .mk (fun h => ?_) ?_ | refine .ms fun ms hms => ?_ | refine .s fun s hs hsl => ?_ | refine And.intro ?_ ?_) <;> cbv)
        rw [if_neg ‹_›, if_pos (.inr (.inr (by dsimp only; rw [hai]; rfl))), heard, hEE] at hK
        exact ⟨⟨_, Gh.refl _, .inl (CutK.pre (EndH _) rfl (Nat.le_of_ble_eq_true rfl) rfl rfl (.tup (.cons (.one (.nil _)) (.cons (.one (.refl _)) .nil))) (LeH.refl _) hK)⟩⟩
      have hnw : ¬ noWait ⟨self, other, out, wait, sent, got, sure, owes⟩ ⟨frm, to, number, kind, ack, deal, text, party, index, day, cur, amt, docs, boxes⟩ := by
        unfold noWait; dsimp only; rw [hai]; rintro (a | a | a) <;> first | omega | cases a
      have hT : takeR ⟨self, other, out, wait, sent, got, sure, owes⟩ ⟨frm, to, number, kind, ack, deal, text, party, index, day, cur, amt, docs, boxes⟩ = R := by
        rw [takeR, if_neg (fun h => h hyes), if_neg ‹_›, if_neg hnw, put, heard, hEE, hR]
      rw [if_neg ‹_›, if_neg hnw, put, heard, hEE] at hK
      cbv; repeat' ((first | refine .e ?_ | refine .n fun h => ?_ | refine .y fun h => ?_ | refine .q fun z hz hz0 hz1 => ?_ | refine .mk (fun h => ?_) fun h => ?_ | refine .k fun z hz => ?_ | refine .o ?_ | refine .l fun ys hys hyl => ?_ | refine .zl fun zs hzs hzl => ?_ | refine .u fun u hu hul => ?_ | refine .z fun zs hzs => ?_ | refine .mk (fun h => ?_) ?_ | refine .ms fun ms hms => ?_ | refine .s fun s hs hsl => ?_ | refine And.intro ?_ ?_) <;> cbv)
      refine callG_spec0 hown _ ⟨_, rfl, hs⟩ rfl rfl rfl ?_
      cbv; repeat' ((first | refine .e ?_ | refine .n fun h => ?_ | refine .y fun h => ?_ | refine .q fun z hz hz0 hz1 => ?_ | refine .mk (fun h => ?_) fun h => ?_ | refine .k fun z hz => ?_ | refine .o ?_ | refine .l fun ys hys hyl => ?_ | refine .zl fun zs hzs hzl => ?_ | refine .u fun u hu hul => ?_ | refine .z fun zs hzs => ?_ | refine .mk (fun h => ?_) ?_ | refine .ms fun ms hms => ?_ | refine .s fun s hs hsl => ?_ | refine And.intro ?_ ?_) <;> cbv)
      refine find_wait (fun i y h2 => by rw [hai] at h2; cases h2) (fun _ => ?_)
      cbv; repeat' ((first | refine .e ?_ | refine .n fun h => ?_ | refine .y fun h => ?_ | refine .q fun z hz hz0 hz1 => ?_ | refine .mk (fun h => ?_) fun h => ?_ | refine .k fun z hz => ?_ | refine .o ?_ | refine .l fun ys hys hyl => ?_ | refine .zl fun zs hzs hzl => ?_ | refine .u fun u hu hul => ?_ | refine .z fun zs hzs => ?_ | refine .mk (fun h => ?_) ?_ | refine .ms fun ms hms => ?_ | refine .s fun s hs hsl => ?_ | refine And.intro ?_ ?_) <;> cbv)
      obtain ⟨wl, hwl⟩ : ∃ wl, wl = wait ++ [(⟨frm, to, number, kind, ack, deal, text, party, index, day, cur, amt, docs, boxes⟩ : Lt)] := ⟨_, rfl⟩
      obtain rfl : ms = mapA (fun l => (AV.int .i64 l.number, LtA l)) wl := by rw [hwl, mapA_app, mapA_one]; exact hms
      have hwll : wl.length = wait.length + 1 := by rw [hwl, List.length_append]; rfl
      rw [← hwl] at hK
      refine find_wait (fun i y hai hy => ?_) (fun hai => ?_)
      · have hil : i < wl.length := (List.getElem?_eq_some_iff.1 hy).1
        obtain ⟨frm2, to2, number2, kind2, ack2, deal2, text2, party2, index2, day2, cur2, amt2, docs2, boxes2⟩ := y
        rw [hz] at hai
        cbv; repeat' ((first | refine .e ?_ | refine .n fun h => ?_ | refine .y fun h => ?_ | refine .q fun z hz hz0 hz1 => ?_ | refine .mk (fun h => ?_) fun h => ?_ | refine .k fun z hz => ?_ | refine .o ?_ | refine .l fun ys hys hyl => ?_ | refine .zl fun zs hzs hzl => ?_ | refine .u fun u hu hul => ?_ | refine .z fun zs hzs => ?_ | refine .mk (fun h => ?_) ?_ | refine .ms fun ms hms => ?_ | refine .s fun s hs hsl => ?_ | refine And.intro ?_ ?_) <;> cbv)
        refine find_wait (fun i2 y2 h2 hy2 => ?_) (fun h2 => by rw [hz] at h2; rw [hai] at h2; cases h2)
        rw [hz] at h2
        obtain rfl : i = i2 := Option.some.inj (hai.symm.trans h2)
        cbv; repeat' ((first | refine .e ?_ | refine .n fun h => ?_ | refine .y fun h => ?_ | refine .q fun z hz hz0 hz1 => ?_ | refine .mk (fun h => ?_) fun h => ?_ | refine .k fun z hz => ?_ | refine .o ?_ | refine .l fun ys hys hyl => ?_ | refine .zl fun zs hzs hzl => ?_ | refine .u fun u hu hul => ?_ | refine .z fun zs hzs => ?_ | refine .mk (fun h => ?_) ?_ | refine .ms fun ms hms => ?_ | refine .s fun s hs hsl => ?_ | refine And.intro ?_ ?_) <;> cbv)
        obtain ⟨wl2, hwl2⟩ : ∃ wl2, wl2 = wl.eraseIdx i := ⟨_, rfl⟩
        obtain rfl : ms = mapA (fun l => (AV.int .i64 l.number, LtA l)) wl2 := by rw [hms, mapA_erase, hwl2]
        have hwl2l : wl2.length = wait.length := by rw [hwl2, List.length_eraseIdx, if_pos hil]; omega
        refine jump_ok ⟨(wait.length, z, wl2, [⟨frm2, to2, number2, kind2, ack2, deal2, text2, party2, index2, day2, cur2, amt2, docs2, boxes2⟩], _, _, _, _), hwl2l.symm, by dsimp only; ((try simp only [vn] at *) <;> omega), by dsimp only; ((try simp only [vn] at *) <;> omega), by dsimp only [List.length]; ((try simp only [vn] at *) <;> omega), ?_, ?_, ?_, ?_, ?_, rfl, hT⟩ (Gh.weak ⟨.inl rfl, .inl rfl, trivial⟩ rfl rfl rfl (Nat.le_of_ble_eq_true rfl))
        · dsimp only
          rw [hR, ← hwl]
          show _ = match at_ wl (got + 1) with
            | some i => pull wait.length _ ([] ++ (wl[i]?).toList)
            | none => _
          rw [hai]
          dsimp only
          rw [hy, hwl2, hz]
          rfl
        all_goals exact ⟨rfl, rfl⟩
      · cbv; repeat' ((first | refine .e ?_ | refine .n fun h => ?_ | refine .y fun h => ?_ | refine .q fun z hz hz0 hz1 => ?_ | refine .mk (fun h => ?_) fun h => ?_ | refine .k fun z hz => ?_ | refine .o ?_ | refine .l fun ys hys hyl => ?_ | refine .zl fun zs hzs hzl => ?_ | refine .u fun u hu hul => ?_ | refine .z fun zs hzs => ?_ | refine .mk (fun h => ?_) ?_ | refine .ms fun ms hms => ?_ | refine .s fun s hs hsl => ?_ | refine And.intro ?_ ?_) <;> cbv)
        rw [pull, show at_ wl (got + 1) = none by rw [← hz]; exact hai] at hK
        subst hwl
        exact ⟨⟨_, Gh.refl _, .inl (CutK.pre (EndH ⟨self, other, od, _, sent, got, sure, true⟩) rfl (Nat.le_of_ble_eq_true rfl) rfl rfl (.tup (.cons (.one (.nil _)) (.cons (.one (.refl _)) .nil))) (LeH.refl _) hK)⟩⟩
  · rintro ⟨⟨n, g, ws, told, j3, j4, j5, j6⟩, hn, hg1, hgm, htl, hp, b3, b4, b5, b6, rfl, hT⟩
    dsimp only at hn hg1 hgm htl hp b3 b4 b5 b6 hT ⊢
    cbv; repeat' ((first | refine .e ?_ | refine .n fun h => ?_ | refine .y fun h => ?_ | refine .q fun z hz hz0 hz1 => ?_ | refine .mk (fun h => ?_) fun h => ?_ | refine .k fun z hz => ?_ | refine .o ?_ | refine .l fun ys hys hyl => ?_ | refine .zl fun zs hzs hzl => ?_ | refine .u fun u hu hul => ?_ | refine .z fun zs hzs => ?_ | refine .mk (fun h => ?_) ?_ | refine .ms fun ms hms => ?_ | refine .s fun s hs hsl => ?_ | refine And.intro ?_ ?_) <;> cbv)
    refine find_wait (fun i y hai hy => ?_) (fun hai => ?_)
    · have hil : i < ws.length := (List.getElem?_eq_some_iff.1 hy).1
      obtain ⟨frm2, to2, number2, kind2, ack2, deal2, text2, party2, index2, day2, cur2, amt2, docs2, boxes2⟩ := y
      rw [hz] at hai
      cbv; repeat' ((first | refine .e ?_ | refine .n fun h => ?_ | refine .y fun h => ?_ | refine .q fun z hz hz0 hz1 => ?_ | refine .mk (fun h => ?_) fun h => ?_ | refine .k fun z hz => ?_ | refine .o ?_ | refine .l fun ys hys hyl => ?_ | refine .zl fun zs hzs hzl => ?_ | refine .u fun u hu hul => ?_ | refine .z fun zs hzs => ?_ | refine .mk (fun h => ?_) ?_ | refine .ms fun ms hms => ?_ | refine .s fun s hs hsl => ?_ | refine And.intro ?_ ?_) <;> cbv)
      refine find_wait (fun i2 y2 h2 hy2 => ?_) (fun h2 => by rw [hz] at h2; rw [hai] at h2; cases h2)
      rw [hz] at h2
      obtain rfl : i = i2 := Option.some.inj (hai.symm.trans h2)
      cbv; repeat' ((first | refine .e ?_ | refine .n fun h => ?_ | refine .y fun h => ?_ | refine .q fun z hz hz0 hz1 => ?_ | refine .mk (fun h => ?_) fun h => ?_ | refine .k fun z hz => ?_ | refine .o ?_ | refine .l fun ys hys hyl => ?_ | refine .zl fun zs hzs hzl => ?_ | refine .u fun u hu hul => ?_ | refine .z fun zs hzs => ?_ | refine .mk (fun h => ?_) ?_ | refine .ms fun ms hms => ?_ | refine .s fun s hs hsl => ?_ | refine And.intro ?_ ?_) <;> cbv)
      obtain ⟨wl2, hwl2⟩ : ∃ wl2, wl2 = ws.eraseIdx i := ⟨_, rfl⟩
      obtain rfl : ms = mapA (fun l => (AV.int .i64 l.number, LtA l)) wl2 := by rw [hms, mapA_erase, hwl2]
      obtain ⟨m, rfl⟩ : ∃ m, n = m + 1 := ⟨n - 1, by omega⟩
      have hwl2l : wl2.length = m := by rw [hwl2, List.length_eraseIdx, if_pos hil]; omega
      obtain rfl : zs = mapA LtA (told ++ [⟨frm2, to2, number2, kind2, ack2, deal2, text2, party2, index2, day2, cur2, amt2, docs2, boxes2⟩]) := by rw [mapA_app, mapA_one]; exact hzs
      refine round_ok ⟨(m, z, wl2, told ++ [⟨frm2, to2, number2, kind2, ack2, deal2, text2, party2, index2, day2, cur2, amt2, docs2, boxes2⟩], j3, j4, j5, j6), hwl2l.symm, by dsimp only; ((try simp only [vn] at *) <;> omega), by dsimp only; ((try simp only [vn] at *) <;> omega), by dsimp only; simp only [List.length_append, List.length_cons, List.length_nil]; ((try simp only [vn] at *) <;> omega), ?_, b3, b4, b5, b6, rfl, hT⟩ (Gh.weak ⟨.inl rfl, .inl rfl, trivial⟩ (by show [_, _, _, Ent.kill 7 .any j3, Ent.kill 7 .any j4, Ent.kill 7 .any j5, Ent.kill 7 .any j6, _] = _; rw [b3.2, b4.2, b5.2, b6.2]) rfl (bndH_junk b3.1 b4.1 b5.1 b6.1 rfl rfl rfl rfl) (Nat.le_of_ble_eq_true rfl)) (num_lt (by dsimp only; omega))
      dsimp only
      rw [← hp]
      show _ = match at_ ws (g + 1) with
        | some i => pull m _ (told ++ (ws[i]?).toList)
        | none => _
      rw [hai]
      dsimp only
      rw [hy, hwl2, hz]
      rfl
    · cbv; repeat' ((first | refine .e ?_ | refine .n fun h => ?_ | refine .y fun h => ?_ | refine .q fun z hz hz0 hz1 => ?_ | refine .mk (fun h => ?_) fun h => ?_ | refine .k fun z hz => ?_ | refine .o ?_ | refine .l fun ys hys hyl => ?_ | refine .zl fun zs hzs hzl => ?_ | refine .u fun u hu hul => ?_ | refine .z fun zs hzs => ?_ | refine .mk (fun h => ?_) ?_ | refine .ms fun ms hms => ?_ | refine .s fun s hs hsl => ?_ | refine And.intro ?_ ?_) <;> cbv)
      rw [hz] at hai
      have hpn : pull n ⟨self, other, od, ws, sent, g, sure, true⟩ told = (⟨self, other, od, ws, sent, g, sure, true⟩, told) := by
        cases n with
        | zero => rfl
        | succ n => unfold pull; dsimp only; rw [hai]
      rw [hT, ← hp, hpn] at hK
      refine ⟨⟨_, Gh.publish 7 rfl, ?_⟩⟩
      cbv
      exact .inr (CutK.pre (EndH ⟨self, other, od, ws, sent, g, sure, true⟩) rfl (Nat.le_of_ble_eq_true rfl) rfl rfl (Le.refl _) (LeH.refl _) hK)
end Go.Proofs.Ytaflinfpmbfieaa
/-
  mark.Name, and the references' Name: one test.
-/
namespace Go.Proofs.Ytaflinfpmbfieaa
open Go.RowKit

def letB (n : Int) : Bool := decide (97 ≤ n) && decide (n ≤ 122)
def digB (n : Int) : Bool := decide (48 ≤ n) && decide (n ≤ 57)
def chB (c : UInt8) : Bool := letB c.toNat || digB c.toNat || decide ((c.toNat : Int) = 45)
def nameB (s : ByteArray) : Bool := decide (1 ≤ s.size) && decide (s.size ≤ 16) && s.data.toList.all chB
def firstAll (s : ByteArray) (k : Nat) : Prop := ∀ j (h : j < s.size), j < k → chB s[j] = true
theorem firstAll_zero (s : ByteArray) : firstAll s 0 := fun _ _ h => absurd h (by omega)
theorem firstAll_succ {s : ByteArray} {k : Nat} (hk : k < s.size) (h : firstAll s k) (hc : chB s[k] = true) : firstAll s (k + 1) := fun j hj hjk => by
  by_cases e : j = k
  · subst e; exact hc
  · exact h j hj (by omega)
theorem nameB_all {s : ByteArray} (h : firstAll s s.size) : nameB s = (decide (1 ≤ s.size) && decide (s.size ≤ 16)) := by
  have : s.data.toList.all chB = true := by
    rw [List.all_eq_true]
    intro c hc
    obtain ⟨j, hj, rfl⟩ := List.getElem_of_mem hc
    exact h j (by simpa using hj) (by simpa using hj)
  simp [nameB, this]
theorem nameB_not {s : ByteArray} {k : Nat} (hk : k < s.size) (h : chB s[k] = false) : nameB s = false := by
  have : s.data.toList.all chB = false := by
    rw [← Bool.not_eq_true, List.all_eq_true]
    intro hh
    have := hh (s[k]) (by exact List.getElem_mem (l := s.data.toList) (by simpa using hk))
    rw [h] at this
    cases this
  simp [nameB, this]

theorem isLetter_any (n : Int) (w : World) : Calls Try.prog 52 #[.int .u8 n] w fun e w' => e = .returned (.bool (letB n)) ∧ w = w' := by
  unfold letB
  go_enter Try.func52, Try.ntmps52
  go_wp2
  all_goals (go_ret; simp [*])
  omega
theorem isDigit_any (n : Int) (w : World) : Calls Try.prog 53 #[.int .u8 n] w fun e w' => e = .returned (.bool (digB n)) ∧ w = w' := by
  unfold digB
  go_enter Try.func53, Try.ntmps53
  go_wp2
  all_goals (go_ret; simp [*])
  omega
/-- A byte is of one of three kinds, or of none. -/
theorem ch_ways (c : UInt8) : (letB c.toNat = true ∧ chB c = true) ∨ (letB c.toNat = false ∧ digB c.toNat = true ∧ chB c = true) ∨ (letB c.toNat = false ∧ digB c.toNat = false ∧ (c.toNat : Int) = 45 ∧ chB c = true) ∨ (letB c.toNat = false ∧ digB c.toNat = false ∧ (c.toNat : Int) ≠ 45 ∧ chB c = false) := by
  unfold chB
  cases letB c.toNat <;> cases digB c.toNat <;> by_cases h : (c.toNat : Int) = 45 <;> simp [h]

set_option maxHeartbeats 1000000 in
theorem name_any (s : ByteArray) (w : World) (hs : s.size ≤ maxLen) : Calls Try.prog 46 #[.string s] w fun e w' => e = .returned (.bool (nameB s)) ∧ w = w' := by
  unfold maxLen at hs
  by_cases h1 : s.size < 1
  · have hn : nameB s = false := by simp [nameB]; omega
    rw [hn]
    clear hn
    go_enter Try.func46, Try.ntmps46
    go_wp2
    go_ret
    exact ⟨rfl, rfl⟩
  by_cases h2 : 16 < s.size
  · have hn : nameB s = false := by simp [nameB]; omega
    rw [hn]
    clear hn
    go_enter Try.func46, Try.ntmps46
    go_wp2
    go_ret
    exact ⟨rfl, rfl⟩
  go_enter Try.func46, Try.ntmps46
  go_wp2
  go_loop [3, 14] (fun _ i => ∃ k : Nat, k ≤ s.size ∧ i = .int .i64 k ∧ firstAll s k) (fun _ i => s.size - (intOf i).toNat)
  case atStart => exact ⟨0, Nat.zero_le _, rfl, firstAll_zero s⟩
  case round =>
    obtain ⟨k, hk, rfl, hall⟩ := hrel
    by_cases hlt : k < s.size
    · rcases ch_ways s[k] with ⟨g1, g4⟩ | ⟨g1, g2, g4⟩ | ⟨g1, g2, g3, g4⟩ | ⟨g1, g2, g3, g4⟩
      all_goals
        have G4 := Lib.hid g4
        clear g4
        go_wp2_with (first | (go_at_call 52; refine (isLetter_any _ _).mono ?_; rintro e w' ⟨rfl, rfl⟩) | (go_at_call 53; refine (isDigit_any _ _).mono ?_; rintro e w' ⟨rfl, rfl⟩))
      all_goals first
        | (go_round
           case rel => exact ⟨k + 1, by omega, by go_num, firstAll_succ hlt hall G4.out⟩
           case measure => simp [intOf]; omega)
        | (go_ret
           exact ⟨ret_bool (nameB_not hlt G4.out).symm, rfl⟩)
    · go_wp2
      go_ret
      obtain rfl : k = s.size := by omega
      exact ⟨ret_bool (by rw [nameB_all hall]; simp; omega), rfl⟩
end Go.Proofs.Ytaflinfpmbfieaa
/-
  The reference's Name; two unlike names.
-/
namespace Go.Proofs.Ytaflinfpmbfieaa
open Go.RowKit

theorem ch_ranges (c : UInt8) : ((c.toNat : Int) < 45 ∧ chB c = false) ∨ ((c.toNat : Int) = 45 ∧ chB c = true) ∨ (45 < (c.toNat : Int) ∧ (c.toNat : Int) < 48 ∧ chB c = false) ∨ (48 ≤ (c.toNat : Int) ∧ (c.toNat : Int) ≤ 57 ∧ chB c = true) ∨
    (57 < (c.toNat : Int) ∧ (c.toNat : Int) < 97 ∧ chB c = false) ∨ (97 ≤ (c.toNat : Int) ∧ (c.toNat : Int) ≤ 122 ∧ chB c = true) ∨ (122 < (c.toNat : Int) ∧ chB c = false) := by
  unfold chB letB digB
  by_cases h1 : (c.toNat : Int) < 45
  · exact .inl ⟨h1, by simp; omega⟩
  by_cases h2 : (c.toNat : Int) = 45
  · exact .inr (.inl ⟨h2, by simp [h2]⟩)
  by_cases h3 : (c.toNat : Int) < 48
  · exact .inr (.inr (.inl ⟨by omega, h3, by simp; omega⟩))
  by_cases h4 : (c.toNat : Int) ≤ 57
  · exact .inr (.inr (.inr (.inl ⟨by omega, h4, by simp; omega⟩)))
  by_cases h5 : (c.toNat : Int) < 97
  · exact .inr (.inr (.inr (.inr (.inl ⟨by omega, h5, by simp; omega⟩))))
  by_cases h6 : (c.toNat : Int) ≤ 122
  · exact .inr (.inr (.inr (.inr (.inr (.inl ⟨by omega, h6, by simp; omega⟩)))))
  · exact .inr (.inr (.inr (.inr (.inr (.inr ⟨by omega, by simp; omega⟩)))))

set_option maxHeartbeats 2000000 in
theorem refName_any (s : ByteArray) (w : World) (hs : s.size ≤ maxLen) : Calls Try.prog 36 #[.string s] w fun e w' => e = .returned (.bool (nameB s)) ∧ w = w' := by
  unfold maxLen at hs
  go_enter Try.func36, Try.ntmps36
  go_wp2
  go_loop [3] (fun i => ∃ k : Nat, k ≤ s.size ∧ i = .int .i64 k ∧ firstAll s k) (fun i => s.size - (intOf i).toNat)
  case atStart => exact ⟨0, Nat.zero_le _, rfl, firstAll_zero s⟩
  case round =>
    obtain ⟨k, hk, rfl, hall⟩ := hrel
    have HA := Lib.hid hall
    clear hall
    by_cases hlt : k < s.size
    · rcases ch_ranges s[k] with ⟨g1, g4⟩ | ⟨g1, g4⟩ | ⟨g1, g2, g4⟩ | ⟨g1, g2, g4⟩ | ⟨g1, g2, g4⟩ | ⟨g1, g2, g4⟩ | ⟨g1, g4⟩
      all_goals
        have G4 := Lib.hid g4
        clear g4
        first | (have e45 : (((s[k].toNat : Nat) : Int) == 45) = false := beq_eq_false_iff_ne.2 (by omega)) | (have e45 : (((s[k].toNat : Nat) : Int) == 45) = true := beq_iff_eq.2 g1)
        first | (have d57 : decide (((s[k].toNat : Nat) : Int) ≤ 57) = false := decide_eq_false (by omega)) | skip
        first | (have d122 : decide (((s[k].toNat : Nat) : Int) ≤ 122) = false := decide_eq_false (by omega)) | skip
        go_wp2
      all_goals first
        | (go_round
           case rel => exact ⟨k + 1, by omega, by go_num, firstAll_succ hlt HA.out G4.out⟩
           case measure => simp [intOf]; omega)
        | (go_ret
           exact ⟨ret_bool (nameB_not hlt G4.out).symm, rfl⟩)
    · obtain rfl : k = s.size := by omega
      by_cases h16 : s.size ≤ 16
      all_goals by_cases h1 : 1 ≤ s.size
      all_goals first
        | (exfalso; omega)
        | (go_wp2
           go_ret
           exact ⟨ret_bool (by rw [nameB_all HA.out]; first | (simp [h16, h1]; done) | (simp [h16, h1]; omega)), rfl⟩)
end Go.Proofs.Ytaflinfpmbfieaa
namespace Go.Proofs.Ytaflinfpmbfieaa
open Go.RowKit
set_option maxHeartbeats 1000000
set_option maxRecDepth 100000
/-- Two unlike names. -/
def partB (a b : ByteArray) : Bool := nameB a && nameB b && !decide (a = b)
noncomputable def NameC : Ctr := spec (fun s : ByteArray => [.str s]) (fun _ => []) (fun s => s.size ≤ maxLen) (fun s => .bl (nameB s)) fun _ => []
noncomputable def PartC : Ctr := spec (fun i : ByteArray × ByteArray => [.str i.1, .str i.2]) (fun _ => []) (fun i => i.1.size ≤ 100 ∧ i.2.size ≤ 100) (fun i => .bl (partB i.1 i.2)) fun _ => []
theorem areParties_body (P : Program) (hname : FnOk P 46 NameC) : BodyOk P x35 PartC := by
  intro args H K hc
  obtain ⟨⟨a, b⟩, rfl, rfl, ⟨h1, h2⟩, hK⟩ := hc
  refine ⟨Nat.le_of_ble_eq_true rfl, ?_⟩
  dsimp only at h1 h2 hK ⊢
  rw [partB] at hK
  cbv; repeat' ((first | refine .e ?_ | refine .n fun h => ?_ | refine .y fun h => ?_ | refine .q fun z hz hz0 hz1 => ?_ | refine .mk (fun h => ?_) fun h => ?_ | refine .k fun z hz => ?_ | refine .o ?_ | refine .l fun ys hys hyl => ?_ | refine .zl fun zs hzs hzl => ?_ | refine .u fun u hu hul => ?_ | refine .z fun zs hzs => ?_ | refine .mk (fun h => ?_) ?_ | refine .ms fun ms hms => ?_ | refine .s fun s hs hsl => ?_ | refine And.intro ?_ ?_) <;> cbv)
  refine callG_spec0 hname _ (by unfold maxLen; omega) rfl rfl rfl ?_
  obtain ⟨na, hna⟩ : ∃ n, n = nameB a := ⟨_, rfl⟩
  obtain ⟨nb, hnb⟩ : ∃ n, n = nameB b := ⟨_, rfl⟩
  rw [← hna, ← hnb] at hK
  rw [← hna]
  cases na with
  | false =>
    cbv; repeat' ((first | refine .e ?_ | refine .n fun h => ?_ | refine .y fun h => ?_ | refine .q fun z hz hz0 hz1 => ?_ | refine .mk (fun h => ?_) fun h => ?_ | refine .k fun z hz => ?_ | refine .o ?_ | refine .l fun ys hys hyl => ?_ | refine .zl fun zs hzs hzl => ?_ | refine .u fun u hu hul => ?_ | refine .z fun zs hzs => ?_ | refine .mk (fun h => ?_) ?_ | refine .ms fun ms hms => ?_ | refine .s fun s hs hsl => ?_ | refine And.intro ?_ ?_) <;> cbv)
    exact ⟨⟨_, Gh.refl _, .inl (CutK.val rfl (Le.refl _) hK)⟩⟩
  | true =>
    cbv; repeat' ((first | refine .e ?_ | refine .n fun h => ?_ | refine .y fun h => ?_ | refine .q fun z hz hz0 hz1 => ?_ | refine .mk (fun h => ?_) fun h => ?_ | refine .k fun z hz => ?_ | refine .o ?_ | refine .l fun ys hys hyl => ?_ | refine .zl fun zs hzs hzl => ?_ | refine .u fun u hu hul => ?_ | refine .z fun zs hzs => ?_ | refine .mk (fun h => ?_) ?_ | refine .ms fun ms hms => ?_ | refine .s fun s hs hsl => ?_ | refine And.intro ?_ ?_) <;> cbv)
    refine callG_spec0 hname _ (by unfold maxLen; omega) rfl rfl rfl ?_
    rw [← hnb]
    cases nb with
    | false =>
      cbv; repeat' ((first | refine .e ?_ | refine .n fun h => ?_ | refine .y fun h => ?_ | refine .q fun z hz hz0 hz1 => ?_ | refine .mk (fun h => ?_) fun h => ?_ | refine .k fun z hz => ?_ | refine .o ?_ | refine .l fun ys hys hyl => ?_ | refine .zl fun zs hzs hzl => ?_ | refine .u fun u hu hul => ?_ | refine .z fun zs hzs => ?_ | refine .mk (fun h => ?_) ?_ | refine .ms fun ms hms => ?_ | refine .s fun s hs hsl => ?_ | refine And.intro ?_ ?_) <;> cbv)
      exact ⟨⟨_, Gh.refl _, .inl (CutK.val rfl (Le.refl _) hK)⟩⟩
    | true =>
      cbv; repeat' ((first | refine .e ?_ | refine .n fun h => ?_ | refine .y fun h => ?_ | refine .q fun z hz hz0 hz1 => ?_ | refine .mk (fun h => ?_) fun h => ?_ | refine .k fun z hz => ?_ | refine .o ?_ | refine .l fun ys hys hyl => ?_ | refine .zl fun zs hzs hzl => ?_ | refine .u fun u hu hul => ?_ | refine .z fun zs hzs => ?_ | refine .mk (fun h => ?_) ?_ | refine .ms fun ms hms => ?_ | refine .s fun s hs hsl => ?_ | refine And.intro ?_ ?_) <;> cbv)
      · rw [decide_eq_true h] at hK
        exact ⟨⟨_, Gh.refl _, .inl (CutK.val rfl (Le.refl _) hK)⟩⟩
      · rw [decide_eq_false h] at hK
        exact ⟨⟨_, Gh.refl _, .inl (CutK.val rfl (Le.refl _) hK)⟩⟩
def newE (a b : ByteArray) : En := ⟨a, b, [], [], 0, 0, 0, false⟩
noncomputable def NewC : Ctr := spec (fun i : ByteArray × ByteArray => [.str i.1, .str i.2]) (fun _ => []) (fun i => (i.1.size ≤ 100 ∧ i.2.size ≤ 100) ∧ partB i.1 i.2 = true) (fun _ => .ptr 0 0) fun i => EndH (newE i.1 i.2)
noncomputable def NewNoC : Ctr := spec (fun i : ByteArray × ByteArray => [.str i.1, .str i.2]) (fun _ => []) (fun i => (i.1.size ≤ 100 ∧ i.2.size ≤ 100) ∧ partB i.1 i.2 = false) (fun _ => .v (.pointer none)) fun _ => []
theorem newNo_body (P : Program) (hp : FnOk P 35 PartC) : BodyOk P x20 NewNoC := by
  intro args H K hc
  obtain ⟨⟨a, b⟩, rfl, rfl, ⟨h1, h2⟩, hK⟩ := hc
  refine ⟨Nat.le_of_ble_eq_true rfl, ?_⟩
  dsimp only at h1 h2 hK ⊢
  cbv; repeat' ((first | refine .e ?_ | refine .n fun h => ?_ | refine .y fun h => ?_ | refine .q fun z hz hz0 hz1 => ?_ | refine .mk (fun h => ?_) fun h => ?_ | refine .k fun z hz => ?_ | refine .o ?_ | refine .l fun ys hys hyl => ?_ | refine .zl fun zs hzs hzl => ?_ | refine .u fun u hu hul => ?_ | refine .z fun zs hzs => ?_ | refine .mk (fun h => ?_) ?_ | refine .ms fun ms hms => ?_ | refine .s fun s hs hsl => ?_ | refine And.intro ?_ ?_) <;> cbv)
  refine callG_spec0 hp (a, b) h1 rfl rfl rfl ?_
  dsimp only
  rw [h2]
  cbv; repeat' ((first | refine .e ?_ | refine .n fun h => ?_ | refine .y fun h => ?_ | refine .q fun z hz hz0 hz1 => ?_ | refine .mk (fun h => ?_) fun h => ?_ | refine .k fun z hz => ?_ | refine .o ?_ | refine .l fun ys hys hyl => ?_ | refine .zl fun zs hzs hzl => ?_ | refine .u fun u hu hul => ?_ | refine .z fun zs hzs => ?_ | refine .mk (fun h => ?_) ?_ | refine .ms fun ms hms => ?_ | refine .s fun s hs hsl => ?_ | refine And.intro ?_ ?_) <;> cbv)
  exact ⟨⟨_, Gh.refl _, .inl (CutK.val rfl (Le.refl _) hK)⟩⟩
theorem new_body (P : Program) (hp : FnOk P 35 PartC) : BodyOk P x20 NewC := by
  intro args H K hc
  obtain ⟨⟨a, b⟩, rfl, rfl, ⟨h1, h2⟩, hK⟩ := hc
  refine ⟨Nat.le_of_ble_eq_true rfl, ?_⟩
  dsimp only at h1 h2 hK ⊢
  cbv; repeat' ((first | refine .e ?_ | refine .n fun h => ?_ | refine .y fun h => ?_ | refine .q fun z hz hz0 hz1 => ?_ | refine .mk (fun h => ?_) fun h => ?_ | refine .k fun z hz => ?_ | refine .o ?_ | refine .l fun ys hys hyl => ?_ | refine .zl fun zs hzs hzl => ?_ | refine .u fun u hu hul => ?_ | refine .z fun zs hzs => ?_ | refine .mk (fun h => ?_) ?_ | refine .ms fun ms hms => ?_ | refine .s fun s hs hsl => ?_ | refine And.intro ?_ ?_) <;> cbv)
  refine callG_spec0 hp (a, b) h1 rfl rfl rfl ?_
  dsimp only
  rw [h2]
  cbv; repeat' ((first | refine .e ?_ | refine .n fun h => ?_ | refine .y fun h => ?_ | refine .q fun z hz hz0 hz1 => ?_ | refine .mk (fun h => ?_) fun h => ?_ | refine .k fun z hz => ?_ | refine .o ?_ | refine .l fun ys hys hyl => ?_ | refine .zl fun zs hzs hzl => ?_ | refine .u fun u hu hul => ?_ | refine .z fun zs hzs => ?_ | refine .mk (fun h => ?_) ?_ | refine .ms fun ms hms => ?_ | refine .s fun s hs hsl => ?_ | refine And.intro ?_ ?_) <;> cbv)
  refine ⟨⟨_, Gh.trans (Gh.adoptC 1 2 40 14 rfl rfl) (Gh.publish 2 rfl), ?_⟩⟩
  cbv
  exact .inl ⟨⟨[1, 2, 0], .ptr 0 0, EndH (newE a b), _, _, rfl, rfl, by decide, rfl, Nat.le_of_ble_eq_true rfl, rfl, rfl, Le.refl _, LeH.refl _, hK⟩⟩
end Go.Proofs.Ytaflinfpmbfieaa
namespace Go.Proofs.Ytaflinfpmbfieaa
open Go.RowKit
set_option maxHeartbeats 1000000
set_option maxRecDepth 100000
def ofArg (a b : ByteArray) (L : List Lt) (acked got : Int) : Prop := partB a b = false ∨ acked < 0 ∨ 1048576 < acked ∨ got < 0 ∨ 1048576 < got ∨ 4096 < L.length
def ofForm (a b : ByteArray) (acked : Int) (i : Nat) (l : Lt) : Prop := l.frm ≠ a ∨ l.to ≠ b ∨ l.number ≠ acked + nI i + 1 ∨ l.kind = 28 ∨ l.ack ≠ 0
def ofE (a b : ByteArray) (L : List Lt) (acked got : Int) : En := ⟨a, b, L, [], acked + L.length, got, got, false⟩
noncomputable def OfC : Ctr := fun args H K => ∃ (a b : ByteArray) (L : List Lt) (acked got : Int), args = [.str a, .str b, .sl 14 (mapA LtA L), .i acked, .i got] ∧ H = [] ∧ (a.size ≤ 100 ∧ b.size ≤ 100 ∧ L.length ≤ 5000 ∧ ∀ l ∈ L, Small l) ∧
  (ofArg a b L acked got → K (.tup [.v (.pointer none), .i 1]) []) ∧
  (¬ ofArg a b L acked got → ∀ (i : Nat) (h : i < L.length), ofForm a b acked i L[i] → K (.tup [.v (.pointer none), .i 2]) []) ∧
  (¬ ofArg a b L acked got → (∀ (i : Nat) (h : i < L.length), ¬ ofForm a b acked i L[i]) → K (.tup [.ptr 0 0, .i 0]) (EndH (ofE a b L acked got)))
theorem of_body (P : Program) (hp : FnOk P 35 PartC) (hnew : FnOk P 20 NewC) (howns : FnOk P 32 OwnsR) : BodyOk P x29 OfC := by
  intro args H K hc
  obtain ⟨a, b, L, acked, got, rfl, rfl, ⟨h1, h2, h3, h4⟩, hK1, hK2, hK3⟩ := hc
  refine ⟨Nat.le_of_ble_eq_true rfl, ?_⟩
  cbv; repeat' ((first | refine .e ?_ | refine .n fun h => ?_ | refine .y fun h => ?_ | refine .q fun z hz hz0 hz1 => ?_ | refine .mk (fun h => ?_) fun h => ?_ | refine .k fun z hz => ?_ | refine .o ?_ | refine .l fun ys hys hyl => ?_ | refine .zl fun zs hzs hzl => ?_ | refine .u fun u hu hul => ?_ | refine .z fun zs hzs => ?_ | refine .mk (fun h => ?_) ?_ | refine .ms fun ms hms => ?_ | refine .s fun s hs hsl => ?_ | refine And.intro ?_ ?_) <;> cbv)
  refine callG_spec0 hp (a, b) ⟨h1, h2⟩ rfl rfl rfl ?_
  dsimp only
  obtain ⟨pb, hpb⟩ : ∃ n, n = partB a b := ⟨_, rfl⟩
  rw [← hpb]
  cases pb with
  | false =>
    cbv; repeat' ((first | refine .e ?_ | refine .n fun h => ?_ | refine .y fun h => ?_ | refine .q fun z hz hz0 hz1 => ?_ | refine .mk (fun h => ?_) fun h => ?_ | refine .k fun z hz => ?_ | refine .o ?_ | refine .l fun ys hys hyl => ?_ | refine .zl fun zs hzs hzl => ?_ | refine .u fun u hu hul => ?_ | refine .z fun zs hzs => ?_ | refine .mk (fun h => ?_) ?_ | refine .ms fun ms hms => ?_ | refine .s fun s hs hsl => ?_ | refine And.intro ?_ ?_) <;> cbv)
    exact ⟨⟨_, Gh.refl _, .inl (CutK.val rfl (Le.refl _) (hK1 (.inl hpb.symm)))⟩⟩
  | true =>
    cbv; repeat' ((first | refine .e ?_ | refine .n fun h => ?_ | refine .y fun h => ?_ | refine .q fun z hz hz0 hz1 => ?_ | refine .mk (fun h => ?_) fun h => ?_ | refine .k fun z hz => ?_ | refine .o ?_ | refine .l fun ys hys hyl => ?_ | refine .zl fun zs hzs hzl => ?_ | refine .u fun u hu hul => ?_ | refine .z fun zs hzs => ?_ | refine .mk (fun h => ?_) ?_ | refine .ms fun ms hms => ?_ | refine .s fun s hs hsl => ?_ | refine And.intro ?_ ?_) <;> cbv)
    any_goals (first | exact FinK.mk ⟨_, Gh.refl _, .inl (CutK.val rfl (Le.refl _) (hK1 (.inr (by ((try simp only [vn] at *) <;> omega)))))⟩ | skip)
    have hno : ¬ ofArg a b L acked got := by
      unfold ofArg
      rintro (h | h)
      · rw [← hpb] at h; cases h
      · ((try simp only [vn] at *) <;> omega)
    obtain ⟨n, hn⟩ : ∃ n, n = L.length := ⟨_, rfl⟩
    refine xloopV [] (fun p : { i : Nat // i ≤ n ∧ ∀ j (h : j < L.length), j < i → ¬ ofForm a b acked j L[j] } => [(42, .i (nI p.1))]) (fun _ => []) (fun p => lft n p.1) ⟨0, Nat.zero_le _, fun j _ h => by omega⟩ ?_
    rintro ⟨i, hi, hall⟩
    cbv; repeat' ((first | refine .e ?_ | refine .n fun h => ?_ | refine .y fun h => ?_ | refine .q fun z hz hz0 hz1 => ?_ | refine .mk (fun h => ?_) fun h => ?_ | refine .k fun z hz => ?_ | refine .o ?_ | refine .l fun ys hys hyl => ?_ | refine .zl fun zs hzs hzl => ?_ | refine .u fun u hu hul => ?_ | refine .z fun zs hzs => ?_ | refine .mk (fun h => ?_) ?_ | refine .ms fun ms hms => ?_ | refine .s fun s hs hsl => ?_ | refine And.intro ?_ ?_) <;> cbv)
    · have hil : i < L.length := by ((try simp only [vn] at *) <;> omega)
      refine askEl_mapA hil ?_
      have hbad := fun h => hK2 hno i hil h
      have hgood : ¬ ofForm a b acked i L[i] → ∀ j (h : j < L.length), j < i + 1 → ¬ ofForm a b acked j L[j] := fun h j hj hji => by
        rcases Nat.lt_or_ge j i with h1 | h1
        · exact hall j hj h1
        · obtain rfl : j = i := by omega
          exact h
      unfold ofForm at hbad hgood
      generalize L[i] = l at hbad hgood ⊢
      obtain ⟨frm, to, number, kind, ack, deal, text, party, index, day, cur, amt, docs, boxes⟩ := l
      dsimp only at hbad hgood
      cbv; repeat' ((first | refine .e ?_ | refine .n fun h => ?_ | refine .y fun h => ?_ | refine .q fun z hz hz0 hz1 => ?_ | refine .mk (fun h => ?_) fun h => ?_ | refine .k fun z hz => ?_ | refine .o ?_ | refine .l fun ys hys hyl => ?_ | refine .zl fun zs hzs hzl => ?_ | refine .u fun u hu hul => ?_ | refine .z fun zs hzs => ?_ | refine .mk (fun h => ?_) ?_ | refine .ms fun ms hms => ?_ | refine .s fun s hs hsl => ?_ | refine And.intro ?_ ?_) <;> cbv)
      any_goals (first | exact FinK.mk ⟨_, Gh.refl _, .inl (CutK.val rfl (Le.refl _) (hbad (by grind)))⟩ | skip)
      obtain rfl := hz
      exact roundV ⟨i + 1, by omega, hgood (by grind)⟩ (lft_lt (by omega))
    · have hin : n ≤ i := by ((try simp only [vn] at *) <;> omega)
      refine callG_spec hnew (a, b) [] ⟨⟨h1, h2⟩, hpb.symm⟩ rfl rfl (by decide) rfl rfl rfl rfl rfl ?_
      cbv; repeat' ((first | refine .e ?_ | refine .n fun h => ?_ | refine .y fun h => ?_ | refine .q fun z hz hz0 hz1 => ?_ | refine .mk (fun h => ?_) fun h => ?_ | refine .k fun z hz => ?_ | refine .o ?_ | refine .l fun ys hys hyl => ?_ | refine .zl fun zs hzs hzl => ?_ | refine .u fun u hu hul => ?_ | refine .z fun zs hzs => ?_ | refine .mk (fun h => ?_) ?_ | refine .ms fun ms hms => ?_ | refine .s fun s hs hsl => ?_ | refine And.intro ?_ ?_) <;> cbv)
      refine callG_new howns L ⟨h3, h4⟩ rfl rfl ?_
      cbv; repeat' ((first | refine .e ?_ | refine .n fun h => ?_ | refine .y fun h => ?_ | refine .q fun z hz hz0 hz1 => ?_ | refine .mk (fun h => ?_) fun h => ?_ | refine .k fun z hz => ?_ | refine .o ?_ | refine .l fun ys hys hyl => ?_ | refine .zl fun zs hzs hzl => ?_ | refine .u fun u hu hul => ?_ | refine .z fun zs hzs => ?_ | refine .mk (fun h => ?_) ?_ | refine .ms fun ms hms => ?_ | refine .s fun s hs hsl => ?_ | refine And.intro ?_ ?_) <;> cbv)
      have e : acked + (L.length : Int) = z := by ((try simp only [vn] at *) <;> omega)
      have hK := hK3 hno fun j hj => hall j hj (by omega)
      rw [ofE, e] at hK
      refine ⟨⟨_, Gh.publish 3 rfl, ?_⟩⟩
      cbv
      exact .inl ⟨⟨[0, 3, 2], .tup [.ptr 0 0, .i 0], EndH ⟨a, b, L, [], z, got, got, false⟩, _, _, rfl, rfl, by decide, rfl, Nat.le_of_ble_eq_true rfl, rfl, rfl, Le.refl _, LeH.refl _, hK⟩⟩
end Go.Proofs.Ytaflinfpmbfieaa
namespace Go.Proofs.Ytaflinfpmbfieaa
open Go.RowKit
set_option maxHeartbeats 1000000
set_option maxRecDepth 100000
/-! The reference's end. -/
noncomputable def RefL : En → List AV
  | ⟨self, other, out, wait, sent, got, sure, owes⟩ => [.str self, .str other, .sl 14 (mapA LtA out), .sl 14 (mapA LtA wait), .i sent, .i got, .i sure, .bl owes]
noncomputable def RefH (E : En) : List Ent := [.blk 53 (RefL E)]
noncomputable def ROwnC : Ctr := spec (fun i : En × Nat × Lt => [.rp (RefL i.1) 0, LtA i.2.2]) (fun _ => []) (fun i => InvE i.2.1 i.1) (fun i => .bl (decide (OwnL i.1 i.2.2))) fun _ => []
theorem rown_body (P : Program) : BodyOk P x25 ROwnC := by
  intro args H K hc
  obtain ⟨⟨E, M, l⟩, rfl, rfl, hi, hK⟩ := hc
  refine ⟨Nat.le_of_ble_eq_true rfl, ?_⟩
  dsimp only at hi hK ⊢
  have hT : OwnL E l → K (.bl true) [] := fun h => by rw [decide_eq_true h] at hK; exact hK
  have hF : ¬ OwnL E l → K (.bl false) [] := fun h => by rw [decide_eq_false h] at hK; exact hK
  clear hK
  unfold OwnL at hT hF
  obtain ⟨self, other, out, wait, sent, got, sure, owes⟩ := E
  obtain ⟨frm, to, number, kind, ack, deal, text, party, index, day, cur, amt, docs, boxes⟩ := l
  dsimp only at hT hF
  cbv; repeat' ((first | refine .e ?_ | refine .n fun h => ?_ | refine .y fun h => ?_ | refine .q fun z hz hz0 hz1 => ?_ | refine .mk (fun h => ?_) fun h => ?_ | refine .k fun z hz => ?_ | refine .o ?_ | refine .l fun ys hys hyl => ?_ | refine .zl fun zs hzs hzl => ?_ | refine .u fun u hu hul => ?_ | refine .z fun zs hzs => ?_ | refine .mk (fun h => ?_) ?_ | refine .ms fun ms hms => ?_ | refine .s fun s hs hsl => ?_ | refine And.intro ?_ ?_) <;> cbv)
  all_goals first
    | exact FinK.mk ⟨_, Gh.refl _, .inl (CutK.val rfl (Le.refl _) (hF (by grind)))⟩
    | exact FinK.mk ⟨_, Gh.refl _, .inl (CutK.val rfl (Le.refl _) (hT (by grind)))⟩
def findI (L : List Lt) (n : Int) : Int := match at_ L n with
  | some i => i
  | none => -1
noncomputable def FindC : Ctr := spec (fun i : List Lt × Int => [.sl 14 (mapA LtA i.1), .i i.2]) (fun _ => []) (fun i => i.1.length ≤ 2000000) (fun i => .i (findI i.1 i.2)) fun _ => []
theorem at_first {L : List Lt} {n : Int} {i : Nat} (hi : i < L.length) (h : L[i].number = n) (hn : ∀ j (hj : j < L.length), j < i → L[j].number ≠ n) : at_ L n = some i := by
  unfold at_
  rw [List.findIdx?_eq_some_iff_getElem]
  exact ⟨hi, by simpa using h, fun j hj => by simpa using hn j (by omega) hj⟩
theorem at_not {L : List Lt} {n : Int} (hn : ∀ j (hj : j < L.length), L[j].number ≠ n) : at_ L n = none := by
  unfold at_
  rw [List.findIdx?_eq_none_iff]
  intro x hx
  obtain ⟨j, hj, rfl⟩ := List.getElem_of_mem hx
  simpa using hn j hj
theorem rfind_body (P : Program) : BodyOk P x47 FindC := by
  intro args H K hc
  obtain ⟨⟨L, m⟩, rfl, rfl, hi, hK⟩ := hc
  refine ⟨Nat.le_of_ble_eq_true rfl, ?_⟩
  dsimp only at hi hK ⊢
  have hT : ∀ i (hi : i < L.length), L[i].number = m → (∀ j (hj : j < L.length), j < i → L[j].number ≠ m) → K (.i (nI i)) [] := fun i hi h1 h2 => by rw [findI, at_first hi h1 h2] at hK; exact hK
  have hF : (∀ j (hj : j < L.length), L[j].number ≠ m) → K (.i (-1)) [] := fun h1 => by rw [findI, at_not h1] at hK; exact hK
  clear hK
  obtain ⟨n, hn⟩ : ∃ n, n = L.length := ⟨_, rfl⟩
  cbv; repeat' ((first | refine .e ?_ | refine .n fun h => ?_ | refine .y fun h => ?_ | refine .q fun z hz hz0 hz1 => ?_ | refine .mk (fun h => ?_) fun h => ?_ | refine .k fun z hz => ?_ | refine .o ?_ | refine .l fun ys hys hyl => ?_ | refine .zl fun zs hzs hzl => ?_ | refine .u fun u hu hul => ?_ | refine .z fun zs hzs => ?_ | refine .mk (fun h => ?_) ?_ | refine .ms fun ms hms => ?_ | refine .s fun s hs hsl => ?_ | refine And.intro ?_ ?_) <;> cbv)
  refine xloopV [] (fun p : { i : Nat // i ≤ n ∧ ∀ j (h : j < L.length), j < i → L[j].number ≠ m } => [(5, .i (nI p.1))]) (fun _ => []) (fun p => lft n p.1) ⟨0, Nat.zero_le _, fun j _ h => by omega⟩ ?_
  rintro ⟨i, hi, hall⟩
  cbv; repeat' ((first | refine .e ?_ | refine .n fun h => ?_ | refine .y fun h => ?_ | refine .q fun z hz hz0 hz1 => ?_ | refine .mk (fun h => ?_) fun h => ?_ | refine .k fun z hz => ?_ | refine .o ?_ | refine .l fun ys hys hyl => ?_ | refine .zl fun zs hzs hzl => ?_ | refine .u fun u hu hul => ?_ | refine .z fun zs hzs => ?_ | refine .mk (fun h => ?_) ?_ | refine .ms fun ms hms => ?_ | refine .s fun s hs hsl => ?_ | refine And.intro ?_ ?_) <;> cbv)
  · have hil : i < L.length := by ((try simp only [vn] at *) <;> omega)
    refine askEl_mapA hil ?_
    have hgo : L[i].number ≠ m → ∀ j (h : j < L.length), j < i + 1 → L[j].number ≠ m := fun h j hj hji => by
      rcases Nat.lt_or_ge j i with h1 | h1
      · exact hall j hj h1
      · obtain rfl : j = i := by omega
        exact h
    have hst := fun h => hT i hil h hall
    generalize L[i] = l at hgo hst ⊢
    obtain ⟨frm, to, number, kind, ack, deal, text, party, index, day, cur, amt, docs, boxes⟩ := l
    dsimp only at hgo hst
    cbv; repeat' ((first | refine .e ?_ | refine .n fun h => ?_ | refine .y fun h => ?_ | refine .q fun z hz hz0 hz1 => ?_ | refine .mk (fun h => ?_) fun h => ?_ | refine .k fun z hz => ?_ | refine .o ?_ | refine .l fun ys hys hyl => ?_ | refine .zl fun zs hzs hzl => ?_ | refine .u fun u hu hul => ?_ | refine .z fun zs hzs => ?_ | refine .mk (fun h => ?_) ?_ | refine .ms fun ms hms => ?_ | refine .s fun s hs hsl => ?_ | refine And.intro ?_ ?_) <;> cbv)
    · exact FinK.mk ⟨_, Gh.refl _, .inl (CutK.val rfl (Le.refl _) (hst h))⟩
    · obtain rfl := hz
      exact roundV ⟨i + 1, by omega, hgo (by assumption)⟩ (lft_lt (by omega))
  · exact FinK.mk ⟨_, Gh.refl _, .inl (CutK.val rfl (Le.refl _) (hF fun j hj => hall j hj (by ((try simp only [vn] at *) <;> omega))))⟩
noncomputable def RSureC : Ctr := spec (fun i : En × Nat × Int => [.ptr 0 0, .i i.2.2]) (fun i => RefH i.1) (fun i => InvE i.2.1 i.1) (fun i => .i (sureN i.1 i.2.2)) fun i => RefH (sureE i.1 i.2.2)
theorem rsure_body (P : Program) : BodyOk P x39 RSureC := by
  intro args H K hc
  obtain ⟨⟨E, M, q⟩, rfl, rfl, hi, hK⟩ := hc
  refine ⟨Nat.le_of_ble_eq_true rfl, ?_⟩
  dsimp only at hi hK ⊢
  have hT : ∀ m, m = min q E.got → E.sure < m → K (.i m) (RefH { E with sure := m, owes := true }) := fun m e h => by subst e; rw [sureN, sureE, if_pos h, if_pos h] at hK; exact hK
  have hF : E.sure ≥ min q E.got → K (.i E.sure) (RefH E) := fun h => by rw [sureN, sureE, if_neg (by omega), if_neg (by omega)] at hK; exact hK
  clear hK
  obtain ⟨self, other, out, wait, sent, got, sure, owes⟩ := E
  dsimp only at hT hF
  cbv; repeat' ((first | refine .e ?_ | refine .n fun h => ?_ | refine .y fun h => ?_ | refine .q fun z hz hz0 hz1 => ?_ | refine .mk (fun h => ?_) fun h => ?_ | refine .k fun z hz => ?_ | refine .o ?_ | refine .l fun ys hys hyl => ?_ | refine .zl fun zs hzs hzl => ?_ | refine .u fun u hu hul => ?_ | refine .z fun zs hzs => ?_ | refine .mk (fun h => ?_) ?_ | refine .ms fun ms hms => ?_ | refine .s fun s hs hsl => ?_ | refine And.intro ?_ ?_) <;> cbv)
  all_goals first
    | exact FinK.mk ⟨_, Gh.refl _, .inl (CutK.pre _ (by rfl) (by exact Nat.le_of_ble_eq_true rfl) (by rfl) (by rfl) (Le.refl _) (LeH.refl _) (hF (by omega)))⟩
    | exact FinK.mk ⟨_, Gh.refl _, .inl (CutK.pre _ (by rfl) (by exact Nat.le_of_ble_eq_true rfl) (by rfl) (by rfl) (Le.refl _) (LeH.refl _) (hT _ (by omega) (by omega)))⟩
end Go.Proofs.Ytaflinfpmbfieaa
namespace Go.Proofs.Ytaflinfpmbfieaa
open Go.RowKit
set_option maxHeartbeats 1000000
set_option maxRecDepth 100000
noncomputable def RAckedC : Ctr := spec (fun i : En × Nat × Int => [.ptr 0 0, .i i.2.2]) (fun i => RefH i.1) (fun i => InvE i.2.1 i.1) (fun i => .i (ackedN i.1 i.2.2)) fun i => RefH (ackedE i.1 i.2.2)
theorem racked_body (P : Program) : BodyOk P x41 RAckedC := by
  intro args H K hc
  obtain ⟨⟨E, M, q⟩, rfl, rfl, hi, hK⟩ := hc
  refine ⟨Nat.le_of_ble_eq_true rfl, ?_⟩
  dsimp only at hi hK ⊢
  have hT : ∀ m od, od = E.out.filter (fun l => decide (q < l.number)) → m = (E.out.length : Int) - od.length → K (.i m) (RefH { E with out := od }) := fun m od e1 e2 => by subst e2 e1; exact hK
  have h1 := hi.outL
  clear hK
  obtain ⟨self, other, out, wait, sent, got, sure, owes⟩ := E
  dsimp only at hT h1
  obtain ⟨n, hn⟩ : ∃ n, n = out.length := ⟨_, rfl⟩
  cbv; repeat' ((first | refine .e ?_ | refine .n fun h => ?_ | refine .y fun h => ?_ | refine .q fun z hz hz0 hz1 => ?_ | refine .mk (fun h => ?_) fun h => ?_ | refine .k fun z hz => ?_ | refine .o ?_ | refine .l fun ys hys hyl => ?_ | refine .zl fun zs hzs hzl => ?_ | refine .u fun u hu hul => ?_ | refine .z fun zs hzs => ?_ | refine .mk (fun h => ?_) ?_ | refine .ms fun ms hms => ?_ | refine .s fun s hs hsl => ?_ | refine And.intro ?_ ?_) <;> cbv)
  refine xloopV [1] (fun p : { p : Nat × List Lt // p.1 ≤ n ∧ p.2 = (out.take p.1).filter (fun l => decide (q < l.number)) ∧ p.2.length ≤ p.1 } => [(6, .i (nI p.1.1)), (5, .hd 1)]) (fun p => [.blk 53 (RefL ⟨self, other, out, wait, sent, got, sure, owes⟩), .row 40 14 (mapA LtA p.1.2)]) (fun p => lft n p.1.1) ⟨(0, []), Nat.zero_le _, rfl, Nat.zero_le _⟩ ?_
  rintro ⟨⟨i, od⟩, hi, hod, hle⟩
  dsimp only at hi hod hle ⊢
  cbv; repeat' ((first | refine .e ?_ | refine .n fun h => ?_ | refine .y fun h => ?_ | refine .q fun z hz hz0 hz1 => ?_ | refine .mk (fun h => ?_) fun h => ?_ | refine .k fun z hz => ?_ | refine .o ?_ | refine .l fun ys hys hyl => ?_ | refine .zl fun zs hzs hzl => ?_ | refine .u fun u hu hul => ?_ | refine .z fun zs hzs => ?_ | refine .mk (fun h => ?_) ?_ | refine .ms fun ms hms => ?_ | refine .s fun s hs hsl => ?_ | refine And.intro ?_ ?_) <;> cbv)
  · have hil : i < out.length := by ((try simp only [vn] at *) <;> omega)
    obtain ⟨l, hl⟩ := some_at hil
    have e := take_some hl
    obtain ⟨frm, to, number, kind, ack, deal, text, party, index, day, cur, amt, docs, boxes⟩ := l
    cbv; repeat' ((first | refine .e ?_ | refine .n fun h => ?_ | refine .y fun h => ?_ | refine .q fun z hz hz0 hz1 => ?_ | refine .mk (fun h => ?_) fun h => ?_ | refine .k fun z hz => ?_ | refine .o ?_ | refine .l fun ys hys hyl => ?_ | refine .zl fun zs hzs hzl => ?_ | refine .u fun u hu hul => ?_ | refine .z fun zs hzs => ?_ | refine .mk (fun h => ?_) ?_ | refine .ms fun ms hms => ?_ | refine .s fun s hs hsl => ?_ | refine And.intro ?_ ?_) <;> cbv)
    · obtain rfl := hz
      obtain rfl : zs = mapA LtA (od ++ [⟨frm, to, number, kind, ack, deal, text, party, index, day, cur, amt, docs, boxes⟩]) := by (rw [mapA_app, mapA_one]; first | exact hzs | (subst_vars; rfl))
      exact roundV ⟨(i + 1, od ++ [⟨frm, to, number, kind, ack, deal, text, party, index, day, cur, amt, docs, boxes⟩]), by dsimp only; omega, by dsimp only; rw [e, List.filter_append, ← hod, List.filter_cons_of_pos (by simpa using h)]; rfl, by simp; omega⟩ (lft_lt (by omega))
    · obtain rfl := hz
      exact roundV ⟨(i + 1, od), by dsimp only; omega, by dsimp only; rw [e, List.filter_append, ← hod, List.filter_cons_of_neg (by simpa using h)]; simp, by dsimp only; omega⟩ (lft_lt (by omega))
  · (refine FinK.mk ⟨_, (Gh.plain 1 rfl), ?_⟩; cbv; exact .inl (CutK.pre _ (by rfl) (by exact Nat.le_of_ble_eq_true rfl) (by rfl) (by rfl) (Le.refl _) (LeH.refl _) (hT z od (by rw [hod, List.take_of_length_le (by ((try simp only [vn] at *) <;> omega))]) (by ((try simp only [vn] at *) <;> omega)))))
noncomputable def RSendC : Ctr := spec (fun i : En × Nat × Lt => [.ptr 0 0, LtA i.2.2]) (fun i => RefH i.1) (fun i => InvE i.2.1 i.1) (fun i => LtA (sendL i.1 i.2.2)) fun i => RefH (sendE i.1 i.2.2)
theorem rsend_body (P : Program) : BodyOk P x37 RSendC := by
  intro args H K hc
  obtain ⟨⟨E, M, l⟩, rfl, rfl, hi, hK⟩ := hc
  refine ⟨Nat.le_of_ble_eq_true rfl, ?_⟩
  dsimp only at hi hK ⊢
  have h1 := hi.outL
  have h2 := hi.sent0
  have h3 := hi.sent1
  have hT : noSend E l → K (LtA zeroL) (RefH E) := fun h => by rw [sendL, sendE, if_pos h, if_pos h] at hK; exact hK
  have hF : ¬ noSend E l → ∀ s x, s = E.sent + 1 → x = { l with frm := E.self, to := E.other, number := s, ack := 0 } → K (LtA x) (RefH { E with sent := s, out := E.out ++ [x] }) := fun h s x e1 e2 => by
    subst e2 e1
    rw [sendL, sendE, if_neg h, if_neg h] at hK
    exact hK
  clear hK
  unfold noSend at hT hF
  obtain ⟨self, other, out, wait, sent, got, sure, owes⟩ := E
  obtain ⟨frm, to, number, kind, ack, deal, text, party, index, day, cur, amt, docs, boxes⟩ := l
  dsimp only at hT hF h1 h2 h3
  cbv; repeat' ((first | refine .e ?_ | refine .n fun h => ?_ | refine .y fun h => ?_ | refine .q fun z hz hz0 hz1 => ?_ | refine .mk (fun h => ?_) fun h => ?_ | refine .k fun z hz => ?_ | refine .o ?_ | refine .l fun ys hys hyl => ?_ | refine .zl fun zs hzs hzl => ?_ | refine .u fun u hu hul => ?_ | refine .z fun zs hzs => ?_ | refine .mk (fun h => ?_) ?_ | refine .ms fun ms hms => ?_ | refine .s fun s hs hsl => ?_ | refine And.intro ?_ ?_) <;> cbv)
  any_goals (first | (refine FinK.mk ⟨_, (Gh.refl _), ?_⟩; cbv; exact .inl (CutK.pre _ (by rfl) (by exact Nat.le_of_ble_eq_true rfl) (by rfl) (by rfl) (by repeat' (first | exact LeL.nil | exact LeL0.nil | exact LeH.nil | exact LeE.refl _ | exact Le.refl _ | exact Le0.one (.refl _) | exact Le0.one (.nil _) | exact Le1.refl _ | exact Le1.nil _ | refine LeH.cons ?_ ?_ | refine LeE.row ?_ | refine LeE.blk ?_ | refine LeL0.cons ?_ ?_ | refine LeL.cons ?_ ?_ | refine Le0.agg ?_ | refine Le.tup ?_ | exact Le.one (.one (.nil _)) | refine Le.one (.agg ?_))) (LeH.refl _) (hT (by ((try simp only [vn] at *) <;> omega))))) | skip)
  all_goals
    obtain rfl : zs = mapA LtA (out ++ [⟨self, other, z, kind, 0, deal, text, party, index, day, cur, amt, docs, boxes⟩]) := by (rw [mapA_app, mapA_one]; first | exact hzs | (subst_vars; rfl))
    (refine FinK.mk ⟨_, (Gh.plain 3 rfl), ?_⟩; cbv; exact .inl (CutK.pre _ (by rfl) (by exact Nat.le_of_ble_eq_true rfl) (by rfl) (by rfl) (Le.refl _) (LeH.refl _) (hF (by ((try simp only [vn] at *) <;> omega)) z _ hz rfl)))
noncomputable def RDueC : Ctr := spec (fun _ : En × Nat => [.ptr 0 0]) (fun i => RefH i.1) (fun i => InvE i.2 i.1) (fun i => .sl 14 (mapA LtA (dueL i.1))) fun i => RefH (dueE i.1)
theorem rdue_body (P : Program) : BodyOk P x28 RDueC := by
  intro args H K hc
  obtain ⟨⟨E, M⟩, rfl, rfl, hi, hK⟩ := hc
  refine ⟨Nat.le_of_ble_eq_true rfl, ?_⟩
  dsimp only at hi hK ⊢
  have h1 := hi.outL
  have hT : E.out = [] ∧ E.owes = true → K (.sl 14 (mapA LtA [ackL E])) (RefH { E with owes := false }) := fun h => by rw [dueL, if_pos h] at hK; exact hK
  have hF : ¬ (E.out = [] ∧ E.owes = true) → ∀ L, L = E.out.map (withAck E.sure) → K (.sl 14 (mapA LtA L)) (RefH { E with owes := false }) := fun h L e => by rw [dueL, if_neg h, ← e] at hK; exact hK
  clear hK
  obtain ⟨self, other, out, wait, sent, got, sure, owes⟩ := E
  dsimp only [ackL] at hT hF h1
  obtain ⟨n, hn⟩ : ∃ n, n = out.length := ⟨_, rfl⟩
  cbv; repeat' ((first | refine .e ?_ | refine .n fun h => ?_ | refine .y fun h => ?_ | refine .q fun z hz hz0 hz1 => ?_ | refine .mk (fun h => ?_) fun h => ?_ | refine .k fun z hz => ?_ | refine .o ?_ | refine .l fun ys hys hyl => ?_ | refine .zl fun zs hzs hzl => ?_ | refine .u fun u hu hul => ?_ | refine .z fun zs hzs => ?_ | refine .mk (fun h => ?_) ?_ | refine .ms fun ms hms => ?_ | refine .s fun s hs hsl => ?_ | refine And.intro ?_ ?_) <;> cbv)
  refine xloopV [1] (fun p : { p : Nat × List Lt // p.1 ≤ n ∧ p.2 = (out.take p.1).map (withAck sure) ∧ p.2.length = p.1 } => [(4, .i (nI p.1.1)), (3, .hd 1)]) (fun p => [.blk 53 (RefL ⟨self, other, out, wait, sent, got, sure, owes⟩), .row 40 14 (mapA LtA p.1.2)]) (fun p => lft n p.1.1) ⟨(0, []), Nat.zero_le _, rfl, rfl⟩ ?_
  rintro ⟨⟨i, od⟩, hi, hod, hle⟩
  dsimp only at hi hod hle ⊢
  cbv; repeat' ((first | refine .e ?_ | refine .n fun h => ?_ | refine .y fun h => ?_ | refine .q fun z hz hz0 hz1 => ?_ | refine .mk (fun h => ?_) fun h => ?_ | refine .k fun z hz => ?_ | refine .o ?_ | refine .l fun ys hys hyl => ?_ | refine .zl fun zs hzs hzl => ?_ | refine .u fun u hu hul => ?_ | refine .z fun zs hzs => ?_ | refine .mk (fun h => ?_) ?_ | refine .ms fun ms hms => ?_ | refine .s fun s hs hsl => ?_ | refine And.intro ?_ ?_) <;> cbv)
  · have hil : i < out.length := by ((try simp only [vn] at *) <;> omega)
    obtain ⟨l, hl⟩ := some_at hil
    have e := take_some hl
    obtain ⟨frm, to, number, kind, ack, deal, text, party, index, day, cur, amt, docs, boxes⟩ := l
    cbv; repeat' ((first | refine .e ?_ | refine .n fun h => ?_ | refine .y fun h => ?_ | refine .q fun z hz hz0 hz1 => ?_ | refine .mk (fun h => ?_) fun h => ?_ | refine .k fun z hz => ?_ | refine .o ?_ | refine .l fun ys hys hyl => ?_ | refine .zl fun zs hzs hzl => ?_ | refine .u fun u hu hul => ?_ | refine .z fun zs hzs => ?_ | refine .mk (fun h => ?_) ?_ | refine .ms fun ms hms => ?_ | refine .s fun s hs hsl => ?_ | refine And.intro ?_ ?_) <;> cbv)
    obtain rfl : zs = mapA LtA (od ++ [⟨frm, to, number, kind, sure, deal, text, party, index, day, cur, amt, docs, boxes⟩]) := by (rw [mapA_app, mapA_one]; first | exact hzs | (subst_vars; rfl))
    obtain rfl := hz
    exact roundV ⟨(i + 1, od ++ [⟨frm, to, number, kind, sure, deal, text, party, index, day, cur, amt, docs, boxes⟩]), by dsimp only; omega, by dsimp only; rw [e, List.map_append, ← hod]; rfl, by dsimp only; rw [List.length_append, hle]; rfl⟩ (lft_lt (by omega))
  · have hoe : out = [] := List.eq_nil_of_length_eq_zero (by ((try simp only [vn] at *) <;> omega))
    cases owes with
    | true =>
      cbv; repeat' ((first | refine .e ?_ | refine .n fun h => ?_ | refine .y fun h => ?_ | refine .q fun z hz hz0 hz1 => ?_ | refine .mk (fun h => ?_) fun h => ?_ | refine .k fun z hz => ?_ | refine .o ?_ | refine .l fun ys hys hyl => ?_ | refine .zl fun zs hzs hzl => ?_ | refine .u fun u hu hul => ?_ | refine .z fun zs hzs => ?_ | refine .mk (fun h => ?_) ?_ | refine .ms fun ms hms => ?_ | refine .s fun s hs hsl => ?_ | refine And.intro ?_ ?_) <;> cbv)
      have hod0 : od = [] := by rw [hod, hoe]; simp
      subst hod0
      have hzs := hzs.trans (List.nil_append _)
      subst hzs
      refine FinK.mk ⟨_, (Gh.le _ (LeH.cons (LeE.refl _) (LeH.cons (LeE.row (m := mapA LtA [⟨self, other, 0, 28, sure, ⟨#[]⟩, ⟨#[]⟩, ⟨#[]⟩, 0, 0, ⟨#[]⟩, 0, [], []⟩]) (by repeat' (first | exact LeL.nil | exact LeL0.nil | exact LeH.nil | exact LeE.refl _ | exact Le.refl _ | exact Le0.one (.refl _) | exact Le0.one (.nil _) | exact Le1.refl _ | exact Le1.nil _ | refine LeH.cons ?_ ?_ | refine LeE.row ?_ | refine LeE.blk ?_ | refine LeL0.cons ?_ ?_ | refine LeL.cons ?_ ?_ | refine Le0.agg ?_ | refine Le.tup ?_ | exact Le.one (.one (.nil _)) | refine Le.one (.agg ?_)))) (LeH.refl _)))).trans (Gh.plain 1 rfl), ?_⟩
      cbv
      exact .inl (CutK.pre _ (by rfl) (by exact Nat.le_of_ble_eq_true rfl) (by rfl) (by rfl) (Le.refl _) (LeH.refl _) (hT ⟨hoe, rfl⟩))
    | false =>
      cbv; repeat' ((first | refine .e ?_ | refine .n fun h => ?_ | refine .y fun h => ?_ | refine .q fun z hz hz0 hz1 => ?_ | refine .mk (fun h => ?_) fun h => ?_ | refine .k fun z hz => ?_ | refine .o ?_ | refine .l fun ys hys hyl => ?_ | refine .zl fun zs hzs hzl => ?_ | refine .u fun u hu hul => ?_ | refine .z fun zs hzs => ?_ | refine .mk (fun h => ?_) ?_ | refine .ms fun ms hms => ?_ | refine .s fun s hs hsl => ?_ | refine And.intro ?_ ?_) <;> cbv)
      have hod0 : od = [] := by rw [hod, hoe]; simp
      (refine FinK.mk ⟨_, (Gh.plain 1 rfl), ?_⟩; cbv; exact .inl (CutK.pre _ (by rfl) (by exact Nat.le_of_ble_eq_true rfl) (by rfl) (by rfl) (Le.refl _) (LeH.refl _) (hF (by simp) od (by rw [hod0, hoe]; rfl))))
  · cbv; repeat' ((first | refine .e ?_ | refine .n fun h => ?_ | refine .y fun h => ?_ | refine .q fun z hz hz0 hz1 => ?_ | refine .mk (fun h => ?_) fun h => ?_ | refine .k fun z hz => ?_ | refine .o ?_ | refine .l fun ys hys hyl => ?_ | refine .zl fun zs hzs hzl => ?_ | refine .u fun u hu hul => ?_ | refine .z fun zs hzs => ?_ | refine .mk (fun h => ?_) ?_ | refine .ms fun ms hms => ?_ | refine .s fun s hs hsl => ?_ | refine And.intro ?_ ?_) <;> cbv)
    have hne : ¬ (out = [] ∧ owes = true) := fun hh => by
      obtain ⟨hh, _⟩ := hh
      subst hh
      simp at hod
      subst hod
      ((try simp only [vn] at *) <;> omega)
    (refine FinK.mk ⟨_, (Gh.plain 1 rfl), ?_⟩; cbv; exact .inl (CutK.pre _ (by rfl) (by exact Nat.le_of_ble_eq_true rfl) (by rfl) (by rfl) (Le.refl _) (LeH.refl _) (hF hne od (by rw [hod, List.take_of_length_le (by ((try simp only [vn] at *) <;> omega))]))))
end Go.Proofs.Ytaflinfpmbfieaa
namespace Go.Proofs.Ytaflinfpmbfieaa
open Go.RowKit
set_option maxHeartbeats 2000000
set_option maxRecDepth 100000
noncomputable def RTakeC : Ctr := spec (fun i : En × Nat × Lt => [.ptr 0 0, LtA i.2.2]) (fun i => RefH i.1) (fun i => InvE i.2.1 i.1 ∧ Small i.2.2 ∧ i.2.1 ≤ 1060000) (fun i => .tup [.sl 14 (mapA LtA (takeR i.1 i.2.2).2), .bl (decide (OwnL i.1 i.2.2))]) fun i => RefH (takeR i.1 i.2.2).1
theorem rtake_body (P : Program) (hown : FnOk P 25 ROwnC) (hacked : FnOk P 41 RAckedC) (hfind : FnOk P 47 FindC) : BodyOk P x38 RTakeC := by
  intro args H K hc
  obtain ⟨⟨E, M, l⟩, rfl, rfl, ⟨hi, hs, hM⟩, hK⟩ := hc
  refine ⟨Nat.le_of_ble_eq_true rfl, ?_⟩
  dsimp only at hi hs hM hK ⊢
  have hEE : ackedE E l.ack = { E with out := (ackedE E l.ack).out } := rfl
  obtain ⟨od, hod⟩ : ∃ od, od = (ackedE E l.ack).out := ⟨_, rfl⟩
  rw [← hod] at hEE
  obtain ⟨na, hna⟩ : ∃ na, na = ackedN E l.ack := ⟨_, rfl⟩
  obtain ⟨b, hb⟩ : ∃ b, b = decide (OwnL E l) := ⟨_, rfl⟩
  rw [← hb] at hK
  have hg0 := hi.got0
  have hgM := hi.gotM
  have hnum := hs.number
  unfold i64 at hnum
  have hNo : b = false → K (.tup [.sl 14 [], .bl false]) (RefH E) := fun h => by
    rw [takeR, if_pos (of_decide_eq_false (by rw [← hb, h])), h] at hK; exact hK
  have hAck : b = true → l.kind = 28 → K (.tup [.sl 14 [], .bl true]) (RefH { E with out := od }) := fun h h1 => by
    rw [takeR, if_neg (fun hh => hh (of_decide_eq_true (by rw [← hb, h]))), if_pos h1, h, hEE] at hK; exact hK
  have hIdle : b = true → l.kind ≠ 28 → noWait E l → K (.tup [.sl 14 [], .bl true]) (RefH { E with out := od, owes := true }) := fun h h1 h2 => by
    rw [takeR, if_neg (fun hh => hh (of_decide_eq_true (by rw [← hb, h]))), if_neg h1, if_pos h2, h, heard, hEE] at hK; exact hK
  have hPut : b = true → l.kind ≠ 28 → ¬ noWait E l → ∀ wl R, wl = E.wait ++ [l] → R = pull wl.length { E with out := od, wait := wl, owes := true } [] → K (.tup [.sl 14 (mapA LtA R.2), .bl true]) (RefH R.1) := fun h h1 h2 wl R e1 e2 => by
    subst e1
    rw [takeR, if_neg (fun hh => hh (of_decide_eq_true (by rw [← hb, h]))), if_neg h1, if_neg h2, h, put, heard, hEE] at hK
    rw [List.length_append] at e2
    subst e2
    exact hK
  clear hK
  obtain ⟨self, other, out, wait, sent, got, sure, owes⟩ := E
  obtain ⟨frm, to, number, kind, ack, deal, text, party, index, day, cur, amt, docs, boxes⟩ := l
  dsimp only at hg0 hgM hnum hNo hAck hIdle hPut
  cbv; repeat' ((first | refine .e ?_ | refine .n fun h => ?_ | refine .y fun h => ?_ | refine .q fun z hz hz0 hz1 => ?_ | refine .mk (fun h => ?_) fun h => ?_ | refine .k fun z hz => ?_ | refine .o ?_ | refine .l fun ys hys hyl => ?_ | refine .zl fun zs hzs hzl => ?_ | refine .u fun u hu hul => ?_ | refine .z fun zs hzs => ?_ | refine .mk (fun h => ?_) ?_ | refine .ms fun ms hms => ?_ | refine .s fun s hs hsl => ?_ | refine And.intro ?_ ?_) <;> cbv)
  refine callG_ro hown 0 (rest := [LtA ⟨frm, to, number, kind, ack, deal, text, party, index, day, cur, amt, docs, boxes⟩]) (fun x => (⟨self, other, out, wait, sent, got, sure, owes⟩, M, ⟨frm, to, number, kind, ack, deal, text, party, index, day, cur, amt, docs, boxes⟩)) rfl rfl rfl rfl (fun _ => rfl) (fun x hx => ⟨rfl, hi, ?_⟩)
  dsimp only
  rw [← hb]
  cases b with
  | false =>
    cbv; repeat' ((first | refine .e ?_ | refine .n fun h => ?_ | refine .y fun h => ?_ | refine .q fun z hz hz0 hz1 => ?_ | refine .mk (fun h => ?_) fun h => ?_ | refine .k fun z hz => ?_ | refine .o ?_ | refine .l fun ys hys hyl => ?_ | refine .zl fun zs hzs hzl => ?_ | refine .u fun u hu hul => ?_ | refine .z fun zs hzs => ?_ | refine .mk (fun h => ?_) ?_ | refine .ms fun ms hms => ?_ | refine .s fun s hs hsl => ?_ | refine And.intro ?_ ?_) <;> cbv)
    (refine FinK.mk ⟨_, (Gh.refl _), ?_⟩; cbv; exact .inl (CutK.pre _ (by rfl) (by exact Nat.le_of_ble_eq_true rfl) (by rfl) (by rfl) (by repeat' (first | exact LeL.nil | exact LeL0.nil | exact LeH.nil | exact LeE.refl _ | exact Le.refl _ | exact Le0.one (.refl _) | exact Le0.one (.nil _) | exact Le1.refl _ | exact Le1.nil _ | refine LeH.cons ?_ ?_ | refine LeE.row ?_ | refine LeE.blk ?_ | refine LeL0.cons ?_ ?_ | refine LeL.cons ?_ ?_ | refine Le0.agg ?_ | refine Le.tup ?_ | exact Le.one (.one (.nil _)) | refine Le.one (.agg ?_))) (LeH.refl _) (hNo rfl)))
  | true =>
    cbv; repeat' ((first | refine .e ?_ | refine .n fun h => ?_ | refine .y fun h => ?_ | refine .q fun z hz hz0 hz1 => ?_ | refine .mk (fun h => ?_) fun h => ?_ | refine .k fun z hz => ?_ | refine .o ?_ | refine .l fun ys hys hyl => ?_ | refine .zl fun zs hzs hzl => ?_ | refine .u fun u hu hul => ?_ | refine .z fun zs hzs => ?_ | refine .mk (fun h => ?_) ?_ | refine .ms fun ms hms => ?_ | refine .s fun s hs hsl => ?_ | refine And.intro ?_ ?_) <;> cbv)
    refine callG_spec hacked (⟨self, other, out, wait, sent, got, sure, owes⟩, M, ack) [0] hi rfl rfl (by decide) rfl rfl rfl rfl rfl ?_
    dsimp only
    rw [hEE, ← hna]
    cbv; repeat' ((first | refine .e ?_ | refine .n fun h => ?_ | refine .y fun h => ?_ | refine .q fun z hz hz0 hz1 => ?_ | refine .mk (fun h => ?_) fun h => ?_ | refine .k fun z hz => ?_ | refine .o ?_ | refine .l fun ys hys hyl => ?_ | refine .zl fun zs hzs hzl => ?_ | refine .u fun u hu hul => ?_ | refine .z fun zs hzs => ?_ | refine .mk (fun h => ?_) ?_ | refine .ms fun ms hms => ?_ | refine .s fun s hs hsl => ?_ | refine And.intro ?_ ?_) <;> cbv)
    · (refine FinK.mk ⟨_, (Gh.refl _), ?_⟩; cbv; exact .inl (CutK.pre _ (by rfl) (by exact Nat.le_of_ble_eq_true rfl) (by rfl) (by rfl) (by repeat' (first | exact LeL.nil | exact LeL0.nil | exact LeH.nil | exact LeE.refl _ | exact Le.refl _ | exact Le0.one (.refl _) | exact Le0.one (.nil _) | exact Le1.refl _ | exact Le1.nil _ | refine LeH.cons ?_ ?_ | refine LeE.row ?_ | refine LeE.blk ?_ | refine LeL0.cons ?_ ?_ | refine LeL.cons ?_ ?_ | refine Le0.agg ?_ | refine Le.tup ?_ | exact Le.one (.one (.nil _)) | refine Le.one (.agg ?_))) (LeH.refl _) (hAck rfl h)))
    · (refine FinK.mk ⟨_, (Gh.refl _), ?_⟩; cbv; exact .inl (CutK.pre _ (by rfl) (by exact Nat.le_of_ble_eq_true rfl) (by rfl) (by rfl) (by repeat' (first | exact LeL.nil | exact LeL0.nil | exact LeH.nil | exact LeE.refl _ | exact Le.refl _ | exact Le0.one (.refl _) | exact Le0.one (.nil _) | exact Le1.refl _ | exact Le1.nil _ | refine LeH.cons ?_ ?_ | refine LeE.row ?_ | refine LeE.blk ?_ | refine LeL0.cons ?_ ?_ | refine LeL.cons ?_ ?_ | refine Le0.agg ?_ | refine Le.tup ?_ | exact Le.one (.one (.nil _)) | refine Le.one (.agg ?_))) (LeH.refl _) (hIdle rfl (by assumption) (.inl h))))
    · (refine FinK.mk ⟨_, (Gh.refl _), ?_⟩; cbv; exact .inl (CutK.pre _ (by rfl) (by exact Nat.le_of_ble_eq_true rfl) (by rfl) (by rfl) (by repeat' (first | exact LeL.nil | exact LeL0.nil | exact LeH.nil | exact LeE.refl _ | exact Le.refl _ | exact Le0.one (.refl _) | exact Le0.one (.nil _) | exact Le1.refl _ | exact Le1.nil _ | refine LeH.cons ?_ ?_ | refine LeE.row ?_ | refine LeE.blk ?_ | refine LeL0.cons ?_ ?_ | refine LeL.cons ?_ ?_ | refine Le0.agg ?_ | refine Le.tup ?_ | exact Le.one (.one (.nil _)) | refine Le.one (.agg ?_))) (LeH.refl _) (hIdle rfl (by assumption) (.inr (.inl (by dsimp only; omega))))))
    refine callG_spec0 hfind (wait, number) (by dsimp only; ((try simp only [vn] at *) <;> omega)) rfl rfl rfl ?_
    dsimp only
    cases hat : at_ wait number with
    | some q =>
      rw [show findI wait number = nI q by rw [findI, hat]; rfl]
      cbv; repeat' ((first | refine .e ?_ | refine .n fun h => ?_ | refine .y fun h => ?_ | refine .q fun z hz hz0 hz1 => ?_ | refine .mk (fun h => ?_) fun h => ?_ | refine .k fun z hz => ?_ | refine .o ?_ | refine .l fun ys hys hyl => ?_ | refine .zl fun zs hzs hzl => ?_ | refine .u fun u hu hul => ?_ | refine .z fun zs hzs => ?_ | refine .mk (fun h => ?_) ?_ | refine .ms fun ms hms => ?_ | refine .s fun s hs hsl => ?_ | refine And.intro ?_ ?_) <;> cbv)
      (refine FinK.mk ⟨_, (Gh.refl _), ?_⟩; cbv; exact .inl (CutK.pre _ (by rfl) (by exact Nat.le_of_ble_eq_true rfl) (by rfl) (by rfl) (by repeat' (first | exact LeL.nil | exact LeL0.nil | exact LeH.nil | exact LeE.refl _ | exact Le.refl _ | exact Le0.one (.refl _) | exact Le0.one (.nil _) | exact Le1.refl _ | exact Le1.nil _ | refine LeH.cons ?_ ?_ | refine LeE.row ?_ | refine LeE.blk ?_ | refine LeL0.cons ?_ ?_ | refine LeL.cons ?_ ?_ | refine Le0.agg ?_ | refine Le.tup ?_ | exact Le.one (.one (.nil _)) | refine Le.one (.agg ?_))) (LeH.refl _) (hIdle rfl (by assumption) (.inr (.inr (by dsimp only; rw [hat]; rfl))))))
    | none =>
      rw [show findI wait number = -1 by rw [findI, hat]]
      have hnw : ¬ noWait ⟨self, other, out, wait, sent, got, sure, owes⟩ ⟨frm, to, number, kind, ack, deal, text, party, index, day, cur, amt, docs, boxes⟩ := by
        unfold noWait; dsimp only; rw [hat]; rintro (a | a | a) <;> first | omega | cases a
      obtain ⟨wl, hwl⟩ : ∃ wl, wl = wait ++ [(⟨frm, to, number, kind, ack, deal, text, party, index, day, cur, amt, docs, boxes⟩ : Lt)] := ⟨_, rfl⟩
      obtain ⟨R, hR⟩ : ∃ R, R = pull wl.length ⟨self, other, od, wl, sent, got, sure, true⟩ [] := ⟨_, rfl⟩
      have hPut := hPut rfl (by assumption) hnw wl R hwl hR
      have hwll : wl.length = wait.length + 1 := by rw [hwl, List.length_append]; rfl
      cbv; repeat' ((first | refine .e ?_ | refine .n fun h => ?_ | refine .y fun h => ?_ | refine .q fun z hz hz0 hz1 => ?_ | refine .mk (fun h => ?_) fun h => ?_ | refine .k fun z hz => ?_ | refine .o ?_ | refine .l fun ys hys hyl => ?_ | refine .zl fun zs hzs hzl => ?_ | refine .u fun u hu hul => ?_ | refine .z fun zs hzs => ?_ | refine .mk (fun h => ?_) ?_ | refine .ms fun ms hms => ?_ | refine .s fun s hs hsl => ?_ | refine And.intro ?_ ?_) <;> cbv)
      all_goals
        obtain rfl : zs = mapA LtA wl := by (rw [hwl, mapA_app, mapA_one]; subst_vars; rfl)
        refine xloopG (Gh.plain 2 rfl) ?_
        cbv
        refine xloopV [6] (fun p : { p : Nat × List Lt × Int × List Lt // p.1 = p.2.1.length ∧ 0 ≤ p.2.2.1 ∧ p.2.2.1 + p.1 ≤ M + 1 ∧ (p.2.2.2.length : Int) ≤ p.2.2.1 ∧ pull p.1 ⟨self, other, od, p.2.1, sent, p.2.2.1, sure, true⟩ p.2.2.2 = R } => [(6, .hd 6)]) (fun p => [.blk 53 (RefL ⟨self, other, od, p.1.2.1, sent, p.1.2.2.1, sure, true⟩), .blk 40 (LtA ⟨frm, to, number, kind, ack, deal, text, party, index, day, cur, amt, docs, boxes⟩).cells, .tip 40 14 (mapA LtA wl), .dead, .row 40 14 [LtA ⟨frm, to, number, kind, ack, deal, text, party, index, day, cur, amt, docs, boxes⟩], .dead, .row 40 14 (mapA LtA p.1.2.2.2)]) (fun p => lft p.1.1 0) ⟨(wl.length, wl, got, []), rfl, hg0, by dsimp only; ((try simp only [vn] at *) <;> omega), by dsimp only [List.length]; ((try simp only [vn] at *) <;> omega), hR.symm⟩ ?_
        rintro ⟨⟨m, ws, g, told⟩, hm, hg1, hgm, htl, hp⟩
        dsimp only at hm hg1 hgm htl hp ⊢
        cbv; repeat' ((first | refine .e ?_ | refine .n fun h => ?_ | refine .y fun h => ?_ | refine .q fun z hz hz0 hz1 => ?_ | refine .mk (fun h => ?_) fun h => ?_ | refine .k fun z hz => ?_ | refine .o ?_ | refine .l fun ys hys hyl => ?_ | refine .zl fun zs hzs hzl => ?_ | refine .u fun u hu hul => ?_ | refine .z fun zs hzs => ?_ | refine .mk (fun h => ?_) ?_ | refine .ms fun ms hms => ?_ | refine .s fun s hs hsl => ?_ | refine And.intro ?_ ?_) <;> cbv)
        refine callG_spec0 hfind (ws, z) (by dsimp only; ((try simp only [vn] at *) <;> omega)) rfl rfl rfl ?_
        dsimp only
        cases hq : at_ ws z with
        | none =>
          rw [show findI ws z = -1 by rw [findI, hq]]
          cbv; repeat' ((first | refine .e ?_ | refine .n fun h => ?_ | refine .y fun h => ?_ | refine .q fun z hz hz0 hz1 => ?_ | refine .mk (fun h => ?_) fun h => ?_ | refine .k fun z hz => ?_ | refine .o ?_ | refine .l fun ys hys hyl => ?_ | refine .zl fun zs hzs hzl => ?_ | refine .u fun u hu hul => ?_ | refine .z fun zs hzs => ?_ | refine .mk (fun h => ?_) ?_ | refine .ms fun ms hms => ?_ | refine .s fun s hs hsl => ?_ | refine And.intro ?_ ?_) <;> cbv)
          have hpn : pull m ⟨self, other, od, ws, sent, g, sure, true⟩ told = (⟨self, other, od, ws, sent, g, sure, true⟩, told) := by
            cases m with
            | zero => rfl
            | succ n => unfold pull; dsimp only; rw [← hz, hq]
          have hPut := hPut
          rw [← hp, hpn] at hPut
          refine FinK.mk ⟨_, Gh.plain 6 rfl, ?_⟩
          cbv
          exact .inl (CutK.pre _ (by rfl) (by exact Nat.le_of_ble_eq_true rfl) (by rfl) (by rfl) (Le.refl _) (LeH.refl _) hPut)
        | some q =>
          obtain ⟨hql, hqn⟩ := at_some hq
          rw [show findI ws z = nI q by rw [findI, hq]; rfl]
          cbv; repeat' ((first | refine .e ?_ | refine .n fun h => ?_ | refine .y fun h => ?_ | refine .q fun z hz hz0 hz1 => ?_ | refine .mk (fun h => ?_) fun h => ?_ | refine .k fun z hz => ?_ | refine .o ?_ | refine .l fun ys hys hyl => ?_ | refine .zl fun zs hzs hzl => ?_ | refine .u fun u hu hul => ?_ | refine .z fun zs hzs => ?_ | refine .mk (fun h => ?_) ?_ | refine .ms fun ms hms => ?_ | refine .s fun s hs hsl => ?_ | refine And.intro ?_ ?_) <;> cbv)
          refine callG_spec0 hfind (ws, z) (by dsimp only; ((try simp only [vn] at *) <;> omega)) rfl rfl rfl ?_
          dsimp only
          have hq2 : at_ ws z = some q := by rw [← hq]; congr 1; omega
          rw [show findI ws z = nI q by rw [findI, hq2]; rfl]
          obtain ⟨l2, hl2⟩ := some_at hql
          obtain ⟨frm2, to2, number2, kind2, ack2, deal2, text2, party2, index2, day2, cur2, amt2, docs2, boxes2⟩ := l2
          cbv; repeat' ((first | refine .e ?_ | refine .n fun h => ?_ | refine .y fun h => ?_ | refine .q fun z hz hz0 hz1 => ?_ | refine .mk (fun h => ?_) fun h => ?_ | refine .k fun z hz => ?_ | refine .o ?_ | refine .l fun ys hys hyl => ?_ | refine .zl fun zs hzs hzl => ?_ | refine .u fun u hu hul => ?_ | refine .z fun zs hzs => ?_ | refine .mk (fun h => ?_) ?_ | refine .ms fun ms hms => ?_ | refine .s fun s hs hsl => ?_ | refine And.intro ?_ ?_) <;> cbv)
          obtain rfl : zs = mapA LtA (told ++ [⟨frm2, to2, number2, kind2, ack2, deal2, text2, party2, index2, day2, cur2, amt2, docs2, boxes2⟩]) := by (rw [mapA_app, mapA_one]; first | exact hzs | (subst_vars; rfl))
          obtain rfl : ys = ws.eraseIdx q := by
            rw [List.eraseIdx_eq_take_drop_succ, hys]
            congr 1
            all_goals
              subst_vars
              try simp
          have hyl2 : (ws.eraseIdx q).length + 1 = ws.length := by rw [List.length_eraseIdx, if_pos hql]; omega
          refine roundG (Gh.plain 8 rfl) ?_
          exact roundV ⟨((ws.eraseIdx q).length, ws.eraseIdx q, z, told ++ [⟨frm2, to2, number2, kind2, ack2, deal2, text2, party2, index2, day2, cur2, amt2, docs2, boxes2⟩]), rfl, by dsimp only; ((try simp only [vn] at *) <;> omega), by dsimp only; ((try simp only [vn] at *) <;> omega), by dsimp only; simp only [List.length_append, List.length_cons, List.length_nil]; ((try simp only [vn] at *) <;> omega), by (dsimp only; rw [← hp, hm, ← hyl2, pull]; dsimp only; rw [show at_ ws (g + 1) = some q by rw [← hq]; congr 1; omega]; dsimp only; rw [hl2, hz]; rfl)⟩ (num_lt (by dsimp only; ((try simp only [vn] at *) <;> omega)))
end Go.Proofs.Ytaflinfpmbfieaa
namespace Go.Proofs.Ytaflinfpmbfieaa
open Go.RowKit
set_option maxHeartbeats 2000000
set_option maxRecDepth 100000
theorem rnames_body (P : Program) (hname : FnOk P 36 NameC) : BodyOk P x21 PartC := by
  intro args H K hc
  obtain ⟨⟨a, b⟩, rfl, rfl, ⟨h1, h2⟩, hK⟩ := hc
  refine ⟨Nat.le_of_ble_eq_true rfl, ?_⟩
  dsimp only at h1 h2 hK ⊢
  rw [partB] at hK
  cbv; repeat' ((first | refine .e ?_ | refine .n fun h => ?_ | refine .y fun h => ?_ | refine .q fun z hz hz0 hz1 => ?_ | refine .mk (fun h => ?_) fun h => ?_ | refine .k fun z hz => ?_ | refine .o ?_ | refine .l fun ys hys hyl => ?_ | refine .zl fun zs hzs hzl => ?_ | refine .u fun u hu hul => ?_ | refine .z fun zs hzs => ?_ | refine .mk (fun h => ?_) ?_ | refine .ms fun ms hms => ?_ | refine .s fun s hs hsl => ?_ | refine And.intro ?_ ?_) <;> cbv)
  refine callG_spec0 hname _ (by unfold maxLen; omega) rfl rfl rfl ?_
  obtain ⟨na, hna⟩ : ∃ n, n = nameB a := ⟨_, rfl⟩
  obtain ⟨nb, hnb⟩ : ∃ n, n = nameB b := ⟨_, rfl⟩
  rw [← hna, ← hnb] at hK
  rw [← hna]
  cases na with
  | false =>
    cbv; repeat' ((first | refine .e ?_ | refine .n fun h => ?_ | refine .y fun h => ?_ | refine .q fun z hz hz0 hz1 => ?_ | refine .mk (fun h => ?_) fun h => ?_ | refine .k fun z hz => ?_ | refine .o ?_ | refine .l fun ys hys hyl => ?_ | refine .zl fun zs hzs hzl => ?_ | refine .u fun u hu hul => ?_ | refine .z fun zs hzs => ?_ | refine .mk (fun h => ?_) ?_ | refine .ms fun ms hms => ?_ | refine .s fun s hs hsl => ?_ | refine And.intro ?_ ?_) <;> cbv)
    exact FinK.mk ⟨_, Gh.refl _, .inl (CutK.val rfl (Le.refl _) hK)⟩
  | true =>
    cbv; repeat' ((first | refine .e ?_ | refine .n fun h => ?_ | refine .y fun h => ?_ | refine .q fun z hz hz0 hz1 => ?_ | refine .mk (fun h => ?_) fun h => ?_ | refine .k fun z hz => ?_ | refine .o ?_ | refine .l fun ys hys hyl => ?_ | refine .zl fun zs hzs hzl => ?_ | refine .u fun u hu hul => ?_ | refine .z fun zs hzs => ?_ | refine .mk (fun h => ?_) ?_ | refine .ms fun ms hms => ?_ | refine .s fun s hs hsl => ?_ | refine And.intro ?_ ?_) <;> cbv)
    refine callG_spec0 hname _ (by unfold maxLen; omega) rfl rfl rfl ?_
    rw [← hnb]
    cases nb with
    | false =>
      cbv; repeat' ((first | refine .e ?_ | refine .n fun h => ?_ | refine .y fun h => ?_ | refine .q fun z hz hz0 hz1 => ?_ | refine .mk (fun h => ?_) fun h => ?_ | refine .k fun z hz => ?_ | refine .o ?_ | refine .l fun ys hys hyl => ?_ | refine .zl fun zs hzs hzl => ?_ | refine .u fun u hu hul => ?_ | refine .z fun zs hzs => ?_ | refine .mk (fun h => ?_) ?_ | refine .ms fun ms hms => ?_ | refine .s fun s hs hsl => ?_ | refine And.intro ?_ ?_) <;> cbv)
      exact FinK.mk ⟨_, Gh.refl _, .inl (CutK.val rfl (Le.refl _) hK)⟩
    | true =>
      cbv; repeat' ((first | refine .e ?_ | refine .n fun h => ?_ | refine .y fun h => ?_ | refine .q fun z hz hz0 hz1 => ?_ | refine .mk (fun h => ?_) fun h => ?_ | refine .k fun z hz => ?_ | refine .o ?_ | refine .l fun ys hys hyl => ?_ | refine .zl fun zs hzs hzl => ?_ | refine .u fun u hu hul => ?_ | refine .z fun zs hzs => ?_ | refine .mk (fun h => ?_) ?_ | refine .ms fun ms hms => ?_ | refine .s fun s hs hsl => ?_ | refine And.intro ?_ ?_) <;> cbv)
      · rw [decide_eq_true h] at hK
        exact FinK.mk ⟨_, Gh.refl _, .inl (CutK.val rfl (Le.refl _) hK)⟩
      · rw [decide_eq_false h] at hK
        exact FinK.mk ⟨_, Gh.refl _, .inl (CutK.val rfl (Le.refl _) hK)⟩
noncomputable def ROfC : Ctr := fun args H K => ∃ (a b : ByteArray) (L : List Lt) (acked got : Int), args = [.str a, .str b, .sl 14 (mapA LtA L), .i acked, .i got] ∧ H = [] ∧ (a.size ≤ 100 ∧ b.size ≤ 100 ∧ L.length ≤ 5000) ∧
  (ofArg a b L acked got → K (.i 1) []) ∧
  (¬ ofArg a b L acked got → ∀ (i : Nat) (h : i < L.length), ofForm a b acked i L[i] → K (.i 2) []) ∧
  (¬ ofArg a b L acked got → (∀ (i : Nat) (h : i < L.length), ¬ ofForm a b acked i L[i]) → K (.i 0) [])
theorem rof_body (P : Program) (hp : FnOk P 21 PartC) : BodyOk P x30 ROfC := by
  intro args H K hc
  obtain ⟨a, b, L, acked, got, rfl, rfl, ⟨h1, h2, h3⟩, hK1, hK2, hK3⟩ := hc
  refine ⟨Nat.le_of_ble_eq_true rfl, ?_⟩
  cbv; repeat' ((first | refine .e ?_ | refine .n fun h => ?_ | refine .y fun h => ?_ | refine .q fun z hz hz0 hz1 => ?_ | refine .mk (fun h => ?_) fun h => ?_ | refine .k fun z hz => ?_ | refine .o ?_ | refine .l fun ys hys hyl => ?_ | refine .zl fun zs hzs hzl => ?_ | refine .u fun u hu hul => ?_ | refine .z fun zs hzs => ?_ | refine .mk (fun h => ?_) ?_ | refine .ms fun ms hms => ?_ | refine .s fun s hs hsl => ?_ | refine And.intro ?_ ?_) <;> cbv)
  refine callG_spec0 hp (a, b) ⟨h1, h2⟩ rfl rfl rfl ?_
  dsimp only
  obtain ⟨pb, hpb⟩ : ∃ n, n = partB a b := ⟨_, rfl⟩
  rw [← hpb]
  cases pb with
  | false =>
    cbv; repeat' ((first | refine .e ?_ | refine .n fun h => ?_ | refine .y fun h => ?_ | refine .q fun z hz hz0 hz1 => ?_ | refine .mk (fun h => ?_) fun h => ?_ | refine .k fun z hz => ?_ | refine .o ?_ | refine .l fun ys hys hyl => ?_ | refine .zl fun zs hzs hzl => ?_ | refine .u fun u hu hul => ?_ | refine .z fun zs hzs => ?_ | refine .mk (fun h => ?_) ?_ | refine .ms fun ms hms => ?_ | refine .s fun s hs hsl => ?_ | refine And.intro ?_ ?_) <;> cbv)
    exact FinK.mk ⟨_, Gh.refl _, .inl (CutK.val rfl (Le.refl _) (hK1 (.inl hpb.symm)))⟩
  | true =>
    cbv; repeat' ((first | refine .e ?_ | refine .n fun h => ?_ | refine .y fun h => ?_ | refine .q fun z hz hz0 hz1 => ?_ | refine .mk (fun h => ?_) fun h => ?_ | refine .k fun z hz => ?_ | refine .o ?_ | refine .l fun ys hys hyl => ?_ | refine .zl fun zs hzs hzl => ?_ | refine .u fun u hu hul => ?_ | refine .z fun zs hzs => ?_ | refine .mk (fun h => ?_) ?_ | refine .ms fun ms hms => ?_ | refine .s fun s hs hsl => ?_ | refine And.intro ?_ ?_) <;> cbv)
    any_goals (first | exact FinK.mk ⟨_, Gh.refl _, .inl (CutK.val rfl (Le.refl _) (hK1 (.inr (by ((try simp only [vn] at *) <;> omega)))))⟩ | skip)
    have hno : ¬ ofArg a b L acked got := by
      unfold ofArg
      rintro (h | h)
      · rw [← hpb] at h; cases h
      · ((try simp only [vn] at *) <;> omega)
    obtain ⟨n, hn⟩ : ∃ n, n = L.length := ⟨_, rfl⟩
    refine xloopV [] (fun p : { i : Nat // i ≤ n ∧ ∀ j (h : j < L.length), j < i → ¬ ofForm a b acked j L[j] } => [(11, .i (nI p.1))]) (fun _ => []) (fun p => lft n p.1) ⟨0, Nat.zero_le _, fun j _ h => by omega⟩ ?_
    rintro ⟨i, hi, hall⟩
    cbv; repeat' ((first | refine .e ?_ | refine .n fun h => ?_ | refine .y fun h => ?_ | refine .q fun z hz hz0 hz1 => ?_ | refine .mk (fun h => ?_) fun h => ?_ | refine .k fun z hz => ?_ | refine .o ?_ | refine .l fun ys hys hyl => ?_ | refine .zl fun zs hzs hzl => ?_ | refine .u fun u hu hul => ?_ | refine .z fun zs hzs => ?_ | refine .mk (fun h => ?_) ?_ | refine .ms fun ms hms => ?_ | refine .s fun s hs hsl => ?_ | refine And.intro ?_ ?_) <;> cbv)
    · have hil : i < L.length := by ((try simp only [vn] at *) <;> omega)
      refine askEl_mapA hil ?_
      have hbad := fun h => hK2 hno i hil h
      have hgood : ¬ ofForm a b acked i L[i] → ∀ j (h : j < L.length), j < i + 1 → ¬ ofForm a b acked j L[j] := fun h j hj hji => by
        rcases Nat.lt_or_ge j i with h1 | h1
        · exact hall j hj h1
        · obtain rfl : j = i := by omega
          exact h
      unfold ofForm at hbad hgood
      generalize L[i] = l at hbad hgood ⊢
      obtain ⟨frm, to, number, kind, ack, deal, text, party, index, day, cur, amt, docs, boxes⟩ := l
      dsimp only at hbad hgood
      cbv; repeat' ((first | refine .e ?_ | refine .n fun h => ?_ | refine .y fun h => ?_ | refine .q fun z hz hz0 hz1 => ?_ | refine .mk (fun h => ?_) fun h => ?_ | refine .k fun z hz => ?_ | refine .o ?_ | refine .l fun ys hys hyl => ?_ | refine .zl fun zs hzs hzl => ?_ | refine .u fun u hu hul => ?_ | refine .z fun zs hzs => ?_ | refine .mk (fun h => ?_) ?_ | refine .ms fun ms hms => ?_ | refine .s fun s hs hsl => ?_ | refine And.intro ?_ ?_) <;> cbv)
      any_goals (first | exact FinK.mk ⟨_, Gh.refl _, .inl (CutK.val rfl (Le.refl _) (hbad (by grind)))⟩ | skip)
      obtain rfl := hz
      exact roundV ⟨i + 1, by omega, hgood (by grind)⟩ (lft_lt (by omega))
    · have hin : n ≤ i := by ((try simp only [vn] at *) <;> omega)
      exact FinK.mk ⟨_, Gh.refl _, .inl (CutK.val rfl (Le.refl _) (hK3 hno fun j hj => hall j hj (by omega)))⟩
end Go.Proofs.Ytaflinfpmbfieaa
namespace Go.Proofs.Ytaflinfpmbfieaa
open Go.RowKit
set_option maxHeartbeats 2000000
set_option maxRecDepth 100000
/-! A letter as one line. -/
def dchr (n : Int) : ByteArray := strOf [IntKind.u8.wrap (48 + n)]
def dgN : Nat → Int → ByteArray → ByteArray
  | 0, n, s => dchr n ++ s
  | k + 1, n, s => if 9 < n then dgN k (n.tdiv 10) (dchr (n.tmod 10) ++ s) else dchr n ++ s
def dig (n : Int) : ByteArray := dgN 18 n ⟨#[]⟩
def digs (n : Int) : ByteArray := if n < 0 then ⟨#[45]⟩ ++ dig (-(n + 1)) ++ ⟨#[95]⟩ else dig n
def pw : Nat → Int
  | 0 => 10
  | k + 1 => 10 * pw k
theorem dchr_size (n : Int) : (dchr n).size = 1 := rfl
theorem dgN_size : ∀ (k : Nat) (n : Int) (s : ByteArray), (dgN k n s).size ≤ s.size + k + 1
  | 0, n, s => by unfold dgN; rw [ByteArray.size_append, dchr_size]; omega
  | k + 1, n, s => by
    unfold dgN
    split
    · have := dgN_size k (n.tdiv 10) (dchr (n.tmod 10) ++ s)
      rw [ByteArray.size_append, dchr_size] at this
      omega
    · rw [ByteArray.size_append, dchr_size]; omega
theorem dig_size (n : Int) : (dig n).size ≤ 19 := by
  have := dgN_size 18 n ⟨#[]⟩
  have h0 : (⟨#[]⟩ : ByteArray).size = 0 := rfl
  unfold dig; omega
theorem digs_size (n : Int) : (digs n).size ≤ 21 := by
  unfold digs
  split
  · rw [ByteArray.size_append, ByteArray.size_append]
    have := dig_size (-(n + 1))
    have h1 : (⟨#[45]⟩ : ByteArray).size = 1 := rfl
    have h2 : (⟨#[95]⟩ : ByteArray).size = 1 := rfl
    omega
  · have := dig_size n; omega
theorem dgN_end {k : Nat} {n : Int} {s : ByteArray} (h : n ≤ 9) : dgN k n s = dchr n ++ s := by
  cases k with
  | zero => rfl
  | succ k => unfold dgN; rw [if_neg (by omega)]
noncomputable def DigP : Ctr := spec (fun n : Int => [.i n]) (fun _ => []) (fun n => 0 ≤ n ∧ n ≤ 9223372036854775807) (fun n => .str (dig n)) fun _ => []
theorem digP_body (P : Program) : BodyOk P x45 DigP := by
  intro args H K hc
  obtain ⟨n, rfl, rfl, ⟨h1, h2⟩, hK⟩ := hc
  refine ⟨Nat.le_of_ble_eq_true rfl, ?_⟩
  dsimp only at h1 h2 hK ⊢
  have h3 : n < pw 18 := by unfold pw pw pw pw pw pw pw pw pw pw pw pw pw pw pw pw pw pw pw; omega
  obtain ⟨R, hR⟩ : ∃ R, R = dig n := ⟨_, rfl⟩
  rw [← hR] at hK
  cbv; repeat' ((first | refine .e ?_ | refine .n fun h => ?_ | refine .y fun h => ?_ | refine .q fun z hz hz0 hz1 => ?_ | refine .mk (fun h => ?_) fun h => ?_ | refine .k fun z hz => ?_ | refine .o ?_ | refine .l fun ys hys hyl => ?_ | refine .zl fun zs hzs hzl => ?_ | refine .u fun u hu hul => ?_ | refine .z fun zs hzs => ?_ | refine .mk (fun h => ?_) ?_ | refine .ms fun ms hms => ?_ | refine .s fun s hs hsl => ?_ | refine And.intro ?_ ?_) <;> cbv)
  refine xloopV [] (fun p : { p : Nat × Int × ByteArray // 0 ≤ p.2.1 ∧ p.2.1 ≤ 9223372036854775807 ∧ p.2.1 < pw p.1 ∧ dgN p.1 p.2.1 p.2.2 = R ∧ p.1 + p.2.2.size ≤ 18 } => [(0, .i p.1.2.1), (3, .str p.1.2.2)]) (fun _ => []) (fun p => lft p.1.1 0) ⟨(18, n, ⟨#[]⟩), h1, h2, h3, hR.symm, Nat.le_refl _⟩ ?_
  rintro ⟨⟨k, m, acc⟩, hm, hM, hp, hd, hac⟩
  dsimp only at hm hM hp hd hac ⊢
  cbv; repeat' ((first | refine .e ?_ | refine .n fun h => ?_ | refine .y fun h => ?_ | refine .q fun z hz hz0 hz1 => ?_ | refine .mk (fun h => ?_) fun h => ?_ | refine .k fun z hz => ?_ | refine .o ?_ | refine .l fun ys hys hyl => ?_ | refine .zl fun zs hzs hzl => ?_ | refine .u fun u hu hul => ?_ | refine .z fun zs hzs => ?_ | refine .mk (fun h => ?_) ?_ | refine .ms fun ms hms => ?_ | refine .s fun s hs hsl => ?_ | refine And.intro ?_ ?_) <;> cbv)
  · cases k with
    | zero => exfalso; have : m < 10 := hp; omega
    | succ k =>
      have hu' : u = dchr (m.tmod 10) ++ acc := by subst_vars; rfl
      have hp' : m < 10 * pw k := hp
      have h4 : m.tdiv 10 < pw k := by rw [Int.tdiv_eq_ediv_of_nonneg hm]; omega
      rw [dgN, if_pos h] at hd
      have hus : u.size = 1 + acc.size := by rw [hu', ByteArray.size_append, dchr_size]
      exact roundV ⟨(k, z, u), by dsimp only; omega, by dsimp only; omega, by dsimp only; omega, by dsimp only; rw [hz, hu']; exact hd, by dsimp only; omega⟩ (num_lt (by dsimp only; omega))
  · have hu' : u = R := by rw [← hd, dgN_end h]; subst_vars; rfl
    subst hu'
    exact FinK.mk ⟨_, Gh.refl _, .inl (CutK.val rfl (Le.refl _) hK)⟩
noncomputable def DigC : Ctr := spec (fun n : Int => [.i n]) (fun _ => []) (fun n => i64 n) (fun n => .str (digs n)) fun _ => []
theorem digits_body (P : Program) (hd : FnOk P 45 DigP) : BodyOk P x45 DigC := by
  intro args H K hc
  obtain ⟨n, rfl, rfl, h1, hK⟩ := hc
  refine ⟨Nat.le_of_ble_eq_true rfl, ?_⟩
  dsimp only at h1 hK ⊢
  unfold i64 at h1
  by_cases h0 : 0 ≤ n
  · have hb := digP_body P [.i n] [] K ⟨n, rfl, rfl, ⟨h0, h1.2⟩, by rw [digs, if_neg (by omega)] at hK; exact hK⟩
    exact hb.2
  · rw [digs, if_pos (by omega)] at hK
    have hsz := dig_size (-(n + 1))
    cbv; repeat' ((first | refine .e ?_ | refine .n fun h => ?_ | refine .y fun h => ?_ | refine .q fun z hz hz0 hz1 => ?_ | refine .mk (fun h => ?_) fun h => ?_ | refine .k fun z hz => ?_ | refine .o ?_ | refine .l fun ys hys hyl => ?_ | refine .zl fun zs hzs hzl => ?_ | refine .u fun u hu hul => ?_ | refine .z fun zs hzs => ?_ | refine .mk (fun h => ?_) ?_ | refine .ms fun ms hms => ?_ | refine .s fun s hs hsl => ?_ | refine And.intro ?_ ?_) <;> cbv)
    obtain rfl : z = -(n + 1) := by omega
    (refine callG_spec0 hd (-(n + 1)) (by omega) rfl rfl rfl ?_; try dsimp only)
    generalize dig (-(n + 1)) = D at hK hsz ⊢
    have h45 : (⟨#[45]⟩ : ByteArray).size = 1 := rfl
    have h95 : (⟨#[95]⟩ : ByteArray).size = 1 := rfl
    cbv; repeat' ((first | refine .e ?_ | refine .n fun h => ?_ | refine .y fun h => ?_ | refine .q fun z hz hz0 hz1 => ?_ | refine .mk (fun h => ?_) fun h => ?_ | refine .k fun z hz => ?_ | refine .o ?_ | refine .l fun ys hys hyl => ?_ | refine .zl fun zs hzs hzl => ?_ | refine .u fun u hu hul => ?_ | refine .z fun zs hzs => ?_ | refine .mk (fun h => ?_) ?_ | refine .ms fun ms hms => ?_ | refine .s fun s hs hsl => ?_ | refine And.intro ?_ ?_) <;> cbv)
    obtain rfl : u = ⟨#[45]⟩ ++ D ++ ⟨#[95]⟩ := by subst_vars; rfl
    exact FinK.mk ⟨_, Gh.refl _, .inl (CutK.val rfl (Le.refl _) hK)⟩
def barS : ByteArray := ⟨#[124]⟩
def eqS : ByteArray := ⟨#[61]⟩
def addN (s : ByteArray) (n : Int) : ByteArray := s ++ digs n ++ barS
def addB (s b : ByteArray) : ByteArray := s ++ b ++ barS
def addF (s : ByteArray) (f : Fd) : ByteArray := s ++ f.name ++ eqS ++ f.value ++ barS
def addD (s : ByteArray) (d : Dc) : ByteArray := d.fields.foldl addF (s ++ digs d.kind ++ barS ++ d.number ++ barS ++ d.issuer ++ barS)
def headF (l : Lt) : ByteArray := l.frm ++ barS ++ l.to ++ barS ++ l.deal ++ barS ++ l.text ++ barS ++ l.party ++ barS ++ l.cur ++ barS
def numsF (l : Lt) : List Int := [l.number, l.kind, l.ack, l.index, l.day, l.amt, l.docs.length, l.boxes.length]
def textF (l : Lt) : ByteArray := l.docs.foldl addD (l.boxes.foldl addB ((numsF l).foldl addN (headF l)))
theorem barS_size : barS.size = 1 := rfl
theorem eqS_size : eqS.size = 1 := rfl
noncomputable def TextC : Ctr := spec (fun v : AV × ByteArray => [v.1]) (fun _ => []) (fun v => ∃ l, v.1 = LtA l ∧ Small l ∧ v.2 = textF l) (fun v => .str v.2) fun _ => []
theorem text_body (P : Program) (hd : FnOk P 45 DigC) : BodyOk P x34 TextC := by
  intro args H K hc
  obtain ⟨⟨v, R⟩, rfl, rfl, ⟨l, rfl, hs, hR⟩, hK⟩ := hc
  refine ⟨Nat.le_of_ble_eq_true rfl, ?_⟩
  dsimp only at hR hK ⊢
  have s1 := hs.frm
  have s2 := hs.to
  have s3 := hs.deal
  have s4 := hs.text
  have s5 := hs.party
  have s6 := hs.cur
  have s7 := hs.docs
  have s8 := hs.boxes
  have n1 := hs.number
  have n2 := hs.kind
  have n3 := hs.ack
  have n4 := hs.index
  have n5 := hs.day
  have n6 := hs.amt
  have hh : headF l = l.frm ++ barS ++ l.to ++ barS ++ l.deal ++ barS ++ l.text ++ barS ++ l.party ++ barS ++ l.cur ++ barS := rfl
  have hn : numsF l = [l.number, l.kind, l.ack, l.index, l.day, l.amt, l.docs.length, l.boxes.length] := rfl
  unfold i64 at n1 n2 n3 n4 n5 n6
  rw [textF] at hR
  generalize headF l = hd0 at hR hh
  generalize numsF l = ns at hR hn
  obtain ⟨frm, to, number, kind, ack, deal, text, party, index, day, cur, amt, docs, boxes⟩ := l
  dsimp only at s1 s2 s3 s4 s5 s6 s7 s8 n1 n2 n3 n4 n5 n6 hh hn hR
  have hb : (⟨#[124]⟩ : ByteArray).size = 1 := rfl
  have hq : (⟨#[61]⟩ : ByteArray).size = 1 := rfl
  obtain ⟨nb, hnb⟩ : ∃ n, n = boxes.length := ⟨_, rfl⟩
  obtain ⟨nd, hnd⟩ : ∃ n, n = docs.length := ⟨_, rfl⟩
  cbv; repeat' ((first | refine .e ?_ | refine .n fun h => ?_ | refine .y fun h => ?_ | refine .q fun z hz hz0 hz1 => ?_ | refine .mk (fun h => ?_) fun h => ?_ | refine .k fun z hz => ?_ | refine .o ?_ | refine .l fun ys hys hyl => ?_ | refine .zl fun zs hzs hzl => ?_ | refine .u fun u hu hul => ?_ | refine .z fun zs hzs => ?_ | refine .mk (fun h => ?_) ?_ | refine .ms fun ms hms => ?_ | refine .s fun s hs hsl => ?_ | refine And.intro ?_ ?_) <;> cbv)
  have hus : u.size ≤ 806 := by omega
  obtain rfl : u = hd0 := by subst_vars; rfl
  rename_i zd hzd
  have he : [AV.i number, .i kind, .i ack, .i index, .i day, .i amt, .i zd, .i z] = mapA AV.i ns := by
    rw [hn]
    simp only [nat_cast_back]
    rw [show ((docs.length : Nat) : Int) = zd by ((try simp only [vn] at *) <;> omega), show ((boxes.length : Nat) : Int) = z by ((try simp only [vn] at *) <;> omega)]
  refine xloopG (Gh.cast [_, .row 3 1 (mapA AV.i ns)] (by rw [← he])) ?_
  have hnl : ns.length = 8 := by rw [hn]; rfl
  have hni : ∀ n ∈ ns, i64 n := by
    intro n hm
    rw [hn] at hm
    unfold i64
    simp only [List.mem_cons, List.not_mem_nil, or_false] at hm
    rcases hm with rfl | rfl | rfl | rfl | rfl | rfl | rfl | rfl <;> ((try simp only [vn] at *) <;> omega)
  clear he
  refine xloopV [] (fun p : { p : Nat × ByteArray // p.1 ≤ 8 ∧ p.2 = (ns.take p.1).foldl addN u ∧ p.2.size ≤ 806 + 22 * p.1 } => [(5, .i (nI p.1.1)), (3, .str p.1.2)]) (fun _ => [.blk 40 (LtA ⟨frm, to, number, kind, ack, deal, text, party, index, day, cur, amt, docs, boxes⟩).cells, .row 3 1 (mapA AV.i ns)]) (fun p => lft 8 p.1.1) ⟨(0, u), by dsimp only; omega, rfl, by dsimp only; omega⟩ ?_
  rintro ⟨⟨i, acc⟩, hi, hac, hsz⟩
  dsimp only at hi hac hsz ⊢
  cbv; repeat' ((first | refine .e ?_ | refine .n fun h => ?_ | refine .y fun h => ?_ | refine .q fun z hz hz0 hz1 => ?_ | refine .mk (fun h => ?_) fun h => ?_ | refine .k fun z hz => ?_ | refine .o ?_ | refine .l fun ys hys hyl => ?_ | refine .zl fun zs hzs hzl => ?_ | refine .u fun u hu hul => ?_ | refine .z fun zs hzs => ?_ | refine .mk (fun h => ?_) ?_ | refine .ms fun ms hms => ?_ | refine .s fun s hs hsl => ?_ | refine And.intro ?_ ?_) <;> cbv)
  · have hil : i < ns.length := by ((try simp only [vn] at *) <;> omega)
    obtain ⟨n, hg⟩ := some_at hil
    have e := take_some hg
    cbv; repeat' ((first | refine .e ?_ | refine .n fun h => ?_ | refine .y fun h => ?_ | refine .q fun z hz hz0 hz1 => ?_ | refine .mk (fun h => ?_) fun h => ?_ | refine .k fun z hz => ?_ | refine .o ?_ | refine .l fun ys hys hyl => ?_ | refine .zl fun zs hzs hzl => ?_ | refine .u fun u hu hul => ?_ | refine .z fun zs hzs => ?_ | refine .mk (fun h => ?_) ?_ | refine .ms fun ms hms => ?_ | refine .s fun s hs hsl => ?_ | refine And.intro ?_ ?_) <;> cbv)
    (refine callG_spec0 hd n (hni n (mem_some hg)) rfl rfl rfl ?_; try dsimp only)
    have hD := digs_size n
    have hN : addN acc n = acc ++ digs n ++ barS := rfl
    generalize digs n = D at hD hN ⊢
    cbv; repeat' ((first | refine .e ?_ | refine .n fun h => ?_ | refine .y fun h => ?_ | refine .q fun z hz hz0 hz1 => ?_ | refine .mk (fun h => ?_) fun h => ?_ | refine .k fun z hz => ?_ | refine .o ?_ | refine .l fun ys hys hyl => ?_ | refine .zl fun zs hzs hzl => ?_ | refine .u fun u hu hul => ?_ | refine .z fun zs hzs => ?_ | refine .mk (fun h => ?_) ?_ | refine .ms fun ms hms => ?_ | refine .s fun s hs hsl => ?_ | refine And.intro ?_ ?_) <;> cbv)
    obtain rfl := hz
    obtain rfl : u = addN acc n := by rw [hN]; subst_vars; rfl
    have hzz : (addN acc n).size ≤ 828 + 22 * i := by rw [hN, ByteArray.size_append, ByteArray.size_append, barS_size]; omega
    exact roundV ⟨(i + 1, addN acc n), by dsimp only; ((try simp only [vn] at *) <;> omega), by dsimp only; rw [e, List.foldl_append, ← hac]; rfl, by dsimp only; omega⟩ (lft_lt (by ((try simp only [vn] at *) <;> omega)))
  · have hac : acc = ns.foldl addN u := by rw [hac, List.take_of_length_le (by ((try simp only [vn] at *) <;> omega))]
    have hsz : acc.size ≤ 982 := by omega
    rw [← hac] at hR
    clear hac
    refine xloopV [1] (fun p : { p : Nat × ByteArray // p.1 ≤ boxes.length ∧ p.2 = (boxes.take p.1).foldl addB acc ∧ p.2.size ≤ 982 + 101 * p.1 } => [(6, .i (nI p.1.1)), (3, .str p.1.2)]) (fun _ => [.blk 40 (LtA ⟨frm, to, number, kind, ack, deal, text, party, index, day, cur, amt, docs, boxes⟩).cells]) (fun p => lft nb p.1.1) ⟨(0, acc), Nat.zero_le _, rfl, by dsimp only; omega⟩ ?_
    rintro ⟨⟨j, ac2⟩, hj, hac2, hsz2⟩
    dsimp only at hj hac2 hsz2 ⊢
    cbv; repeat' ((first | refine .e ?_ | refine .n fun h => ?_ | refine .y fun h => ?_ | refine .q fun z hz hz0 hz1 => ?_ | refine .mk (fun h => ?_) fun h => ?_ | refine .k fun z hz => ?_ | refine .o ?_ | refine .l fun ys hys hyl => ?_ | refine .zl fun zs hzs hzl => ?_ | refine .u fun u hu hul => ?_ | refine .z fun zs hzs => ?_ | refine .mk (fun h => ?_) ?_ | refine .ms fun ms hms => ?_ | refine .s fun s hs hsl => ?_ | refine And.intro ?_ ?_) <;> cbv)
    · have hjl : j < boxes.length := by ((try simp only [vn] at *) <;> omega)
      obtain ⟨b, hg⟩ := some_at hjl
      have e := take_some hg
      have hbs := hs.eachB b (mem_some hg)
      have hN : addB ac2 b = ac2 ++ b ++ barS := rfl
      cbv; repeat' ((first | refine .e ?_ | refine .n fun h => ?_ | refine .y fun h => ?_ | refine .q fun z hz hz0 hz1 => ?_ | refine .mk (fun h => ?_) fun h => ?_ | refine .k fun z hz => ?_ | refine .o ?_ | refine .l fun ys hys hyl => ?_ | refine .zl fun zs hzs hzl => ?_ | refine .u fun u hu hul => ?_ | refine .z fun zs hzs => ?_ | refine .mk (fun h => ?_) ?_ | refine .ms fun ms hms => ?_ | refine .s fun s hs hsl => ?_ | refine And.intro ?_ ?_) <;> cbv)
      obtain rfl := hz
      obtain rfl : u = addB ac2 b := by rw [hN]; subst_vars; rfl
      have hzz : (addB ac2 b).size ≤ 1083 + 101 * j := by rw [hN, ByteArray.size_append, ByteArray.size_append, barS_size]; omega
      exact roundV ⟨(j + 1, addB ac2 b), by dsimp only; ((try simp only [vn] at *) <;> omega), by dsimp only; rw [e, List.foldl_append, ← hac2]; rfl, by dsimp only; omega⟩ (lft_lt (by ((try simp only [vn] at *) <;> omega)))
    · have hac : ac2 = boxes.foldl addB acc := by rw [hac2, List.take_of_length_le (by ((try simp only [vn] at *) <;> omega))]
      have hsz : ac2.size ≤ 1992 := by omega
      rw [← hac] at hR
      clear hac hac2
      refine xloopV [] (fun p : { p : Nat × ByteArray // p.1 ≤ docs.length ∧ p.2 = (docs.take p.1).foldl addD ac2 ∧ p.2.size ≤ 1992 + 8300 * p.1 } => [(7, .i (nI p.1.1)), (3, .str p.1.2)]) (fun _ => [.blk 40 (LtA ⟨frm, to, number, kind, ack, deal, text, party, index, day, cur, amt, docs, boxes⟩).cells]) (fun p => lft nd p.1.1) ⟨(0, ac2), Nat.zero_le _, rfl, by dsimp only; omega⟩ ?_
      rintro ⟨⟨k, ac3⟩, hk, hac3, hsz3⟩
      dsimp only at hk hac3 hsz3 ⊢
      cbv; repeat' ((first | refine .e ?_ | refine .n fun h => ?_ | refine .y fun h => ?_ | refine .q fun z hz hz0 hz1 => ?_ | refine .mk (fun h => ?_) fun h => ?_ | refine .k fun z hz => ?_ | refine .o ?_ | refine .l fun ys hys hyl => ?_ | refine .zl fun zs hzs hzl => ?_ | refine .u fun u hu hul => ?_ | refine .z fun zs hzs => ?_ | refine .mk (fun h => ?_) ?_ | refine .ms fun ms hms => ?_ | refine .s fun s hs hsl => ?_ | refine And.intro ?_ ?_) <;> cbv)
      · have hkl : k < docs.length := by ((try simp only [vn] at *) <;> omega)
        obtain ⟨d, hg⟩ := some_at hkl
        have e := take_some hg
        have hds := hs.each d (mem_some hg)
        have d1 := hds.kind
        have d2 := hds.number
        have d3 := hds.issuer
        have d4 := hds.fields
        have d5 := hds.each
        have hD : addD ac3 d = d.fields.foldl addF (ac3 ++ digs d.kind ++ barS ++ d.number ++ barS ++ d.issuer ++ barS) := rfl
        obtain ⟨dk, dn, di, df⟩ := d
        dsimp only at d1 d2 d3 d4 d5 hD
        cbv; repeat' ((first | refine .e ?_ | refine .n fun h => ?_ | refine .y fun h => ?_ | refine .q fun z hz hz0 hz1 => ?_ | refine .mk (fun h => ?_) fun h => ?_ | refine .k fun z hz => ?_ | refine .o ?_ | refine .l fun ys hys hyl => ?_ | refine .zl fun zs hzs hzl => ?_ | refine .u fun u hu hul => ?_ | refine .z fun zs hzs => ?_ | refine .mk (fun h => ?_) ?_ | refine .ms fun ms hms => ?_ | refine .s fun s hs hsl => ?_ | refine And.intro ?_ ?_) <;> cbv)
        (refine callG_spec0 hd dk d1 rfl rfl rfl ?_; try dsimp only)
        have hDs := digs_size dk
        generalize digs dk = D at hD hDs ⊢
        cbv; repeat' ((first | refine .e ?_ | refine .n fun h => ?_ | refine .y fun h => ?_ | refine .q fun z hz hz0 hz1 => ?_ | refine .mk (fun h => ?_) fun h => ?_ | refine .k fun z hz => ?_ | refine .o ?_ | refine .l fun ys hys hyl => ?_ | refine .zl fun zs hzs hzl => ?_ | refine .u fun u hu hul => ?_ | refine .z fun zs hzs => ?_ | refine .mk (fun h => ?_) ?_ | refine .ms fun ms hms => ?_ | refine .s fun s hs hsl => ?_ | refine And.intro ?_ ?_) <;> cbv)
        obtain rfl : u = ac3 ++ D ++ barS ++ dn ++ barS ++ di ++ barS := by subst_vars; rfl
        have hzz : (ac3 ++ D ++ barS ++ dn ++ barS ++ di ++ barS).size ≤ ac3.size + 224 := by simp only [ByteArray.size_append, barS_size]; omega
        generalize ac3 ++ D ++ barS ++ dn ++ barS ++ di ++ barS = a4 at hzz hD ⊢
        obtain ⟨nf, hnf⟩ : ∃ n, n = df.length := ⟨_, rfl⟩
        refine xloopV [] (fun p : { p : Nat × ByteArray // p.1 ≤ df.length ∧ p.2 = (df.take p.1).foldl addF a4 ∧ p.2.size ≤ ac3.size + 224 + 402 * p.1 } => [(9, .i (nI p.1.1)), (3, .str p.1.2)]) (fun _ => [.blk 40 (LtA ⟨frm, to, number, kind, ack, deal, text, party, index, day, cur, amt, docs, boxes⟩).cells, .blk 78 (DcA ⟨dk, dn, di, df⟩).cells]) (fun p => lft nf p.1.1) ⟨(0, a4), Nat.zero_le _, rfl, by dsimp only; omega⟩ ?_
        rintro ⟨⟨q, a5⟩, hq5, ha5, hs5⟩
        dsimp only at hq5 ha5 hs5 ⊢
        cbv; repeat' ((first | refine .e ?_ | refine .n fun h => ?_ | refine .y fun h => ?_ | refine .q fun z hz hz0 hz1 => ?_ | refine .mk (fun h => ?_) fun h => ?_ | refine .k fun z hz => ?_ | refine .o ?_ | refine .l fun ys hys hyl => ?_ | refine .zl fun zs hzs hzl => ?_ | refine .u fun u hu hul => ?_ | refine .z fun zs hzs => ?_ | refine .mk (fun h => ?_) ?_ | refine .ms fun ms hms => ?_ | refine .s fun s hs hsl => ?_ | refine And.intro ?_ ?_) <;> cbv)
        · have hql : q < df.length := by ((try simp only [vn] at *) <;> omega)
          obtain ⟨f, hgf⟩ := some_at hql
          have e2 := take_some hgf
          have hfs := d5 f (mem_some hgf)
          have hN : addF a5 f = a5 ++ f.name ++ eqS ++ f.value ++ barS := rfl
          obtain ⟨fn, fv⟩ := f
          dsimp only at hfs hN
          cbv; repeat' ((first | refine .e ?_ | refine .n fun h => ?_ | refine .y fun h => ?_ | refine .q fun z hz hz0 hz1 => ?_ | refine .mk (fun h => ?_) fun h => ?_ | refine .k fun z hz => ?_ | refine .o ?_ | refine .l fun ys hys hyl => ?_ | refine .zl fun zs hzs hzl => ?_ | refine .u fun u hu hul => ?_ | refine .z fun zs hzs => ?_ | refine .mk (fun h => ?_) ?_ | refine .ms fun ms hms => ?_ | refine .s fun s hs hsl => ?_ | refine And.intro ?_ ?_) <;> cbv)
          obtain rfl := hz
          obtain rfl : u = addF a5 ⟨fn, fv⟩ := by rw [hN]; subst_vars; rfl
          have hzz2 : (addF a5 ⟨fn, fv⟩).size ≤ a5.size + 402 := by rw [hN]; simp only [ByteArray.size_append, barS_size, eqS_size]; omega
          exact roundV ⟨(q + 1, addF a5 ⟨fn, fv⟩), by dsimp only; ((try simp only [vn] at *) <;> omega), by dsimp only; rw [e2, List.foldl_append, ← ha5]; rfl, by dsimp only; omega⟩ (lft_lt (by ((try simp only [vn] at *) <;> omega)))
        · have ha6 : a5 = addD ac3 ⟨dk, dn, di, df⟩ := by rw [hD, ha5, List.take_of_length_le (by ((try simp only [vn] at *) <;> omega))]
          subst ha6
          obtain rfl := hz
          exact roundV ⟨(k + 1, addD ac3 ⟨dk, dn, di, df⟩), by dsimp only; ((try simp only [vn] at *) <;> omega), by dsimp only; rw [e, List.foldl_append, ← hac3]; rfl, by dsimp only; omega⟩ (lft_lt (by ((try simp only [vn] at *) <;> omega)))
      · have hac : ac3 = R := by rw [hR, hac3, List.take_of_length_le (by ((try simp only [vn] at *) <;> omega))]
        subst hac
        exact FinK.mk ⟨_, Gh.refl _, .inl (CutK.val rfl (Le.refl _) hK)⟩
end Go.Proofs.Ytaflinfpmbfieaa
namespace Go.Proofs.Ytaflinfpmbfieaa
open Go.RowKit
set_option maxHeartbeats 2000000
set_option maxRecDepth 100000
noncomputable def SameC : Ctr := spec (fun L : List Lt => [.sl 14 (mapA LtA L), .sl 14 (mapA LtA L)]) (fun _ => []) (fun L => L.length ≤ 2000000 ∧ ∀ l ∈ L, Small l) (fun _ => .bl true) fun _ => []
theorem same_body (P : Program) (ht : FnOk P 34 TextC) : BodyOk P x27 SameC := by
  intro args H K hc
  obtain ⟨L, rfl, rfl, ⟨h1, h2⟩, hK⟩ := hc
  refine ⟨Nat.le_of_ble_eq_true rfl, ?_⟩
  dsimp only at h1 h2 hK ⊢
  obtain ⟨n, hn⟩ : ∃ n, n = L.length := ⟨_, rfl⟩
  cbv; repeat' ((first | refine .e ?_ | refine .n fun h => ?_ | refine .y fun h => ?_ | refine .q fun z hz hz0 hz1 => ?_ | refine .mk (fun h => ?_) fun h => ?_ | refine .k fun z hz => ?_ | refine .o ?_ | refine .l fun ys hys hyl => ?_ | refine .zl fun zs hzs hzl => ?_ | refine .u fun u hu hul => ?_ | refine .z fun zs hzs => ?_ | refine .mk (fun h => ?_) ?_ | refine .ms fun ms hms => ?_ | refine .s fun s hs hsl => ?_ | refine And.intro ?_ ?_) <;> cbv)
  refine xloopV [] (fun p : { p : Nat // p ≤ L.length } => [(5, .i (nI p.1))]) (fun _ => []) (fun p => lft n p.1) ⟨0, Nat.zero_le _⟩ ?_
  rintro ⟨i, hi⟩
  dsimp only at hi ⊢
  cbv; repeat' ((first | refine .e ?_ | refine .n fun h => ?_ | refine .y fun h => ?_ | refine .q fun z hz hz0 hz1 => ?_ | refine .mk (fun h => ?_) fun h => ?_ | refine .k fun z hz => ?_ | refine .o ?_ | refine .l fun ys hys hyl => ?_ | refine .zl fun zs hzs hzl => ?_ | refine .u fun u hu hul => ?_ | refine .z fun zs hzs => ?_ | refine .mk (fun h => ?_) ?_ | refine .ms fun ms hms => ?_ | refine .s fun s hs hsl => ?_ | refine And.intro ?_ ?_) <;> cbv)
  · have hil : i < L.length := by ((try simp only [vn] at *) <;> omega)
    obtain ⟨l, hg⟩ := some_at hil
    have hs := h2 l (mem_some hg)
    cbv; repeat' ((first | refine .e ?_ | refine .n fun h => ?_ | refine .y fun h => ?_ | refine .q fun z hz hz0 hz1 => ?_ | refine .mk (fun h => ?_) fun h => ?_ | refine .k fun z hz => ?_ | refine .o ?_ | refine .l fun ys hys hyl => ?_ | refine .zl fun zs hzs hzl => ?_ | refine .u fun u hu hul => ?_ | refine .z fun zs hzs => ?_ | refine .mk (fun h => ?_) ?_ | refine .ms fun ms hms => ?_ | refine .s fun s hs hsl => ?_ | refine And.intro ?_ ?_) <;> cbv)
    obtain ⟨frm, to, number, kind, ack, deal, text, party, index, day, cur, amt, docs, boxes⟩ := l
    cbv; repeat' ((first | refine .e ?_ | refine .n fun h => ?_ | refine .y fun h => ?_ | refine .q fun z hz hz0 hz1 => ?_ | refine .mk (fun h => ?_) fun h => ?_ | refine .k fun z hz => ?_ | refine .o ?_ | refine .l fun ys hys hyl => ?_ | refine .zl fun zs hzs hzl => ?_ | refine .u fun u hu hul => ?_ | refine .z fun zs hzs => ?_ | refine .mk (fun h => ?_) ?_ | refine .ms fun ms hms => ?_ | refine .s fun s hs hsl => ?_ | refine And.intro ?_ ?_) <;> cbv)
    obtain ⟨T0, hT0⟩ : ∃ T, T = textF ⟨frm, to, number, kind, ack, deal, text, party, index, day, cur, amt, docs, boxes⟩ := ⟨_, rfl⟩
    (refine callG_spec0 ht (_, T0) ⟨_, rfl, hs, hT0⟩ rfl rfl rfl ?_; try dsimp only)
    cbv; repeat' ((first | refine .e ?_ | refine .n fun h => ?_ | refine .y fun h => ?_ | refine .q fun z hz hz0 hz1 => ?_ | refine .mk (fun h => ?_) fun h => ?_ | refine .k fun z hz => ?_ | refine .o ?_ | refine .l fun ys hys hyl => ?_ | refine .zl fun zs hzs hzl => ?_ | refine .u fun u hu hul => ?_ | refine .z fun zs hzs => ?_ | refine .mk (fun h => ?_) ?_ | refine .ms fun ms hms => ?_ | refine .s fun s hs hsl => ?_ | refine And.intro ?_ ?_) <;> cbv)
    (refine callG_spec0 ht (_, T0) ⟨_, rfl, hs, hT0⟩ rfl rfl rfl ?_; try dsimp only)
    cbv; repeat' ((first | refine .e ?_ | refine .n fun h => ?_ | refine .y fun h => ?_ | refine .q fun z hz hz0 hz1 => ?_ | refine .mk (fun h => ?_) fun h => ?_ | refine .k fun z hz => ?_ | refine .o ?_ | refine .l fun ys hys hyl => ?_ | refine .zl fun zs hzs hzl => ?_ | refine .u fun u hu hul => ?_ | refine .z fun zs hzs => ?_ | refine .mk (fun h => ?_) ?_ | refine .ms fun ms hms => ?_ | refine .s fun s hs hsl => ?_ | refine And.intro ?_ ?_) <;> cbv)
    · obtain rfl := hz
      exact roundV ⟨i + 1, hil⟩ (lft_lt (by ((try simp only [vn] at *) <;> omega)))
    · exact absurd rfl h
  · cbv; repeat' ((first | refine .e ?_ | refine .n fun h => ?_ | refine .y fun h => ?_ | refine .q fun z hz hz0 hz1 => ?_ | refine .mk (fun h => ?_) fun h => ?_ | refine .k fun z hz => ?_ | refine .o ?_ | refine .l fun ys hys hyl => ?_ | refine .zl fun zs hzs hzl => ?_ | refine .u fun u hu hul => ?_ | refine .z fun zs hzs => ?_ | refine .mk (fun h => ?_) ?_ | refine .ms fun ms hms => ?_ | refine .s fun s hs hsl => ?_ | refine And.intro ?_ ?_) <;> cbv)
    exact FinK.mk ⟨_, Gh.refl _, .inl (CutK.val rfl (Le.refl _) hK)⟩
structure NotBig (l : Lt) : Prop where
  frm : l.frm.size ≤ 100
  to : l.to.size ≤ 100
  deal : l.deal.size ≤ 100
  text : l.text.size ≤ 300
  party : l.party.size ≤ 100
  cur : l.cur.size ≤ 100
  docs : l.docs.length ≤ 6
  boxes : l.boxes.length ≤ 10
  each : ∀ d ∈ l.docs, d.number.size ≤ 100 ∧ d.issuer.size ≤ 100 ∧ d.fields.length ≤ 20 ∧ ∀ f ∈ d.fields, f.name.size ≤ 100 ∧ f.value.size ≤ 300
  eachB : ∀ b ∈ l.boxes, b.size ≤ 100
noncomputable def BigC : Ctr := fun args H K => ∃ l : Lt, args = [LtA l] ∧ H = [] ∧ (NotBig l → K (.bl false) []) ∧ (¬ NotBig l → K (.bl true) [])
theorem big_body (P : Program) : BodyOk P x24 BigC := by
  intro args H K hc
  obtain ⟨l, rfl, rfl, hF, hT⟩ := hc
  refine ⟨Nat.le_of_ble_eq_true rfl, ?_⟩
  obtain ⟨nb, hnb⟩ : ∃ n, n = l.boxes.length := ⟨_, rfl⟩
  obtain ⟨nd, hnd⟩ : ∃ n, n = l.docs.length := ⟨_, rfl⟩
  obtain ⟨frm, to, number, kind, ack, deal, text, party, index, day, cur, amt, docs, boxes⟩ := l
  dsimp only at hnb hnd ⊢
  cbv; repeat' ((first | refine .e ?_ | refine .n fun h => ?_ | refine .y fun h => ?_ | refine .q fun z hz hz0 hz1 => ?_ | refine .mk (fun h => ?_) fun h => ?_ | refine .k fun z hz => ?_ | refine .o ?_ | refine .l fun ys hys hyl => ?_ | refine .zl fun zs hzs hzl => ?_ | refine .u fun u hu hul => ?_ | refine .z fun zs hzs => ?_ | refine .mk (fun h => ?_) ?_ | refine .ms fun ms hms => ?_ | refine .s fun s hs hsl => ?_ | refine And.intro ?_ ?_) <;> cbv)
  any_goals (first | (refine FinK.mk ⟨_, (Gh.refl _), ?_⟩; cbv; exact .inl (CutK.pre _ (by rfl) (by exact Nat.le_of_ble_eq_true rfl) (by rfl) (by rfl) (Le.refl _) (LeH.refl _) (hT (fun h => by obtain ⟨a1, a2, a3, a4, a5, a6, a7, a8, a9, a10⟩ := h; dsimp only at a1 a2 a3 a4 a5 a6 a7 a8; ((try simp only [vn] at *) <;> omega))))) | skip)
  refine xloopV [] (fun p : { p : Nat // p ≤ boxes.length ∧ ∀ b ∈ boxes.take p, b.size ≤ 100 } => [(3, .i (nI p.1))]) (fun _ => [.blk 40 (LtA ⟨frm, to, number, kind, ack, deal, text, party, index, day, cur, amt, docs, boxes⟩).cells]) (fun p => lft nb p.1) ⟨0, Nat.zero_le _, fun b h => by simp at h⟩ ?_
  rintro ⟨i, hi, hall⟩
  cbv; repeat' ((first | refine .e ?_ | refine .n fun h => ?_ | refine .y fun h => ?_ | refine .q fun z hz hz0 hz1 => ?_ | refine .mk (fun h => ?_) fun h => ?_ | refine .k fun z hz => ?_ | refine .o ?_ | refine .l fun ys hys hyl => ?_ | refine .zl fun zs hzs hzl => ?_ | refine .u fun u hu hul => ?_ | refine .z fun zs hzs => ?_ | refine .mk (fun h => ?_) ?_ | refine .ms fun ms hms => ?_ | refine .s fun s hs hsl => ?_ | refine And.intro ?_ ?_) <;> cbv)
  · have hil : i < boxes.length := by ((try simp only [vn] at *) <;> omega)
    obtain ⟨b, hg⟩ := some_at hil
    have e := take_some hg
    cbv; repeat' ((first | refine .e ?_ | refine .n fun h => ?_ | refine .y fun h => ?_ | refine .q fun z hz hz0 hz1 => ?_ | refine .mk (fun h => ?_) fun h => ?_ | refine .k fun z hz => ?_ | refine .o ?_ | refine .l fun ys hys hyl => ?_ | refine .zl fun zs hzs hzl => ?_ | refine .u fun u hu hul => ?_ | refine .z fun zs hzs => ?_ | refine .mk (fun h => ?_) ?_ | refine .ms fun ms hms => ?_ | refine .s fun s hs hsl => ?_ | refine And.intro ?_ ?_) <;> cbv)
    · (refine FinK.mk ⟨_, (Gh.refl _), ?_⟩; cbv; exact .inl (CutK.pre _ (by rfl) (by exact Nat.le_of_ble_eq_true rfl) (by rfl) (by rfl) (Le.refl _) (LeH.refl _) (hT (fun hh => by have := hh.eachB b (mem_some hg); ((try simp only [vn] at *) <;> omega)))))
    · obtain rfl := hz
      exact roundV ⟨i + 1, by omega, by rw [e]; intro x hx; rcases List.mem_append.1 hx with hx | hx; (· exact hall x hx); simp at hx; subst hx; ((try simp only [vn] at *) <;> omega)⟩ (lft_lt (by ((try simp only [vn] at *) <;> omega)))
  · have hB : ∀ b ∈ boxes, b.size ≤ 100 := by rw [List.take_of_length_le (by ((try simp only [vn] at *) <;> omega))] at hall; exact hall
    refine xloopV [] (fun p : { p : Nat // p ≤ docs.length ∧ ∀ d ∈ docs.take p, d.number.size ≤ 100 ∧ d.issuer.size ≤ 100 ∧ d.fields.length ≤ 20 ∧ ∀ f ∈ d.fields, f.name.size ≤ 100 ∧ f.value.size ≤ 300 } => [(4, .i (nI p.1))]) (fun _ => [.blk 40 (LtA ⟨frm, to, number, kind, ack, deal, text, party, index, day, cur, amt, docs, boxes⟩).cells]) (fun p => lft nd p.1) ⟨0, Nat.zero_le _, fun b h => by simp at h⟩ ?_
    rintro ⟨k, hk, hall2⟩
    cbv; repeat' ((first | refine .e ?_ | refine .n fun h => ?_ | refine .y fun h => ?_ | refine .q fun z hz hz0 hz1 => ?_ | refine .mk (fun h => ?_) fun h => ?_ | refine .k fun z hz => ?_ | refine .o ?_ | refine .l fun ys hys hyl => ?_ | refine .zl fun zs hzs hzl => ?_ | refine .u fun u hu hul => ?_ | refine .z fun zs hzs => ?_ | refine .mk (fun h => ?_) ?_ | refine .ms fun ms hms => ?_ | refine .s fun s hs hsl => ?_ | refine And.intro ?_ ?_) <;> cbv)
    · have hkl : k < docs.length := by ((try simp only [vn] at *) <;> omega)
      obtain ⟨d, hg⟩ := some_at hkl
      have e := take_some hg
      have hst : (d.number.size ≤ 100 ∧ d.issuer.size ≤ 100 ∧ d.fields.length ≤ 20 ∧ ∀ f ∈ d.fields, f.name.size ≤ 100 ∧ f.value.size ≤ 300) → ∀ x ∈ docs.take (k + 1), x.number.size ≤ 100 ∧ x.issuer.size ≤ 100 ∧ x.fields.length ≤ 20 ∧ ∀ f ∈ x.fields, f.name.size ≤ 100 ∧ f.value.size ≤ 300 := fun h x hx => by
        rw [e] at hx
        rcases List.mem_append.1 hx with hx | hx
        · exact hall2 x hx
        · simp at hx; subst hx; exact h
      have hbad : ¬ (d.number.size ≤ 100 ∧ d.issuer.size ≤ 100 ∧ d.fields.length ≤ 20 ∧ ∀ f ∈ d.fields, f.name.size ≤ 100 ∧ f.value.size ≤ 300) → K (.bl true) [] := fun h => hT (fun hh => h (hh.each d (mem_some hg)))
      obtain ⟨dk, dn, di, df⟩ := d
      dsimp only at hst hbad
      obtain ⟨nf, hnf⟩ : ∃ n, n = df.length := ⟨_, rfl⟩
      cbv; repeat' ((first | refine .e ?_ | refine .n fun h => ?_ | refine .y fun h => ?_ | refine .q fun z hz hz0 hz1 => ?_ | refine .mk (fun h => ?_) fun h => ?_ | refine .k fun z hz => ?_ | refine .o ?_ | refine .l fun ys hys hyl => ?_ | refine .zl fun zs hzs hzl => ?_ | refine .u fun u hu hul => ?_ | refine .z fun zs hzs => ?_ | refine .mk (fun h => ?_) ?_ | refine .ms fun ms hms => ?_ | refine .s fun s hs hsl => ?_ | refine And.intro ?_ ?_) <;> cbv)
      any_goals (first | (refine FinK.mk ⟨_, (Gh.refl _), ?_⟩; cbv; exact .inl (CutK.pre _ (by rfl) (by exact Nat.le_of_ble_eq_true rfl) (by rfl) (by rfl) (Le.refl _) (LeH.refl _) (hbad (fun hh => by obtain ⟨a1, a2, a3, a4⟩ := hh; ((try simp only [vn] at *) <;> omega))))) | skip)
      refine xloopV [] (fun p : { p : Nat // p ≤ df.length ∧ ∀ f ∈ df.take p, f.name.size ≤ 100 ∧ f.value.size ≤ 300 } => [(5, .i (nI p.1))]) (fun _ => [.blk 40 (LtA ⟨frm, to, number, kind, ack, deal, text, party, index, day, cur, amt, docs, boxes⟩).cells]) (fun p => lft nf p.1) ⟨0, Nat.zero_le _, fun b h => by simp at h⟩ ?_
      rintro ⟨q, hq, hall3⟩
      cbv; repeat' ((first | refine .e ?_ | refine .n fun h => ?_ | refine .y fun h => ?_ | refine .q fun z hz hz0 hz1 => ?_ | refine .mk (fun h => ?_) fun h => ?_ | refine .k fun z hz => ?_ | refine .o ?_ | refine .l fun ys hys hyl => ?_ | refine .zl fun zs hzs hzl => ?_ | refine .u fun u hu hul => ?_ | refine .z fun zs hzs => ?_ | refine .mk (fun h => ?_) ?_ | refine .ms fun ms hms => ?_ | refine .s fun s hs hsl => ?_ | refine And.intro ?_ ?_) <;> cbv)
      · have hql : q < df.length := by ((try simp only [vn] at *) <;> omega)
        obtain ⟨f, hgf⟩ := some_at hql
        have e2 := take_some hgf
        have hst2 : (f.name.size ≤ 100 ∧ f.value.size ≤ 300) → ∀ x ∈ df.take (q + 1), x.name.size ≤ 100 ∧ x.value.size ≤ 300 := fun h x hx => by
          rw [e2] at hx
          rcases List.mem_append.1 hx with hx | hx
          · exact hall3 x hx
          · simp at hx; subst hx; exact h
        have hbad2 : ¬ (f.name.size ≤ 100 ∧ f.value.size ≤ 300) → K (.bl true) [] := fun h => hbad fun hh => h (hh.2.2.2 f (mem_some hgf))
        obtain ⟨fn, fv⟩ := f
        dsimp only at hst2 hbad2
        cbv; repeat' ((first | refine .e ?_ | refine .n fun h => ?_ | refine .y fun h => ?_ | refine .q fun z hz hz0 hz1 => ?_ | refine .mk (fun h => ?_) fun h => ?_ | refine .k fun z hz => ?_ | refine .o ?_ | refine .l fun ys hys hyl => ?_ | refine .zl fun zs hzs hzl => ?_ | refine .u fun u hu hul => ?_ | refine .z fun zs hzs => ?_ | refine .mk (fun h => ?_) ?_ | refine .ms fun ms hms => ?_ | refine .s fun s hs hsl => ?_ | refine And.intro ?_ ?_) <;> cbv)
        · (refine FinK.mk ⟨_, (Gh.refl _), ?_⟩; cbv; exact .inl (CutK.pre _ (by rfl) (by exact Nat.le_of_ble_eq_true rfl) (by rfl) (by rfl) (Le.refl _) (LeH.refl _) (hbad2 (by ((try simp only [vn] at *) <;> omega)))))
        · (refine FinK.mk ⟨_, (Gh.refl _), ?_⟩; cbv; exact .inl (CutK.pre _ (by rfl) (by exact Nat.le_of_ble_eq_true rfl) (by rfl) (by rfl) (Le.refl _) (LeH.refl _) (hbad2 (by ((try simp only [vn] at *) <;> omega)))))
        · obtain rfl := hz
          exact roundV ⟨q + 1, by omega, hst2 (by ((try simp only [vn] at *) <;> omega))⟩ (lft_lt (by ((try simp only [vn] at *) <;> omega)))
      · obtain rfl := hz
        exact roundV ⟨k + 1, by omega, hst ⟨by ((try simp only [vn] at *) <;> omega), by ((try simp only [vn] at *) <;> omega), by ((try simp only [vn] at *) <;> omega), by rw [List.take_of_length_le (by ((try simp only [vn] at *) <;> omega))] at hall3; exact hall3⟩⟩ (lft_lt (by ((try simp only [vn] at *) <;> omega)))
    · (refine FinK.mk ⟨_, (Gh.refl _), ?_⟩; cbv; exact .inl (CutK.pre _ (by rfl) (by exact Nat.le_of_ble_eq_true rfl) (by rfl) (by rfl) (Le.refl _) (LeH.refl _) (hF ⟨by dsimp only; ((try simp only [vn] at *) <;> omega), by dsimp only; ((try simp only [vn] at *) <;> omega), by dsimp only; ((try simp only [vn] at *) <;> omega), by dsimp only; ((try simp only [vn] at *) <;> omega), by dsimp only; ((try simp only [vn] at *) <;> omega), by dsimp only; ((try simp only [vn] at *) <;> omega), by dsimp only; ((try simp only [vn] at *) <;> omega), by dsimp only; ((try simp only [vn] at *) <;> omega), by dsimp only; rw [List.take_of_length_le (by ((try simp only [vn] at *) <;> omega))] at hall2; exact hall2, hB⟩)))
end Go.Proofs.Ytaflinfpmbfieaa
namespace Go.Proofs.Ytaflinfpmbfieaa
open Go.RowKit
set_option maxHeartbeats 2000000
set_option maxRecDepth 100000
/-! Deeds at both ends. -/
structure Dd where
  kind : Int
  l : Lt
  n : Int
noncomputable def DdA : Dd → AV
  | ⟨dkind, ⟨frm, to, number, kind, ack, deal, text, party, index, day, cur, amt, docs, boxes⟩, n⟩ => .agg [.int .u8 dkind, .str frm, .str to, .i number, .i kind, .i ack, .str deal, .str text, .str party, .i index, .i day, .str cur, .i amt, .sl 4 (mapA DcA docs), .sl 1 (mapA .str boxes), .i n]
structure FitD (d : Dd) : Prop where
  small : Small d.l
  n : i64 d.n
noncomputable def HeavyC : Ctr := fun args H K => ∃ (L : List Dd) (most : Int), args = [.sl 16 (mapA DdA L), .i most] ∧ H = [] ∧ most ≤ 1000 ∧
  (((L.length : Int) ≤ most ∧ ∀ d ∈ L, NotBig d.l) → K (.bl false) []) ∧ (¬ ((L.length : Int) ≤ most ∧ ∀ d ∈ L, NotBig d.l) → K (.bl true) [])
theorem BigC.mono : ∀ args H (K K' : AV → List Ent → Prop), (∀ x H, K x H → K' x H) → BigC args H K → BigC args H K' := fun _args _H _K _K' h ⟨l, h1, h2, h3, h4⟩ => ⟨l, h1, h2, fun a => h _ _ (h3 a), fun a => h _ _ (h4 a)⟩
/-- Big, at a call. -/
theorem callG_big {P : Program} (hb : FnOk P 24 BigC) (l : Lt) {keep : List Nat} {st : St} {K : AV → St → Prop} (hk : (keep.all fun k => Nat.blt k st.H.length) = true) (h0 : NotBig l → K (.bl false) st) (h1 : ¬ NotBig l → K (.bl true) st) : CallG P keep 24 [LtA l] st K :=
  callG_pure hb BigC.mono (by obtain ⟨⟩ := l; rfl) (fun k hkk => by have := List.all_eq_true.1 hk k hkk; simpa [Nat.blt_eq] using this) ⟨l, rfl, rfl, fun a => ⟨rfl, rfl, h0 a⟩, fun a => ⟨rfl, rfl, h1 a⟩⟩
theorem heavy_body (P : Program) (hb : FnOk P 24 BigC) : BodyOk P x19 HeavyC := by
  intro args H K hc
  obtain ⟨L, most, rfl, rfl, hmost, hF, hT⟩ := hc
  refine ⟨Nat.le_of_ble_eq_true rfl, ?_⟩
  obtain ⟨n, hn⟩ : ∃ n, n = L.length := ⟨_, rfl⟩
  cbv; repeat' ((first | refine .e ?_ | refine .n fun h => ?_ | refine .y fun h => ?_ | refine .q fun z hz hz0 hz1 => ?_ | refine .mk (fun h => ?_) fun h => ?_ | refine .k fun z hz => ?_ | refine .o ?_ | refine .l fun ys hys hyl => ?_ | refine .zl fun zs hzs hzl => ?_ | refine .u fun u hu hul => ?_ | refine .z fun zs hzs => ?_ | refine .mk (fun h => ?_) ?_ | refine .ms fun ms hms => ?_ | refine .s fun s hs hsl => ?_ | refine And.intro ?_ ?_) <;> cbv)
  · exact FinK.mk ⟨_, Gh.refl _, .inl (CutK.val rfl (Le.refl _) (hT (fun hh => by have := hh.1; ((try simp only [vn] at *) <;> omega))))⟩
  have hF : (∀ d ∈ L, NotBig d.l) → K (.bl false) [] := fun h => hF ⟨by ((try simp only [vn] at *) <;> omega), h⟩
  have hT : (¬ ∀ d ∈ L, NotBig d.l) → K (.bl true) [] := fun h => hT fun hh => h hh.2
  refine xloopV [] (fun p : { p : Nat // p ≤ L.length ∧ ∀ d ∈ L.take p, NotBig d.l } => [(5, .i (nI p.1))]) (fun _ => []) (fun p => lft n p.1) ⟨0, Nat.zero_le _, fun b h => by simp at h⟩ ?_
  rintro ⟨i, hi, hall⟩
  cbv; repeat' ((first | refine .e ?_ | refine .n fun h => ?_ | refine .y fun h => ?_ | refine .q fun z hz hz0 hz1 => ?_ | refine .mk (fun h => ?_) fun h => ?_ | refine .k fun z hz => ?_ | refine .o ?_ | refine .l fun ys hys hyl => ?_ | refine .zl fun zs hzs hzl => ?_ | refine .u fun u hu hul => ?_ | refine .z fun zs hzs => ?_ | refine .mk (fun h => ?_) ?_ | refine .ms fun ms hms => ?_ | refine .s fun s hs hsl => ?_ | refine And.intro ?_ ?_) <;> cbv)
  · have hil : i < L.length := by ((try simp only [vn] at *) <;> omega)
    obtain ⟨d, hg⟩ := some_at hil
    have e := take_some hg
    have hst : NotBig d.l → ∀ x ∈ L.take (i + 1), NotBig x.l := fun h x hx => by
      rw [e] at hx
      rcases List.mem_append.1 hx with hx | hx
      · exact hall x hx
      · simp at hx; subst hx; exact h
    have hbad : ¬ NotBig d.l → K (.bl true) [] := fun h => hT fun hh => h (hh d (mem_some hg))
    obtain ⟨dk, l, dn⟩ := d
    obtain ⟨frm, to, number, kind, ack, deal, text, party, index, day, cur, amt, docs, boxes⟩ := l
    dsimp only at hst hbad
    cbv; repeat' ((first | refine .e ?_ | refine .n fun h => ?_ | refine .y fun h => ?_ | refine .q fun z hz hz0 hz1 => ?_ | refine .mk (fun h => ?_) fun h => ?_ | refine .k fun z hz => ?_ | refine .o ?_ | refine .l fun ys hys hyl => ?_ | refine .zl fun zs hzs hzl => ?_ | refine .u fun u hu hul => ?_ | refine .z fun zs hzs => ?_ | refine .mk (fun h => ?_) ?_ | refine .ms fun ms hms => ?_ | refine .s fun s hs hsl => ?_ | refine And.intro ?_ ?_) <;> cbv)
    refine callG_big hb ⟨frm, to, number, kind, ack, deal, text, party, index, day, cur, amt, docs, boxes⟩ rfl (fun hnb => ?_) (fun hnb => ?_)
    · cbv; repeat' ((first | refine .e ?_ | refine .n fun h => ?_ | refine .y fun h => ?_ | refine .q fun z hz hz0 hz1 => ?_ | refine .mk (fun h => ?_) fun h => ?_ | refine .k fun z hz => ?_ | refine .o ?_ | refine .l fun ys hys hyl => ?_ | refine .zl fun zs hzs hzl => ?_ | refine .u fun u hu hul => ?_ | refine .z fun zs hzs => ?_ | refine .mk (fun h => ?_) ?_ | refine .ms fun ms hms => ?_ | refine .s fun s hs hsl => ?_ | refine And.intro ?_ ?_) <;> cbv)
      obtain rfl := hz
      exact roundV ⟨i + 1, hil, hst hnb⟩ (lft_lt (by ((try simp only [vn] at *) <;> omega)))
    · cbv; repeat' ((first | refine .e ?_ | refine .n fun h => ?_ | refine .y fun h => ?_ | refine .q fun z hz hz0 hz1 => ?_ | refine .mk (fun h => ?_) fun h => ?_ | refine .k fun z hz => ?_ | refine .o ?_ | refine .l fun ys hys hyl => ?_ | refine .zl fun zs hzs hzl => ?_ | refine .u fun u hu hul => ?_ | refine .z fun zs hzs => ?_ | refine .mk (fun h => ?_) ?_ | refine .ms fun ms hms => ?_ | refine .s fun s hs hsl => ?_ | refine And.intro ?_ ?_) <;> cbv)
      exact FinK.mk ⟨_, Gh.refl _, .inl (CutK.val rfl (Le.refl _) (hbad hnb))⟩
  · exact FinK.mk ⟨_, Gh.refl _, .inl (CutK.val rfl (Le.refl _) (hF (by rw [List.take_of_length_le (by ((try simp only [vn] at *) <;> omega))] at hall; exact hall)))⟩
def stepE (E : En) (d : Dd) : En :=
  if d.kind = 0 ∨ d.kind = 1 then sendE E d.l else if d.kind = 2 ∨ d.kind = 3 ∨ d.kind = 4 then (takeR E d.l).1 else if d.kind = 5 then dueE E else if d.kind = 6 then sureE E d.n else if d.kind = 7 then ackedE E d.n else E
theorem InvE.step {M : Nat} {E : En} (h : InvE M E) {d : Dd} (hd : FitD d) : InvE (M + 1) (stepE E d) := by
  unfold stepE
  split
  · exact (h.send hd.small).mono (by omega)
  · split
    · exact (h.take hd.small).1
    · split
      · exact h.due.mono (by omega)
      · split
        · exact (h.sure_ d.n).mono (by omega)
        · split
          · exact (h.acked d.n).mono (by omega)
          · exact h.mono (by omega)
noncomputable def BothH (E : En) : List Ent := EndH E ++ RefH E
noncomputable def EvenC : Ctr := spec (fun _ : En × Nat => [.ptr 0 0, .ptr 3 0]) (fun i => BothH i.1) (fun i => InvE i.2 i.1) (fun _ => .bl true) fun i => BothH i.1
theorem even_body (P : Program) (hparts : FnOk P 16 PartsC) (hack : FnOk P 18 AckC) (hsent : FnOk P 42 SentC) (hgot : FnOk P 15 GotC) (hsame : FnOk P 27 SameC) : BodyOk P x23 EvenC := by
  intro args H K hc
  obtain ⟨⟨E, M⟩, rfl, rfl, hi, hK⟩ := hc
  refine ⟨Nat.le_of_ble_eq_true rfl, ?_⟩
  dsimp only at hi hK ⊢
  have h1 := hi.outL
  have h2 := hi.outS
  have h3 := hi.sent0
  have h4 := hi.sent1
  obtain ⟨q, hq⟩ : ∃ q, q = E.sent - E.out.length := ⟨_, rfl⟩
  obtain ⟨self, other, out, wait, sent, got, sure, owes⟩ := E
  dsimp only at h1 h2 h3 h4 hq
  cbv; repeat' ((first | refine .e ?_ | refine .n fun h => ?_ | refine .y fun h => ?_ | refine .q fun z hz hz0 hz1 => ?_ | refine .mk (fun h => ?_) fun h => ?_ | refine .k fun z hz => ?_ | refine .o ?_ | refine .l fun ys hys hyl => ?_ | refine .zl fun zs hzs hzl => ?_ | refine .u fun u hu hul => ?_ | refine .z fun zs hzs => ?_ | refine .mk (fun h => ?_) ?_ | refine .ms fun ms hms => ?_ | refine .s fun s hs hsl => ?_ | refine And.intro ?_ ?_) <;> cbv)
  (refine callG_spec hparts (⟨self, other, out, wait, sent, got, sure, owes⟩, M, q) [0, 1, 2] ⟨hi, hq⟩ rfl rfl (by decide) rfl rfl rfl rfl rfl ?_; try dsimp only)
  cbv; repeat' ((first | refine .e ?_ | refine .n fun h => ?_ | refine .y fun h => ?_ | refine .q fun z hz hz0 hz1 => ?_ | refine .mk (fun h => ?_) fun h => ?_ | refine .k fun z hz => ?_ | refine .o ?_ | refine .l fun ys hys hyl => ?_ | refine .zl fun zs hzs hzl => ?_ | refine .u fun u hu hul => ?_ | refine .z fun zs hzs => ?_ | refine .mk (fun h => ?_) ?_ | refine .ms fun ms hms => ?_ | refine .s fun s hs hsl => ?_ | refine And.intro ?_ ?_) <;> cbv)
  (refine callG_ro hack 0 (rest := []) (fun x => (x 6, ⟨self, other, out, wait, sent, got, sure, owes⟩, M)) rfl rfl rfl rfl (fun _ => rfl) (fun x hx => ⟨rfl, hi, ?_⟩); try dsimp only)
  cbv; repeat' ((first | refine .e ?_ | refine .n fun h => ?_ | refine .y fun h => ?_ | refine .q fun z hz hz0 hz1 => ?_ | refine .mk (fun h => ?_) fun h => ?_ | refine .k fun z hz => ?_ | refine .o ?_ | refine .l fun ys hys hyl => ?_ | refine .zl fun zs hzs hzl => ?_ | refine .u fun u hu hul => ?_ | refine .z fun zs hzs => ?_ | refine .mk (fun h => ?_) ?_ | refine .ms fun ms hms => ?_ | refine .s fun s hs hsl => ?_ | refine And.intro ?_ ?_) <;> cbv)
  (refine callG_ro hsent 0 (rest := []) (fun x => (x 6, ⟨self, other, out, wait, sent, got, sure, owes⟩, M)) rfl rfl rfl rfl (fun _ => rfl) (fun x hx => ⟨rfl, hi, ?_⟩); try dsimp only)
  cbv; repeat' ((first | refine .e ?_ | refine .n fun h => ?_ | refine .y fun h => ?_ | refine .q fun z hz hz0 hz1 => ?_ | refine .mk (fun h => ?_) fun h => ?_ | refine .k fun z hz => ?_ | refine .o ?_ | refine .l fun ys hys hyl => ?_ | refine .zl fun zs hzs hzl => ?_ | refine .u fun u hu hul => ?_ | refine .z fun zs hzs => ?_ | refine .mk (fun h => ?_) ?_ | refine .ms fun ms hms => ?_ | refine .s fun s hs hsl => ?_ | refine And.intro ?_ ?_) <;> cbv)
  (refine callG_ro hgot 0 (rest := []) (fun x => (x 6, ⟨self, other, out, wait, sent, got, sure, owes⟩, M)) rfl rfl rfl rfl (fun _ => rfl) (fun x hx => ⟨rfl, hi, ?_⟩); try dsimp only)
  cbv; repeat' ((first | refine .e ?_ | refine .n fun h => ?_ | refine .y fun h => ?_ | refine .q fun z hz hz0 hz1 => ?_ | refine .mk (fun h => ?_) fun h => ?_ | refine .k fun z hz => ?_ | refine .o ?_ | refine .l fun ys hys hyl => ?_ | refine .zl fun zs hzs hzl => ?_ | refine .u fun u hu hul => ?_ | refine .z fun zs hzs => ?_ | refine .mk (fun h => ?_) ?_ | refine .ms fun ms hms => ?_ | refine .s fun s hs hsl => ?_ | refine And.intro ?_ ?_) <;> cbv)
  (refine callG_spec0 hsame out ⟨by omega, h2⟩ rfl rfl rfl ?_; try dsimp only)
  cbv; repeat' ((first | refine .e ?_ | refine .n fun h => ?_ | refine .y fun h => ?_ | refine .q fun z hz hz0 hz1 => ?_ | refine .mk (fun h => ?_) fun h => ?_ | refine .k fun z hz => ?_ | refine .o ?_ | refine .l fun ys hys hyl => ?_ | refine .zl fun zs hzs hzl => ?_ | refine .u fun u hu hul => ?_ | refine .z fun zs hzs => ?_ | refine .mk (fun h => ?_) ?_ | refine .ms fun ms hms => ?_ | refine .s fun s hs hsl => ?_ | refine And.intro ?_ ?_) <;> cbv)
  exact FinK.mk ⟨_, Gh.refl _, .inl (CutK.pre _ (by rfl) (by exact Nat.le_of_ble_eq_true rfl) (by rfl) (by rfl) (Le.refl _) (LeH.refl _) hK)⟩
noncomputable def DoneC : Ctr := spec (fun i : En × Nat × Dd => [.ptr 0 0, .ptr 3 0, DdA i.2.2]) (fun i => BothH i.1) (fun i => InvE i.2.1 i.1 ∧ FitD i.2.2 ∧ i.2.1 ≤ 1060000) (fun _ => .bl true) fun i => BothH (stepE i.1 i.2.2)
theorem due_small {E : En} {M : Nat} (h : InvE M E) (hM : M ≤ 1060000) : ∀ x ∈ dueL E, Small x := by
  have h1 := h.sure0
  have h2 := h.sure1
  have h3 := h.gotM
  have hs : i64 E.sure := by unfold i64; omega
  intro x hx
  unfold dueL at hx
  split at hx
  · simp only [List.mem_singleton] at hx
    subst hx
    have z := zeroL_small
    exact ⟨h.self, h.other, z.deal, z.text, z.party, z.cur, z.number, by unfold i64 ackL; dsimp only; omega, hs, z.index, z.day, z.amt, z.docs, z.boxes, z.each, z.eachB⟩
  · obtain ⟨l, hl, rfl⟩ := List.mem_map.1 hx
    exact withAck_small (h.outS l hl) hs
theorem due_len {E : En} {M : Nat} (h : InvE M E) : (dueL E).length ≤ 4096 := by
  unfold dueL
  split
  · simp
  · rw [List.length_map]; exact h.outL
theorem pull_len : ∀ (n : Nat) (E : En) (t : List Lt), (pull n E t).2.length ≤ t.length + n
  | 0, E, t => by unfold pull; exact Nat.le_refl _
  | n + 1, E, t => by
    unfold pull
    split
    · rename_i i _
      have := pull_len n { E with wait := E.wait.eraseIdx i, got := E.got + 1 } (t ++ (E.wait[i]?).toList)
      rw [List.length_append] at this
      have h2 : (E.wait[i]?).toList.length ≤ 1 := by cases E.wait[i]? <;> simp
      omega
    · dsimp only; omega
theorem take_len {E : En} {M : Nat} {l : Lt} (h : InvE M E) : (takeR E l).2.length ≤ M + 1 := by
  have h1 := h.got0
  have h2 := h.gotM
  unfold takeR
  split
  · exact Nat.zero_le _
  · split
    · exact Nat.zero_le _
    · split
      · exact Nat.zero_le _
      · have := pull_len (E.wait.length + 1) (put E l) []
        simp only [List.length_nil, Nat.zero_add] at this
        omega
structure Fns (P : Program) : Prop where
  send : FnOk P 31 SendC
  rsend : FnOk P 37 RSendC
  text : FnOk P 34 TextC
  take : FnOk P 26 TakeC
  rtake : FnOk P 38 RTakeC
  same : FnOk P 27 SameC
  due : FnOk P 12 DueC
  rdue : FnOk P 28 RDueC
  sure : FnOk P 14 SureC
  rsure : FnOk P 39 RSureC
  acked : FnOk P 40 AckedC
  racked : FnOk P 41 RAckedC
theorem done_body (P : Program) (F : Fns P) : BodyOk P x22 DoneC := by
  intro args H K hc
  obtain ⟨⟨E, M, d⟩, rfl, rfl, ⟨hi, hd, hM⟩, hK⟩ := hc
  refine ⟨Nat.le_of_ble_eq_true rfl, ?_⟩
  dsimp only at hi hd hM hK ⊢
  rw [stepE] at hK
  have hsm := hd.small
  have hdn := hd.n
  obtain ⟨dk, l, n⟩ := d
  have hss : Small (sendL E l) := by
    rw [sendL]
    split
    · exact zeroL_small
    · exact stamp_small hi hsm
  have hds : ∀ x ∈ dueL E, Small x := due_small hi hM
  have hdl : (dueL E).length ≤ 4096 := due_len hi
  have hts : ∀ x ∈ (takeR E l).2, Small x := (hi.take hsm).2
  have htl : (takeR E l).2.length ≤ M + 1 := take_len hi
  obtain ⟨L, hL⟩ : ∃ L, L = sendL E l := ⟨_, rfl⟩
  obtain ⟨E1, hE1⟩ : ∃ L, L = sendE E l := ⟨_, rfl⟩
  obtain ⟨R, hR⟩ : ∃ L, L = takeR E l := ⟨_, rfl⟩
  obtain ⟨E2, hE2⟩ : ∃ L, L = dueE E := ⟨_, rfl⟩
  obtain ⟨DL, hDL⟩ : ∃ L, L = dueL E := ⟨_, rfl⟩
  obtain ⟨E3, hE3⟩ : ∃ L, L = sureE E n := ⟨_, rfl⟩
  obtain ⟨N3, hN3⟩ : ∃ L, L = sureN E n := ⟨_, rfl⟩
  obtain ⟨E4, hE4⟩ : ∃ L, L = ackedE E n := ⟨_, rfl⟩
  obtain ⟨N4, hN4⟩ : ∃ L, L = ackedN E n := ⟨_, rfl⟩
  obtain ⟨b, hb⟩ : ∃ b, b = decide (OwnL E l) := ⟨_, rfl⟩
  dsimp only at hsm hdn hK hss
  rw [← hE1, ← hE2, ← hE3, ← hE4, ← hR] at hK
  rw [← hL] at hss
  rw [← hR] at hts htl
  rw [← hDL] at hds hdl
  obtain ⟨T0, hT0⟩ : ∃ T, T = textF L := ⟨_, rfl⟩
  obtain ⟨R1, R2⟩ := R
  dsimp only at hts htl
  obtain ⟨self, other, out, wait, sent, got, sure, owes⟩ := E
  obtain ⟨frm, to, number, kind, ack, deal, text, party, index, day, cur, amt, docs, boxes⟩ := l
  obtain ⟨⟩ := L
  obtain ⟨⟩ := E1
  obtain ⟨⟩ := E2
  obtain ⟨⟩ := E3
  obtain ⟨⟩ := E4
  obtain ⟨⟩ := R1
  cbv; repeat' ((first | refine .e ?_ | refine .n fun h => ?_ | refine .y fun h => ?_ | refine .q fun z hz hz0 hz1 => ?_ | refine .mk (fun h => ?_) fun h => ?_ | refine .k fun z hz => ?_ | refine .o ?_ | refine .l fun ys hys hyl => ?_ | refine .zl fun zs hzs hzl => ?_ | refine .u fun u hu hul => ?_ | refine .z fun zs hzs => ?_ | refine .mk (fun h => ?_) ?_ | refine .ms fun ms hms => ?_ | refine .s fun s hs hsl => ?_ | refine And.intro ?_ ?_) <;> cbv)
  iterate 2
    · (refine callG_spec F.send (⟨self, other, out, wait, sent, got, sure, owes⟩, M, ⟨frm, to, number, kind, ack, deal, text, party, index, day, cur, amt, docs, boxes⟩) [0, 1, 2] ⟨hi, hsm⟩ rfl rfl (by decide) rfl rfl rfl rfl rfl ?_; try dsimp only)
      rw [← hL, ← hE1]
      cbv; repeat' ((first | refine .e ?_ | refine .n fun h => ?_ | refine .y fun h => ?_ | refine .q fun z hz hz0 hz1 => ?_ | refine .mk (fun h => ?_) fun h => ?_ | refine .k fun z hz => ?_ | refine .o ?_ | refine .l fun ys hys hyl => ?_ | refine .zl fun zs hzs hzl => ?_ | refine .u fun u hu hul => ?_ | refine .z fun zs hzs => ?_ | refine .mk (fun h => ?_) ?_ | refine .ms fun ms hms => ?_ | refine .s fun s hs hsl => ?_ | refine And.intro ?_ ?_) <;> cbv)
      (refine callG_spec0 F.text (_, T0) ⟨_, rfl, hss, hT0⟩ rfl rfl rfl ?_; try dsimp only)
      cbv; repeat' ((first | refine .e ?_ | refine .n fun h => ?_ | refine .y fun h => ?_ | refine .q fun z hz hz0 hz1 => ?_ | refine .mk (fun h => ?_) fun h => ?_ | refine .k fun z hz => ?_ | refine .o ?_ | refine .l fun ys hys hyl => ?_ | refine .zl fun zs hzs hzl => ?_ | refine .u fun u hu hul => ?_ | refine .z fun zs hzs => ?_ | refine .mk (fun h => ?_) ?_ | refine .ms fun ms hms => ?_ | refine .s fun s hs hsl => ?_ | refine And.intro ?_ ?_) <;> cbv)
      (refine callG_spec F.rsend (⟨self, other, out, wait, sent, got, sure, owes⟩, M, ⟨frm, to, number, kind, ack, deal, text, party, index, day, cur, amt, docs, boxes⟩) [3] hi rfl rfl (by decide) rfl rfl rfl rfl rfl ?_; try dsimp only)
      rw [← hL, ← hE1]
      cbv; repeat' ((first | refine .e ?_ | refine .n fun h => ?_ | refine .y fun h => ?_ | refine .q fun z hz hz0 hz1 => ?_ | refine .mk (fun h => ?_) fun h => ?_ | refine .k fun z hz => ?_ | refine .o ?_ | refine .l fun ys hys hyl => ?_ | refine .zl fun zs hzs hzl => ?_ | refine .u fun u hu hul => ?_ | refine .z fun zs hzs => ?_ | refine .mk (fun h => ?_) ?_ | refine .ms fun ms hms => ?_ | refine .s fun s hs hsl => ?_ | refine And.intro ?_ ?_) <;> cbv)
      (refine callG_spec0 F.text (_, T0) ⟨_, rfl, hss, hT0⟩ rfl rfl rfl ?_; try dsimp only)
      cbv; repeat' ((first | refine .e ?_ | refine .n fun h => ?_ | refine .y fun h => ?_ | refine .q fun z hz hz0 hz1 => ?_ | refine .mk (fun h => ?_) fun h => ?_ | refine .k fun z hz => ?_ | refine .o ?_ | refine .l fun ys hys hyl => ?_ | refine .zl fun zs hzs hzl => ?_ | refine .u fun u hu hul => ?_ | refine .z fun zs hzs => ?_ | refine .mk (fun h => ?_) ?_ | refine .ms fun ms hms => ?_ | refine .s fun s hs hsl => ?_ | refine And.intro ?_ ?_) <;> cbv)
      · rw [if_pos (by omega)] at hK
        exact FinK.mk ⟨_, Gh.refl _, .inl (CutK.pre _ (by rfl) (by exact Nat.le_of_ble_eq_true rfl) (by rfl) (by rfl) (Le.refl _) (LeH.refl _) hK)⟩
      · exact absurd rfl (by assumption)
  iterate 3
    · (refine callG_spec F.take (⟨self, other, out, wait, sent, got, sure, owes⟩, M, ⟨frm, to, number, kind, ack, deal, text, party, index, day, cur, amt, docs, boxes⟩) [0, 1, 2] ⟨hi, hsm, hM⟩ rfl rfl (by decide) rfl rfl rfl rfl rfl ?_; try dsimp only)
      rw [← hR, ← hb]
      cbv; repeat' ((first | refine .e ?_ | refine .n fun h => ?_ | refine .y fun h => ?_ | refine .q fun z hz hz0 hz1 => ?_ | refine .mk (fun h => ?_) fun h => ?_ | refine .k fun z hz => ?_ | refine .o ?_ | refine .l fun ys hys hyl => ?_ | refine .zl fun zs hzs hzl => ?_ | refine .u fun u hu hul => ?_ | refine .z fun zs hzs => ?_ | refine .mk (fun h => ?_) ?_ | refine .ms fun ms hms => ?_ | refine .s fun s hs hsl => ?_ | refine And.intro ?_ ?_) <;> cbv)
      (refine callG_spec F.rtake (⟨self, other, out, wait, sent, got, sure, owes⟩, M, ⟨frm, to, number, kind, ack, deal, text, party, index, day, cur, amt, docs, boxes⟩) [3] ⟨hi, hsm, hM⟩ rfl rfl (by decide) rfl rfl rfl rfl rfl ?_; try dsimp only)
      rw [← hR, ← hb]
      cbv; repeat' ((first | refine .e ?_ | refine .n fun h => ?_ | refine .y fun h => ?_ | refine .q fun z hz hz0 hz1 => ?_ | refine .mk (fun h => ?_) fun h => ?_ | refine .k fun z hz => ?_ | refine .o ?_ | refine .l fun ys hys hyl => ?_ | refine .zl fun zs hzs hzl => ?_ | refine .u fun u hu hul => ?_ | refine .z fun zs hzs => ?_ | refine .mk (fun h => ?_) ?_ | refine .ms fun ms hms => ?_ | refine .s fun s hs hsl => ?_ | refine And.intro ?_ ?_) <;> cbv)
      · (refine callG_spec0 F.same R2 ⟨by omega, hts⟩ rfl rfl rfl ?_; try dsimp only)
        cbv; repeat' ((first | refine .e ?_ | refine .n fun h => ?_ | refine .y fun h => ?_ | refine .q fun z hz hz0 hz1 => ?_ | refine .mk (fun h => ?_) fun h => ?_ | refine .k fun z hz => ?_ | refine .o ?_ | refine .l fun ys hys hyl => ?_ | refine .zl fun zs hzs hzl => ?_ | refine .u fun u hu hul => ?_ | refine .z fun zs hzs => ?_ | refine .mk (fun h => ?_) ?_ | refine .ms fun ms hms => ?_ | refine .s fun s hs hsl => ?_ | refine And.intro ?_ ?_) <;> cbv)
        rw [if_neg (by omega), if_pos (by omega)] at hK
        exact FinK.mk ⟨_, Gh.refl _, .inl (CutK.pre _ (by rfl) (by exact Nat.le_of_ble_eq_true rfl) (by rfl) (by rfl) (Le.refl _) (LeH.refl _) hK)⟩
      · exact absurd rfl (by assumption)
  · (refine callG_spec F.due (⟨self, other, out, wait, sent, got, sure, owes⟩, M) [0, 1, 2] hi rfl rfl (by decide) rfl rfl rfl rfl rfl ?_; try dsimp only)
    rw [← hE2, ← hDL]
    cbv; repeat' ((first | refine .e ?_ | refine .n fun h => ?_ | refine .y fun h => ?_ | refine .q fun z hz hz0 hz1 => ?_ | refine .mk (fun h => ?_) fun h => ?_ | refine .k fun z hz => ?_ | refine .o ?_ | refine .l fun ys hys hyl => ?_ | refine .zl fun zs hzs hzl => ?_ | refine .u fun u hu hul => ?_ | refine .z fun zs hzs => ?_ | refine .mk (fun h => ?_) ?_ | refine .ms fun ms hms => ?_ | refine .s fun s hs hsl => ?_ | refine And.intro ?_ ?_) <;> cbv)
    (refine callG_spec F.rdue (⟨self, other, out, wait, sent, got, sure, owes⟩, M) [3] hi rfl rfl (by decide) rfl rfl rfl rfl rfl ?_; try dsimp only)
    rw [← hE2, ← hDL]
    cbv; repeat' ((first | refine .e ?_ | refine .n fun h => ?_ | refine .y fun h => ?_ | refine .q fun z hz hz0 hz1 => ?_ | refine .mk (fun h => ?_) fun h => ?_ | refine .k fun z hz => ?_ | refine .o ?_ | refine .l fun ys hys hyl => ?_ | refine .zl fun zs hzs hzl => ?_ | refine .u fun u hu hul => ?_ | refine .z fun zs hzs => ?_ | refine .mk (fun h => ?_) ?_ | refine .ms fun ms hms => ?_ | refine .s fun s hs hsl => ?_ | refine And.intro ?_ ?_) <;> cbv)
    refine callG_publish 5 rfl ?_
    cbv
    (refine callG_spec0 F.same DL ⟨by omega, hds⟩ rfl rfl rfl ?_; try dsimp only)
    cbv; repeat' ((first | refine .e ?_ | refine .n fun h => ?_ | refine .y fun h => ?_ | refine .q fun z hz hz0 hz1 => ?_ | refine .mk (fun h => ?_) fun h => ?_ | refine .k fun z hz => ?_ | refine .o ?_ | refine .l fun ys hys hyl => ?_ | refine .zl fun zs hzs hzl => ?_ | refine .u fun u hu hul => ?_ | refine .z fun zs hzs => ?_ | refine .mk (fun h => ?_) ?_ | refine .ms fun ms hms => ?_ | refine .s fun s hs hsl => ?_ | refine And.intro ?_ ?_) <;> cbv)
    rw [if_neg (by omega), if_neg (by omega), if_pos (by omega)] at hK
    exact FinK.mk ⟨_, Gh.refl _, .inl (CutK.pre _ (by rfl) (by exact Nat.le_of_ble_eq_true rfl) (by rfl) (by rfl) (Le.refl _) (LeH.refl _) hK)⟩
  · (refine callG_spec F.sure (⟨self, other, out, wait, sent, got, sure, owes⟩, M, n) [0, 1, 2] hi rfl rfl (by decide) rfl rfl rfl rfl rfl ?_; try dsimp only)
    rw [← hE3, ← hN3]
    cbv; repeat' ((first | refine .e ?_ | refine .n fun h => ?_ | refine .y fun h => ?_ | refine .q fun z hz hz0 hz1 => ?_ | refine .mk (fun h => ?_) fun h => ?_ | refine .k fun z hz => ?_ | refine .o ?_ | refine .l fun ys hys hyl => ?_ | refine .zl fun zs hzs hzl => ?_ | refine .u fun u hu hul => ?_ | refine .z fun zs hzs => ?_ | refine .mk (fun h => ?_) ?_ | refine .ms fun ms hms => ?_ | refine .s fun s hs hsl => ?_ | refine And.intro ?_ ?_) <;> cbv)
    (refine callG_spec F.rsure (⟨self, other, out, wait, sent, got, sure, owes⟩, M, n) [3] hi rfl rfl (by decide) rfl rfl rfl rfl rfl ?_; try dsimp only)
    rw [← hE3, ← hN3]
    cbv; repeat' ((first | refine .e ?_ | refine .n fun h => ?_ | refine .y fun h => ?_ | refine .q fun z hz hz0 hz1 => ?_ | refine .mk (fun h => ?_) fun h => ?_ | refine .k fun z hz => ?_ | refine .o ?_ | refine .l fun ys hys hyl => ?_ | refine .zl fun zs hzs hzl => ?_ | refine .u fun u hu hul => ?_ | refine .z fun zs hzs => ?_ | refine .mk (fun h => ?_) ?_ | refine .ms fun ms hms => ?_ | refine .s fun s hs hsl => ?_ | refine And.intro ?_ ?_) <;> cbv)
    rw [if_neg (by omega), if_neg (by omega), if_neg (by omega), if_pos (by omega)] at hK
    exact FinK.mk ⟨_, Gh.refl _, .inl (CutK.pre _ (by rfl) (by exact Nat.le_of_ble_eq_true rfl) (by rfl) (by rfl) (Le.refl _) (LeH.refl _) hK)⟩
  · (refine callG_spec F.acked (⟨self, other, out, wait, sent, got, sure, owes⟩, M, n) [0, 1, 2] ⟨hi, hdn⟩ rfl rfl (by decide) rfl rfl rfl rfl rfl ?_; try dsimp only)
    rw [← hE4, ← hN4]
    cbv; repeat' ((first | refine .e ?_ | refine .n fun h => ?_ | refine .y fun h => ?_ | refine .q fun z hz hz0 hz1 => ?_ | refine .mk (fun h => ?_) fun h => ?_ | refine .k fun z hz => ?_ | refine .o ?_ | refine .l fun ys hys hyl => ?_ | refine .zl fun zs hzs hzl => ?_ | refine .u fun u hu hul => ?_ | refine .z fun zs hzs => ?_ | refine .mk (fun h => ?_) ?_ | refine .ms fun ms hms => ?_ | refine .s fun s hs hsl => ?_ | refine And.intro ?_ ?_) <;> cbv)
    (refine callG_spec F.racked (⟨self, other, out, wait, sent, got, sure, owes⟩, M, n) [3] hi rfl rfl (by decide) rfl rfl rfl rfl rfl ?_; try dsimp only)
    rw [← hE4, ← hN4]
    cbv; repeat' ((first | refine .e ?_ | refine .n fun h => ?_ | refine .y fun h => ?_ | refine .q fun z hz hz0 hz1 => ?_ | refine .mk (fun h => ?_) fun h => ?_ | refine .k fun z hz => ?_ | refine .o ?_ | refine .l fun ys hys hyl => ?_ | refine .zl fun zs hzs hzl => ?_ | refine .u fun u hu hul => ?_ | refine .z fun zs hzs => ?_ | refine .mk (fun h => ?_) ?_ | refine .ms fun ms hms => ?_ | refine .s fun s hs hsl => ?_ | refine And.intro ?_ ?_) <;> cbv)
    rw [if_neg (by omega), if_neg (by omega), if_neg (by omega), if_neg (by omega), if_pos (by omega)] at hK
    exact FinK.mk ⟨_, Gh.refl _, .inl (CutK.pre _ (by rfl) (by exact Nat.le_of_ble_eq_true rfl) (by rfl) (by rfl) (Le.refl _) (LeH.refl _) hK)⟩
  · rw [if_neg (by omega), if_neg (by omega), if_neg (by omega), if_neg (by omega), if_neg (by omega)] at hK
    exact FinK.mk ⟨_, Gh.refl _, .inl (CutK.pre _ (by rfl) (by exact Nat.le_of_ble_eq_true rfl) (by rfl) (by rfl) (Le.refl _) (LeH.refl _) hK)⟩
end Go.Proofs.Ytaflinfpmbfieaa
namespace Go.Proofs.Ytaflinfpmbfieaa
open Go.RowKit
set_option maxHeartbeats 2000000
set_option maxRecDepth 100000
/-! The chapter's example. -/
def pS : ByteArray := ⟨#[112]⟩
def qS : ByteArray := ⟨#[113]⟩
def awL (n : Int) : Lt := ⟨⟨#[113]⟩, ⟨#[112]⟩, n, 0, 0, ⟨#[]⟩, ⟨#[]⟩, ⟨#[]⟩, 0, 0, ⟨#[]⟩, 0, [], []⟩
theorem awL_small {n : Int} (h : 0 ≤ n ∧ n ≤ 9) : Small (awL n) := ⟨by unfold awL; dsimp only; decide, by unfold awL; dsimp only; decide, by unfold awL; dsimp only; decide, by unfold awL; dsimp only; decide, by unfold awL; dsimp only; decide, by unfold awL; dsimp only; decide, by unfold i64 awL; dsimp only; omega, by unfold i64 awL; dsimp only; decide, by unfold i64 awL; dsimp only; decide, by unfold i64 awL; dsimp only; decide, by unfold i64 awL; dsimp only; decide, by unfold i64 awL; dsimp only; decide, by unfold awL; dsimp only; decide, by unfold awL; dsimp only; decide, by simp [awL], by simp [awL]⟩
def aw (wait : List Lt) (got : Int) (owes : Bool) : En := ⟨⟨#[112]⟩, ⟨#[113]⟩, [], wait, 0, got, 0, owes⟩
theorem newE_inv {a b : ByteArray} (ha : a.size ≤ 100) (hb : b.size ≤ 100) : InvE 0 (newE a b) :=
  ⟨ha, hb, fun i hi => by simp [newE] at hi, by simp [newE], by simp [newE], by simp [newE], by simp [newE], by simp [newE], by simp [newE], by simp [newE], by simp [newE], by simp [newE], by simp [newE]⟩
theorem aw_new : newE ⟨#[112]⟩ ⟨#[113]⟩ = aw [] 0 false := rfl
theorem aw_one : takeR (aw [] 0 false) (awL 1) = (aw [] 1 true, [awL 1]) := by rfl
theorem aw_two : takeR (aw [] 1 true) (awL 3) = (aw [awL 3] 1 true, []) := by rfl
theorem aw_three : takeR (aw [awL 3] 1 true) (awL 2) = (aw [] 3 true, [awL 2, awL 3]) := by rfl
theorem aw_own (wait : List Lt) (got : Int) (owes : Bool) (n : Int) (h : 1 ≤ n) : decide (OwnL (aw wait got owes) (awL n)) = true := by
  exact decide_eq_true ⟨rfl, rfl, by simp [awL], by simp [awL, aw], fun h => by simp [awL] at h, fun _ => h⟩
theorem aw_inv1 : InvE 0 (aw [] 0 false) := aw_new ▸ newE_inv (by decide) (by decide)
theorem aw_inv2 : InvE 1 (aw [] 1 true) := by have := (aw_inv1.take (l := awL 1) (awL_small (by omega))).1; rw [aw_one] at this; exact this
theorem aw_inv3 : InvE 2 (aw [awL 3] 1 true) := by have := (aw_inv2.take (l := awL 3) (awL_small (by omega))).1; rw [aw_two] at this; exact this
theorem aw_inv4 : InvE 3 (aw [] 3 true) := by have := (aw_inv3.take (l := awL 2) (awL_small (by omega))).1; rw [aw_three] at this; exact this
noncomputable def AwakeC : Ctr := spec (fun _ : Unit => []) (fun _ => []) (fun _ => True) (fun _ => .bl true) fun _ => []
theorem awake_body (P : Program) (hnew : FnOk P 20 NewC) (htake : FnOk P 26 TakeC) (hgot : FnOk P 15 GotC) : BodyOk P x9 AwakeC := by
  intro args H K hc
  obtain ⟨_, rfl, rfl, _, hK⟩ := hc
  refine ⟨Nat.le_of_ble_eq_true rfl, ?_⟩
  dsimp only at hK ⊢
  cbv; repeat' ((first | refine .e ?_ | refine .n fun h => ?_ | refine .y fun h => ?_ | refine .q fun z hz hz0 hz1 => ?_ | refine .mk (fun h => ?_) fun h => ?_ | refine .k fun z hz => ?_ | refine .o ?_ | refine .l fun ys hys hyl => ?_ | refine .zl fun zs hzs hzl => ?_ | refine .u fun u hu hul => ?_ | refine .z fun zs hzs => ?_ | refine .mk (fun h => ?_) ?_ | refine .ms fun ms hms => ?_ | refine .s fun s hs hsl => ?_ | refine And.intro ?_ ?_) <;> cbv)
  (refine callG_new hnew (⟨#[112]⟩, ⟨#[113]⟩) ⟨⟨by decide, by decide⟩, by rfl⟩ rfl rfl ?_; try dsimp only)
  rw [aw_new]
  cbv; repeat' ((first | refine .e ?_ | refine .n fun h => ?_ | refine .y fun h => ?_ | refine .q fun z hz hz0 hz1 => ?_ | refine .mk (fun h => ?_) fun h => ?_ | refine .k fun z hz => ?_ | refine .o ?_ | refine .l fun ys hys hyl => ?_ | refine .zl fun zs hzs hzl => ?_ | refine .u fun u hu hul => ?_ | refine .z fun zs hzs => ?_ | refine .mk (fun h => ?_) ?_ | refine .ms fun ms hms => ?_ | refine .s fun s hs hsl => ?_ | refine And.intro ?_ ?_) <;> cbv)
  refine callG_le [.ptr 0 0, LtA (awL 1)] (by repeat' (first | exact LeL.nil | exact LeL0.nil | exact LeH.nil | exact LeE.refl _ | exact Le.refl _ | exact Le0.one (.refl _) | exact Le0.one (.nil _) | exact Le1.refl _ | exact Le1.nil _ | refine LeH.cons ?_ ?_ | refine LeE.row ?_ | refine LeE.blk ?_ | refine LeL0.cons ?_ ?_ | refine LeL.cons ?_ ?_ | refine Le0.agg ?_ | refine Le.tup ?_ | exact Le.one (.one (.nil _)) | refine Le.one (.agg ?_))) ?_
  (refine callG_spec htake (aw [] 0 false, 0, awL 1) [0, 1, 2] ⟨aw_inv1, awL_small (by omega), Nat.le_of_ble_eq_true rfl⟩ rfl rfl (by decide) rfl rfl rfl rfl rfl ?_; try dsimp only)
  rw [aw_one, aw_own _ _ _ _ (by omega)]
  cbv; repeat' ((first | refine .e ?_ | refine .n fun h => ?_ | refine .y fun h => ?_ | refine .q fun z hz hz0 hz1 => ?_ | refine .mk (fun h => ?_) fun h => ?_ | refine .k fun z hz => ?_ | refine .o ?_ | refine .l fun ys hys hyl => ?_ | refine .zl fun zs hzs hzl => ?_ | refine .u fun u hu hul => ?_ | refine .z fun zs hzs => ?_ | refine .mk (fun h => ?_) ?_ | refine .ms fun ms hms => ?_ | refine .s fun s hs hsl => ?_ | refine And.intro ?_ ?_) <;> cbv)
  refine callG_le [.ptr 0 0, LtA (awL 3)] (by repeat' (first | exact LeL.nil | exact LeL0.nil | exact LeH.nil | exact LeE.refl _ | exact Le.refl _ | exact Le0.one (.refl _) | exact Le0.one (.nil _) | exact Le1.refl _ | exact Le1.nil _ | refine LeH.cons ?_ ?_ | refine LeE.row ?_ | refine LeE.blk ?_ | refine LeL0.cons ?_ ?_ | refine LeL.cons ?_ ?_ | refine Le0.agg ?_ | refine Le.tup ?_ | exact Le.one (.one (.nil _)) | refine Le.one (.agg ?_))) ?_
  (refine callG_spec htake (aw [] 1 true, 1, awL 3) [0, 1, 2] ⟨aw_inv2, awL_small (by omega), Nat.le_of_ble_eq_true rfl⟩ rfl rfl (by decide) rfl rfl rfl rfl rfl ?_; try dsimp only)
  rw [aw_two, aw_own _ _ _ _ (by omega)]
  cbv; repeat' ((first | refine .e ?_ | refine .n fun h => ?_ | refine .y fun h => ?_ | refine .q fun z hz hz0 hz1 => ?_ | refine .mk (fun h => ?_) fun h => ?_ | refine .k fun z hz => ?_ | refine .o ?_ | refine .l fun ys hys hyl => ?_ | refine .zl fun zs hzs hzl => ?_ | refine .u fun u hu hul => ?_ | refine .z fun zs hzs => ?_ | refine .mk (fun h => ?_) ?_ | refine .ms fun ms hms => ?_ | refine .s fun s hs hsl => ?_ | refine And.intro ?_ ?_) <;> cbv)
  refine callG_le [.ptr 0 0, LtA (awL 2)] (by repeat' (first | exact LeL.nil | exact LeL0.nil | exact LeH.nil | exact LeE.refl _ | exact Le.refl _ | exact Le0.one (.refl _) | exact Le0.one (.nil _) | exact Le1.refl _ | exact Le1.nil _ | refine LeH.cons ?_ ?_ | refine LeE.row ?_ | refine LeE.blk ?_ | refine LeL0.cons ?_ ?_ | refine LeL.cons ?_ ?_ | refine Le0.agg ?_ | refine Le.tup ?_ | exact Le.one (.one (.nil _)) | refine Le.one (.agg ?_))) ?_
  (refine callG_spec htake (aw [awL 3] 1 true, 2, awL 2) [0, 1, 2] ⟨aw_inv3, awL_small (by omega), Nat.le_of_ble_eq_true rfl⟩ rfl rfl (by decide) rfl rfl rfl rfl rfl ?_; try dsimp only)
  rw [aw_three, aw_own _ _ _ _ (by omega)]
  cbv; repeat' ((first | refine .e ?_ | refine .n fun h => ?_ | refine .y fun h => ?_ | refine .q fun z hz hz0 hz1 => ?_ | refine .mk (fun h => ?_) fun h => ?_ | refine .k fun z hz => ?_ | refine .o ?_ | refine .l fun ys hys hyl => ?_ | refine .zl fun zs hzs hzl => ?_ | refine .u fun u hu hul => ?_ | refine .z fun zs hzs => ?_ | refine .mk (fun h => ?_) ?_ | refine .ms fun ms hms => ?_ | refine .s fun s hs hsl => ?_ | refine And.intro ?_ ?_) <;> cbv)
  refine ⟨1, _, rfl, rfl, ?_⟩
  cbv; repeat' ((first | refine .e ?_ | refine .n fun h => ?_ | refine .y fun h => ?_ | refine .q fun z hz hz0 hz1 => ?_ | refine .mk (fun h => ?_) fun h => ?_ | refine .k fun z hz => ?_ | refine .o ?_ | refine .l fun ys hys hyl => ?_ | refine .zl fun zs hzs hzl => ?_ | refine .u fun u hu hul => ?_ | refine .z fun zs hzs => ?_ | refine .mk (fun h => ?_) ?_ | refine .ms fun ms hms => ?_ | refine .s fun s hs hsl => ?_ | refine And.intro ?_ ?_) <;> cbv)
  (refine callG_ro hgot 0 (rest := []) (fun x => (x 6, aw [] 3 true, 3)) rfl rfl rfl rfl (fun _ => rfl) (fun x hx => ⟨rfl, aw_inv4, ?_⟩); try dsimp only)
  cbv; repeat' ((first | refine .e ?_ | refine .n fun h => ?_ | refine .y fun h => ?_ | refine .q fun z hz hz0 hz1 => ?_ | refine .mk (fun h => ?_) fun h => ?_ | refine .k fun z hz => ?_ | refine .o ?_ | refine .l fun ys hys hyl => ?_ | refine .zl fun zs hzs hzl => ?_ | refine .u fun u hu hul => ?_ | refine .z fun zs hzs => ?_ | refine .mk (fun h => ?_) ?_ | refine .ms fun ms hms => ?_ | refine .s fun s hs hsl => ?_ | refine And.intro ?_ ?_) <;> cbv)
  exact FinK.mk ⟨_, Gh.refl _, .inl (CutK.val rfl (Le.refl _) hK)⟩
end Go.Proofs.Ytaflinfpmbfieaa
namespace Go.Proofs.Ytaflinfpmbfieaa
open Go.RowKit
set_option maxHeartbeats 2000000
set_option maxRecDepth 100000
/-! Deed by deed. -/
structure IntsL (l : Lt) : Prop where
  number : i64 l.number
  kind : i64 l.kind
  ack : i64 l.ack
  index : i64 l.index
  day : i64 l.day
  amt : i64 l.amt
  each : ∀ d ∈ l.docs, i64 d.kind
structure IntsD (d : Dd) : Prop where
  l : IntsL d.l
  n : i64 d.n
theorem small_of {l : Lt} (h : NotBig l) (k : IntsL l) : Small l :=
  ⟨h.frm, h.to, h.deal, h.text, h.party, h.cur, k.number, k.kind, k.ack, k.index, k.day, k.amt, h.docs, h.boxes, fun d hd => ⟨k.each d hd, (h.each d hd).1, (h.each d hd).2.1, (h.each d hd).2.2.1, (h.each d hd).2.2.2⟩, h.eachB⟩
theorem fit_of {d : Dd} (h : NotBig d.l) (k : IntsD d) : FitD d := ⟨small_of h k.l, k.n⟩
structure Fns2 (P : Program) : Prop where
  awake : FnOk P 9 AwakeC
  heavy : FnOk P 19 HeavyC
  new : FnOk P 20 NewC
  newNo : FnOk P 20 NewNoC
  names : FnOk P 21 PartC
  done : FnOk P 22 DoneC
  even : FnOk P 23 EvenC
theorem HeavyC.mono : ∀ args H (K K' : AV → List Ent → Prop), (∀ x H, K x H → K' x H) → HeavyC args H K → HeavyC args H K' := fun _args _H _K _K' h ⟨l, m, h1, h2, hm, h3, h4⟩ => ⟨l, m, h1, h2, hm, fun a => h _ _ (h3 a), fun a => h _ _ (h4 a)⟩
theorem callG_heavy {P : Program} (hb : FnOk P 19 HeavyC) (L : List Dd) (most : Int) {keep : List Nat} {st : St} {K : AV → St → Prop} (hm : most ≤ 1000) (hk : (keep.all fun k => Nat.blt k st.H.length) = true)
    (h0 : (L.length : Int) ≤ most → (∀ d ∈ L, NotBig d.l) → K (.bl false) st) (h1 : K (.bl true) st) : CallG P keep 19 [.sl 16 (mapA DdA L), .i most] st K :=
  callG_pure hb HeavyC.mono rfl (fun k hkk => by have := List.all_eq_true.1 hk k hkk; simpa [Nat.blt_eq] using this) ⟨L, most, rfl, rfl, hm, fun a => ⟨rfl, rfl, h0 a.1 a.2⟩, fun _ => ⟨rfl, rfl, h1⟩⟩
noncomputable def PlaysC : Ctr := spec (fun i : ByteArray × ByteArray × List Dd => [.str i.1, .str i.2.1, .sl 16 (mapA DdA i.2.2)]) (fun _ => []) (fun i => ∀ d ∈ i.2.2, IntsD d) (fun _ => .bl true) fun _ => []
theorem plays_body (P : Program) (F : Fns2 P) : BodyOk P x5 PlaysC := by
  intro args H K hc
  obtain ⟨⟨a, b, L⟩, rfl, rfl, hints, hK⟩ := hc
  refine ⟨Nat.le_of_ble_eq_true rfl, ?_⟩
  dsimp only at hints hK ⊢
  obtain ⟨n, hn⟩ : ∃ n, n = L.length := ⟨_, rfl⟩
  cbv; repeat' ((first | refine .e ?_ | refine .n fun h => ?_ | refine .y fun h => ?_ | refine .q fun z hz hz0 hz1 => ?_ | refine .mk (fun h => ?_) fun h => ?_ | refine .k fun z hz => ?_ | refine .o ?_ | refine .l fun ys hys hyl => ?_ | refine .zl fun zs hzs hzl => ?_ | refine .u fun u hu hul => ?_ | refine .z fun zs hzs => ?_ | refine .mk (fun h => ?_) ?_ | refine .ms fun ms hms => ?_ | refine .s fun s hs hsl => ?_ | refine And.intro ?_ ?_) <;> cbv)
  (refine callG_spec0 F.awake () trivial rfl rfl rfl ?_; try dsimp only)
  cbv; repeat' ((first | refine .e ?_ | refine .n fun h => ?_ | refine .y fun h => ?_ | refine .q fun z hz hz0 hz1 => ?_ | refine .mk (fun h => ?_) fun h => ?_ | refine .k fun z hz => ?_ | refine .o ?_ | refine .l fun ys hys hyl => ?_ | refine .zl fun zs hzs hzl => ?_ | refine .u fun u hu hul => ?_ | refine .z fun zs hzs => ?_ | refine .mk (fun h => ?_) ?_ | refine .ms fun ms hms => ?_ | refine .s fun s hs hsl => ?_ | refine And.intro ?_ ?_) <;> cbv)
  refine callG_heavy F.heavy L 30 (by omega) rfl (fun hlen hnb => ?_) ?_
  rotate_left
  · cbv; repeat' ((first | refine .e ?_ | refine .n fun h => ?_ | refine .y fun h => ?_ | refine .q fun z hz hz0 hz1 => ?_ | refine .mk (fun h => ?_) fun h => ?_ | refine .k fun z hz => ?_ | refine .o ?_ | refine .l fun ys hys hyl => ?_ | refine .zl fun zs hzs hzl => ?_ | refine .u fun u hu hul => ?_ | refine .z fun zs hzs => ?_ | refine .mk (fun h => ?_) ?_ | refine .ms fun ms hms => ?_ | refine .s fun s hs hsl => ?_ | refine And.intro ?_ ?_) <;> cbv)
    exact FinK.mk ⟨_, Gh.refl _, .inl (CutK.val rfl (Le.refl _) hK)⟩
  cbv; repeat' ((first | refine .e ?_ | refine .n fun h => ?_ | refine .y fun h => ?_ | refine .q fun z hz hz0 hz1 => ?_ | refine .mk (fun h => ?_) fun h => ?_ | refine .k fun z hz => ?_ | refine .o ?_ | refine .l fun ys hys hyl => ?_ | refine .zl fun zs hzs hzl => ?_ | refine .u fun u hu hul => ?_ | refine .z fun zs hzs => ?_ | refine .mk (fun h => ?_) ?_ | refine .ms fun ms hms => ?_ | refine .s fun s hs hsl => ?_ | refine And.intro ?_ ?_) <;> cbv)
  · exact FinK.mk ⟨_, Gh.refl _, .inl (CutK.val rfl (Le.refl _) hK)⟩
  · exact FinK.mk ⟨_, Gh.refl _, .inl (CutK.val rfl (Le.refl _) hK)⟩
  obtain ⟨pb, hpb⟩ : ∃ p, p = partB a b := ⟨_, rfl⟩
  cases pb with
  | false =>
    (refine callG_spec0 F.newNo (a, b) ⟨⟨by ((try simp only [vn] at *) <;> omega), by ((try simp only [vn] at *) <;> omega)⟩, hpb.symm⟩ rfl rfl rfl ?_; try dsimp only)
    cbv; repeat' ((first | refine .e ?_ | refine .n fun h => ?_ | refine .y fun h => ?_ | refine .q fun z hz hz0 hz1 => ?_ | refine .mk (fun h => ?_) fun h => ?_ | refine .k fun z hz => ?_ | refine .o ?_ | refine .l fun ys hys hyl => ?_ | refine .zl fun zs hzs hzl => ?_ | refine .u fun u hu hul => ?_ | refine .z fun zs hzs => ?_ | refine .mk (fun h => ?_) ?_ | refine .ms fun ms hms => ?_ | refine .s fun s hs hsl => ?_ | refine And.intro ?_ ?_) <;> cbv)
    (refine callG_spec0 F.names (a, b) ⟨by ((try simp only [vn] at *) <;> omega), by ((try simp only [vn] at *) <;> omega)⟩ rfl rfl rfl ?_; try dsimp only)
    rw [← hpb]
    cbv; repeat' ((first | refine .e ?_ | refine .n fun h => ?_ | refine .y fun h => ?_ | refine .q fun z hz hz0 hz1 => ?_ | refine .mk (fun h => ?_) fun h => ?_ | refine .k fun z hz => ?_ | refine .o ?_ | refine .l fun ys hys hyl => ?_ | refine .zl fun zs hzs hzl => ?_ | refine .u fun u hu hul => ?_ | refine .z fun zs hzs => ?_ | refine .mk (fun h => ?_) ?_ | refine .ms fun ms hms => ?_ | refine .s fun s hs hsl => ?_ | refine And.intro ?_ ?_) <;> cbv)
    exact FinK.mk ⟨_, Gh.refl _, .inl (CutK.val rfl (Le.refl _) hK)⟩
  | true =>
    have hinv := newE_inv (a := a) (b := b) (by ((try simp only [vn] at *) <;> omega)) (by ((try simp only [vn] at *) <;> omega))
    (refine callG_new F.new (a, b) ⟨⟨by ((try simp only [vn] at *) <;> omega), by ((try simp only [vn] at *) <;> omega)⟩, hpb.symm⟩ rfl rfl ?_; try dsimp only)
    cbv; repeat' ((first | refine .e ?_ | refine .n fun h => ?_ | refine .y fun h => ?_ | refine .q fun z hz hz0 hz1 => ?_ | refine .mk (fun h => ?_) fun h => ?_ | refine .k fun z hz => ?_ | refine .o ?_ | refine .l fun ys hys hyl => ?_ | refine .zl fun zs hzs hzl => ?_ | refine .u fun u hu hul => ?_ | refine .z fun zs hzs => ?_ | refine .mk (fun h => ?_) ?_ | refine .ms fun ms hms => ?_ | refine .s fun s hs hsl => ?_ | refine And.intro ?_ ?_) <;> cbv)
    (refine callG_spec0 F.names (a, b) ⟨by ((try simp only [vn] at *) <;> omega), by ((try simp only [vn] at *) <;> omega)⟩ rfl rfl rfl ?_; try dsimp only)
    rw [← hpb]
    cbv; repeat' ((first | refine .e ?_ | refine .n fun h => ?_ | refine .y fun h => ?_ | refine .q fun z hz hz0 hz1 => ?_ | refine .mk (fun h => ?_) fun h => ?_ | refine .k fun z hz => ?_ | refine .o ?_ | refine .l fun ys hys hyl => ?_ | refine .zl fun zs hzs hzl => ?_ | refine .u fun u hu hul => ?_ | refine .z fun zs hzs => ?_ | refine .mk (fun h => ?_) ?_ | refine .ms fun ms hms => ?_ | refine .s fun s hs hsl => ?_ | refine And.intro ?_ ?_) <;> cbv)
    refine xloopG (Gh.le (BothH (newE a b)) (LeH.cons (LeE.refl _) (LeH.cons (LeE.refl _) (LeH.cons (LeE.refl _) (LeH.cons (LeE.blk (by repeat' (first | exact LeL.nil | exact LeL0.nil | exact LeH.nil | exact LeE.refl _ | exact Le.refl _ | exact Le0.one (.refl _) | exact Le0.one (.nil _) | exact Le1.refl _ | exact Le1.nil _ | refine LeH.cons ?_ ?_ | refine LeE.row ?_ | refine LeE.blk ?_ | refine LeL0.cons ?_ ?_ | refine LeL.cons ?_ ?_ | refine Le0.agg ?_ | refine Le.tup ?_ | exact Le.one (.one (.nil _)) | refine Le.one (.agg ?_)))) LeH.nil))))) ?_
    refine xloopV [] (fun p : { p : Nat × En // p.1 ≤ L.length ∧ InvE p.1 p.2 } => [(9, .i (nI p.1.1))]) (fun p => BothH p.1.2) (fun p => lft n p.1.1) ⟨(0, newE a b), Nat.zero_le _, hinv⟩ ?_
    rintro ⟨⟨i, E⟩, hi, hE⟩
    dsimp only at hi hE
    obtain ⟨self, other, out, wait, sent, got, sure, owes⟩ := E
    cbv; repeat' ((first | refine .e ?_ | refine .n fun h => ?_ | refine .y fun h => ?_ | refine .q fun z hz hz0 hz1 => ?_ | refine .mk (fun h => ?_) fun h => ?_ | refine .k fun z hz => ?_ | refine .o ?_ | refine .l fun ys hys hyl => ?_ | refine .zl fun zs hzs hzl => ?_ | refine .u fun u hu hul => ?_ | refine .z fun zs hzs => ?_ | refine .mk (fun h => ?_) ?_ | refine .ms fun ms hms => ?_ | refine .s fun s hs hsl => ?_ | refine And.intro ?_ ?_) <;> cbv)
    · have hil : i < L.length := by ((try simp only [vn] at *) <;> omega)
      obtain ⟨d, hg⟩ := some_at hil
      have hfit := fit_of (hnb d (mem_some hg)) (hints d (mem_some hg))
      obtain ⟨E', hE'⟩ : ∃ E', E' = stepE ⟨self, other, out, wait, sent, got, sure, owes⟩ d := ⟨_, rfl⟩
      have hE2 := hE.step hfit
      rw [← hE'] at hE2
      obtain ⟨⟩ := E'
      obtain ⟨dk, l, dn⟩ := d
      obtain ⟨frm, to, number, kind, ack, deal, text, party, index, day, cur, amt, docs, boxes⟩ := l
      cbv; repeat' ((first | refine .e ?_ | refine .n fun h => ?_ | refine .y fun h => ?_ | refine .q fun z hz hz0 hz1 => ?_ | refine .mk (fun h => ?_) fun h => ?_ | refine .k fun z hz => ?_ | refine .o ?_ | refine .l fun ys hys hyl => ?_ | refine .zl fun zs hzs hzl => ?_ | refine .u fun u hu hul => ?_ | refine .z fun zs hzs => ?_ | refine .mk (fun h => ?_) ?_ | refine .ms fun ms hms => ?_ | refine .s fun s hs hsl => ?_ | refine And.intro ?_ ?_) <;> cbv)
      (refine callG_spec F.done (⟨self, other, out, wait, sent, got, sure, owes⟩, i, ⟨dk, ⟨frm, to, number, kind, ack, deal, text, party, index, day, cur, amt, docs, boxes⟩, dn⟩) [0, 1, 2, 3] ⟨hE, hfit, by dsimp only; ((try simp only [vn] at *) <;> omega)⟩ rfl rfl (by decide) rfl rfl rfl rfl rfl ?_; try dsimp only)
      rw [← hE']
      cbv; repeat' ((first | refine .e ?_ | refine .n fun h => ?_ | refine .y fun h => ?_ | refine .q fun z hz hz0 hz1 => ?_ | refine .mk (fun h => ?_) fun h => ?_ | refine .k fun z hz => ?_ | refine .o ?_ | refine .l fun ys hys hyl => ?_ | refine .zl fun zs hzs hzl => ?_ | refine .u fun u hu hul => ?_ | refine .z fun zs hzs => ?_ | refine .mk (fun h => ?_) ?_ | refine .ms fun ms hms => ?_ | refine .s fun s hs hsl => ?_ | refine And.intro ?_ ?_) <;> cbv)
      (refine callG_spec F.even (⟨_, _, _, _, _, _, _, _⟩, i + 1) [0, 1, 2, 3] hE2 rfl rfl (by decide) rfl rfl rfl rfl rfl ?_; try dsimp only)
      cbv; repeat' ((first | refine .e ?_ | refine .n fun h => ?_ | refine .y fun h => ?_ | refine .q fun z hz hz0 hz1 => ?_ | refine .mk (fun h => ?_) fun h => ?_ | refine .k fun z hz => ?_ | refine .o ?_ | refine .l fun ys hys hyl => ?_ | refine .zl fun zs hzs hzl => ?_ | refine .u fun u hu hul => ?_ | refine .z fun zs hzs => ?_ | refine .mk (fun h => ?_) ?_ | refine .ms fun ms hms => ?_ | refine .s fun s hs hsl => ?_ | refine And.intro ?_ ?_) <;> cbv)
      obtain rfl := hz
      exact roundV ⟨(i + 1, ⟨_, _, _, _, _, _, _, _⟩), hil, hE2⟩ (lft_lt (by ((try simp only [vn] at *) <;> omega)))
    · exact FinK.mk ⟨_, Gh.refl _, .inl (CutK.val rfl (Le.refl _) hK)⟩
noncomputable def StrangeC : Ctr := spec (fun i : List Dd × Lt => [.sl 16 (mapA DdA i.1), LtA i.2]) (fun _ => []) (fun i => (∀ d ∈ i.1, IntsD d) ∧ IntsL i.2) (fun _ => .bl true) fun _ => []
theorem strange_body (P : Program) (F : Fns2 P) (G : Fns P) (hbig : FnOk P 24 BigC) (hown : FnOk P 25 ROwnC) : BodyOk P x6 StrangeC := by
  intro args H K hc
  obtain ⟨⟨L, x⟩, rfl, rfl, ⟨hints, hix⟩, hK⟩ := hc
  refine ⟨Nat.le_of_ble_eq_true rfl, ?_⟩
  dsimp only at hints hix hK ⊢
  obtain ⟨n, hn⟩ : ∃ n, n = L.length := ⟨_, rfl⟩
  obtain ⟨frm, to, number, kind, ack, deal, text, party, index, day, cur, amt, docs, boxes⟩ := x
  cbv; repeat' ((first | refine .e ?_ | refine .n fun h => ?_ | refine .y fun h => ?_ | refine .q fun z hz hz0 hz1 => ?_ | refine .mk (fun h => ?_) fun h => ?_ | refine .k fun z hz => ?_ | refine .o ?_ | refine .l fun ys hys hyl => ?_ | refine .zl fun zs hzs hzl => ?_ | refine .u fun u hu hul => ?_ | refine .z fun zs hzs => ?_ | refine .mk (fun h => ?_) ?_ | refine .ms fun ms hms => ?_ | refine .s fun s hs hsl => ?_ | refine And.intro ?_ ?_) <;> cbv)
  (refine callG_spec0 F.awake () trivial rfl rfl rfl ?_; try dsimp only)
  cbv; repeat' ((first | refine .e ?_ | refine .n fun h => ?_ | refine .y fun h => ?_ | refine .q fun z hz hz0 hz1 => ?_ | refine .mk (fun h => ?_) fun h => ?_ | refine .k fun z hz => ?_ | refine .o ?_ | refine .l fun ys hys hyl => ?_ | refine .zl fun zs hzs hzl => ?_ | refine .u fun u hu hul => ?_ | refine .z fun zs hzs => ?_ | refine .mk (fun h => ?_) ?_ | refine .ms fun ms hms => ?_ | refine .s fun s hs hsl => ?_ | refine And.intro ?_ ?_) <;> cbv)
  refine callG_heavy F.heavy L 20 (by omega) rfl (fun hlen hnb => ?_) ?_
  rotate_left
  · cbv; repeat' ((first | refine .e ?_ | refine .n fun h => ?_ | refine .y fun h => ?_ | refine .q fun z hz hz0 hz1 => ?_ | refine .mk (fun h => ?_) fun h => ?_ | refine .k fun z hz => ?_ | refine .o ?_ | refine .l fun ys hys hyl => ?_ | refine .zl fun zs hzs hzl => ?_ | refine .u fun u hu hul => ?_ | refine .z fun zs hzs => ?_ | refine .mk (fun h => ?_) ?_ | refine .ms fun ms hms => ?_ | refine .s fun s hs hsl => ?_ | refine And.intro ?_ ?_) <;> cbv)
    exact FinK.mk ⟨_, Gh.refl _, .inl (CutK.val rfl (Le.refl _) hK)⟩
  cbv; repeat' ((first | refine .e ?_ | refine .n fun h => ?_ | refine .y fun h => ?_ | refine .q fun z hz hz0 hz1 => ?_ | refine .mk (fun h => ?_) fun h => ?_ | refine .k fun z hz => ?_ | refine .o ?_ | refine .l fun ys hys hyl => ?_ | refine .zl fun zs hzs hzl => ?_ | refine .u fun u hu hul => ?_ | refine .z fun zs hzs => ?_ | refine .mk (fun h => ?_) ?_ | refine .ms fun ms hms => ?_ | refine .s fun s hs hsl => ?_ | refine And.intro ?_ ?_) <;> cbv)
  refine callG_big hbig ⟨frm, to, number, kind, ack, deal, text, party, index, day, cur, amt, docs, boxes⟩ rfl (fun hnx => ?_) (fun hnx => ?_)
  rotate_left
  · cbv; repeat' ((first | refine .e ?_ | refine .n fun h => ?_ | refine .y fun h => ?_ | refine .q fun z hz hz0 hz1 => ?_ | refine .mk (fun h => ?_) fun h => ?_ | refine .k fun z hz => ?_ | refine .o ?_ | refine .l fun ys hys hyl => ?_ | refine .zl fun zs hzs hzl => ?_ | refine .u fun u hu hul => ?_ | refine .z fun zs hzs => ?_ | refine .mk (fun h => ?_) ?_ | refine .ms fun ms hms => ?_ | refine .s fun s hs hsl => ?_ | refine And.intro ?_ ?_) <;> cbv)
    exact FinK.mk ⟨_, Gh.refl _, .inl (CutK.val rfl (Le.refl _) hK)⟩
  have hsx := small_of hnx hix
  cbv; repeat' ((first | refine .e ?_ | refine .n fun h => ?_ | refine .y fun h => ?_ | refine .q fun z hz hz0 hz1 => ?_ | refine .mk (fun h => ?_) fun h => ?_ | refine .k fun z hz => ?_ | refine .o ?_ | refine .l fun ys hys hyl => ?_ | refine .zl fun zs hzs hzl => ?_ | refine .u fun u hu hul => ?_ | refine .z fun zs hzs => ?_ | refine .mk (fun h => ?_) ?_ | refine .ms fun ms hms => ?_ | refine .s fun s hs hsl => ?_ | refine And.intro ?_ ?_) <;> cbv)
  have hinv := newE_inv (a := ⟨#[112]⟩) (b := ⟨#[113]⟩) (by decide) (by decide)
  (refine callG_new F.new (⟨#[112]⟩, ⟨#[113]⟩) ⟨⟨by decide, by decide⟩, by rfl⟩ rfl rfl ?_; try dsimp only)
  cbv; repeat' ((first | refine .e ?_ | refine .n fun h => ?_ | refine .y fun h => ?_ | refine .q fun z hz hz0 hz1 => ?_ | refine .mk (fun h => ?_) fun h => ?_ | refine .k fun z hz => ?_ | refine .o ?_ | refine .l fun ys hys hyl => ?_ | refine .zl fun zs hzs hzl => ?_ | refine .u fun u hu hul => ?_ | refine .z fun zs hzs => ?_ | refine .mk (fun h => ?_) ?_ | refine .ms fun ms hms => ?_ | refine .s fun s hs hsl => ?_ | refine And.intro ?_ ?_) <;> cbv)
  refine xloopG (Gh.le (.blk 40 (LtA ⟨frm, to, number, kind, ack, deal, text, party, index, day, cur, amt, docs, boxes⟩).cells :: renH [1, 2, 3, 4] 0 (BothH (newE ⟨#[112]⟩ ⟨#[113]⟩))) (LeH.cons (LeE.refl _) (LeH.cons (LeE.refl _) (LeH.cons (LeE.refl _) (LeH.cons (LeE.refl _) (LeH.cons (LeE.blk (by repeat' (first | exact LeL.nil | exact LeL0.nil | exact LeH.nil | exact LeE.refl _ | exact Le.refl _ | exact Le0.one (.refl _) | exact Le0.one (.nil _) | exact Le1.refl _ | exact Le1.nil _ | refine LeH.cons ?_ ?_ | refine LeE.row ?_ | refine LeE.blk ?_ | refine LeL0.cons ?_ ?_ | refine LeL.cons ?_ ?_ | refine Le0.agg ?_ | refine Le.tup ?_ | exact Le.one (.one (.nil _)) | refine Le.one (.agg ?_)))) LeH.nil)))))) ?_
  refine xloopV [] (fun p : { p : Nat × En // p.1 ≤ L.length ∧ InvE p.1 p.2 } => [(7, .i (nI p.1.1))]) (fun p => .blk 40 (LtA ⟨frm, to, number, kind, ack, deal, text, party, index, day, cur, amt, docs, boxes⟩).cells :: renH [1, 2, 3, 4] 0 (BothH p.1.2)) (fun p => lft n p.1.1) ⟨(0, newE ⟨#[112]⟩ ⟨#[113]⟩), Nat.zero_le _, hinv⟩ ?_
  rintro ⟨⟨i, E⟩, hi, hE⟩
  dsimp only at hi hE
  obtain ⟨self, other, out, wait, sent, got, sure, owes⟩ := E
  cbv; repeat' ((first | refine .e ?_ | refine .n fun h => ?_ | refine .y fun h => ?_ | refine .q fun z hz hz0 hz1 => ?_ | refine .mk (fun h => ?_) fun h => ?_ | refine .k fun z hz => ?_ | refine .o ?_ | refine .l fun ys hys hyl => ?_ | refine .zl fun zs hzs hzl => ?_ | refine .u fun u hu hul => ?_ | refine .z fun zs hzs => ?_ | refine .mk (fun h => ?_) ?_ | refine .ms fun ms hms => ?_ | refine .s fun s hs hsl => ?_ | refine And.intro ?_ ?_) <;> cbv)
  · have hil : i < L.length := by ((try simp only [vn] at *) <;> omega)
    obtain ⟨d, hg⟩ := some_at hil
    have hfit := fit_of (hnb d (mem_some hg)) (hints d (mem_some hg))
    obtain ⟨E', hE'⟩ : ∃ E', E' = stepE ⟨self, other, out, wait, sent, got, sure, owes⟩ d := ⟨_, rfl⟩
    have hE2 := hE.step hfit
    rw [← hE'] at hE2
    obtain ⟨⟩ := E'
    obtain ⟨dk, ⟨frm2, to2, number2, kind2, ack2, deal2, text2, party2, index2, day2, cur2, amt2, docs2, boxes2⟩, dn⟩ := d
    cbv; repeat' ((first | refine .e ?_ | refine .n fun h => ?_ | refine .y fun h => ?_ | refine .q fun z hz hz0 hz1 => ?_ | refine .mk (fun h => ?_) fun h => ?_ | refine .k fun z hz => ?_ | refine .o ?_ | refine .l fun ys hys hyl => ?_ | refine .zl fun zs hzs hzl => ?_ | refine .u fun u hu hul => ?_ | refine .z fun zs hzs => ?_ | refine .mk (fun h => ?_) ?_ | refine .ms fun ms hms => ?_ | refine .s fun s hs hsl => ?_ | refine And.intro ?_ ?_) <;> cbv)
    (refine callG_spec F.done (⟨self, other, out, wait, sent, got, sure, owes⟩, i, ⟨dk, ⟨frm2, to2, number2, kind2, ack2, deal2, text2, party2, index2, day2, cur2, amt2, docs2, boxes2⟩, dn⟩) [1, 2, 3, 4] ⟨hE, hfit, by dsimp only; ((try simp only [vn] at *) <;> omega)⟩ rfl rfl (by decide) rfl rfl rfl rfl rfl ?_; try dsimp only)
    rw [← hE']
    cbv; repeat' ((first | refine .e ?_ | refine .n fun h => ?_ | refine .y fun h => ?_ | refine .q fun z hz hz0 hz1 => ?_ | refine .mk (fun h => ?_) fun h => ?_ | refine .k fun z hz => ?_ | refine .o ?_ | refine .l fun ys hys hyl => ?_ | refine .zl fun zs hzs hzl => ?_ | refine .u fun u hu hul => ?_ | refine .z fun zs hzs => ?_ | refine .mk (fun h => ?_) ?_ | refine .ms fun ms hms => ?_ | refine .s fun s hs hsl => ?_ | refine And.intro ?_ ?_) <;> cbv)
    obtain rfl := hz
    exact roundV ⟨(i + 1, ⟨_, _, _, _, _, _, _, _⟩), hil, hE2⟩ (lft_lt (by ((try simp only [vn] at *) <;> omega)))
  · (refine callG_ro hown 4 (rest := [LtA ⟨frm, to, number, kind, ack, deal, text, party, index, day, cur, amt, docs, boxes⟩]) (fun _ => (⟨self, other, out, wait, sent, got, sure, owes⟩, i, ⟨frm, to, number, kind, ack, deal, text, party, index, day, cur, amt, docs, boxes⟩)) rfl rfl rfl rfl (fun _ => rfl) (fun x hx => ⟨rfl, hE, ?_⟩); try dsimp only)
    obtain ⟨bo, hbo⟩ : ∃ b, b = decide (OwnL ⟨self, other, out, wait, sent, got, sure, owes⟩ ⟨frm, to, number, kind, ack, deal, text, party, index, day, cur, amt, docs, boxes⟩) := ⟨_, rfl⟩
    rw [← hbo]
    cases bo with
    | true =>
      cbv; repeat' ((first | refine .e ?_ | refine .n fun h => ?_ | refine .y fun h => ?_ | refine .q fun z hz hz0 hz1 => ?_ | refine .mk (fun h => ?_) fun h => ?_ | refine .k fun z hz => ?_ | refine .o ?_ | refine .l fun ys hys hyl => ?_ | refine .zl fun zs hzs hzl => ?_ | refine .u fun u hu hul => ?_ | refine .z fun zs hzs => ?_ | refine .mk (fun h => ?_) ?_ | refine .ms fun ms hms => ?_ | refine .s fun s hs hsl => ?_ | refine And.intro ?_ ?_) <;> cbv)
      exact FinK.mk ⟨_, Gh.refl _, .inl (CutK.val rfl (Le.refl _) hK)⟩
    | false =>
      have hTk : takeR ⟨self, other, out, wait, sent, got, sure, owes⟩ ⟨frm, to, number, kind, ack, deal, text, party, index, day, cur, amt, docs, boxes⟩ = (⟨self, other, out, wait, sent, got, sure, owes⟩, []) := by rw [takeR, if_pos (of_decide_eq_false hbo.symm)]
      have hds : ∀ x ∈ dueL ⟨self, other, out, wait, sent, got, sure, owes⟩, Small x := due_small hE (by ((try simp only [vn] at *) <;> omega))
      have hdl := due_len hE
      obtain ⟨E2, hE2⟩ : ∃ L, L = dueE ⟨self, other, out, wait, sent, got, sure, owes⟩ := ⟨_, rfl⟩
      obtain ⟨DL, hDL⟩ : ∃ L, L = dueL ⟨self, other, out, wait, sent, got, sure, owes⟩ := ⟨_, rfl⟩
      rw [← hDL] at hds hdl
      obtain ⟨⟩ := E2
      cbv; repeat' ((first | refine .e ?_ | refine .n fun h => ?_ | refine .y fun h => ?_ | refine .q fun z hz hz0 hz1 => ?_ | refine .mk (fun h => ?_) fun h => ?_ | refine .k fun z hz => ?_ | refine .o ?_ | refine .l fun ys hys hyl => ?_ | refine .zl fun zs hzs hzl => ?_ | refine .u fun u hu hul => ?_ | refine .z fun zs hzs => ?_ | refine .mk (fun h => ?_) ?_ | refine .ms fun ms hms => ?_ | refine .s fun s hs hsl => ?_ | refine And.intro ?_ ?_) <;> cbv)
      (refine callG_spec G.take (⟨self, other, out, wait, sent, got, sure, owes⟩, i, ⟨frm, to, number, kind, ack, deal, text, party, index, day, cur, amt, docs, boxes⟩) [1, 2, 3] ⟨hE, hsx, by dsimp only; ((try simp only [vn] at *) <;> omega)⟩ rfl rfl (by decide) rfl rfl rfl rfl rfl ?_; try dsimp only)
      rw [hTk, ← hbo]
      cbv; repeat' ((first | refine .e ?_ | refine .n fun h => ?_ | refine .y fun h => ?_ | refine .q fun z hz hz0 hz1 => ?_ | refine .mk (fun h => ?_) fun h => ?_ | refine .k fun z hz => ?_ | refine .o ?_ | refine .l fun ys hys hyl => ?_ | refine .zl fun zs hzs hzl => ?_ | refine .u fun u hu hul => ?_ | refine .z fun zs hzs => ?_ | refine .mk (fun h => ?_) ?_ | refine .ms fun ms hms => ?_ | refine .s fun s hs hsl => ?_ | refine And.intro ?_ ?_) <;> cbv)
      (refine callG_spec F.even (⟨self, other, out, wait, sent, got, sure, owes⟩, i) [1, 2, 3, 4] hE rfl rfl (by decide) rfl rfl rfl rfl rfl ?_; try dsimp only)
      cbv; repeat' ((first | refine .e ?_ | refine .n fun h => ?_ | refine .y fun h => ?_ | refine .q fun z hz hz0 hz1 => ?_ | refine .mk (fun h => ?_) fun h => ?_ | refine .k fun z hz => ?_ | refine .o ?_ | refine .l fun ys hys hyl => ?_ | refine .zl fun zs hzs hzl => ?_ | refine .u fun u hu hul => ?_ | refine .z fun zs hzs => ?_ | refine .mk (fun h => ?_) ?_ | refine .ms fun ms hms => ?_ | refine .s fun s hs hsl => ?_ | refine And.intro ?_ ?_) <;> cbv)
      (refine callG_spec G.due (⟨self, other, out, wait, sent, got, sure, owes⟩, i) [1, 2, 3] hE rfl rfl (by decide) rfl rfl rfl rfl rfl ?_; try dsimp only)
      rw [← hE2, ← hDL]
      cbv; repeat' ((first | refine .e ?_ | refine .n fun h => ?_ | refine .y fun h => ?_ | refine .q fun z hz hz0 hz1 => ?_ | refine .mk (fun h => ?_) fun h => ?_ | refine .k fun z hz => ?_ | refine .o ?_ | refine .l fun ys hys hyl => ?_ | refine .zl fun zs hzs hzl => ?_ | refine .u fun u hu hul => ?_ | refine .z fun zs hzs => ?_ | refine .mk (fun h => ?_) ?_ | refine .ms fun ms hms => ?_ | refine .s fun s hs hsl => ?_ | refine And.intro ?_ ?_) <;> cbv)
      (refine callG_spec G.rdue (⟨self, other, out, wait, sent, got, sure, owes⟩, i) [4] hE rfl rfl (by decide) rfl rfl rfl rfl rfl ?_; try dsimp only)
      rw [← hE2, ← hDL]
      cbv; repeat' ((first | refine .e ?_ | refine .n fun h => ?_ | refine .y fun h => ?_ | refine .q fun z hz hz0 hz1 => ?_ | refine .mk (fun h => ?_) fun h => ?_ | refine .k fun z hz => ?_ | refine .o ?_ | refine .l fun ys hys hyl => ?_ | refine .zl fun zs hzs hzl => ?_ | refine .u fun u hu hul => ?_ | refine .z fun zs hzs => ?_ | refine .mk (fun h => ?_) ?_ | refine .ms fun ms hms => ?_ | refine .s fun s hs hsl => ?_ | refine And.intro ?_ ?_) <;> cbv)
      refine callG_publish 5 rfl ?_
      cbv
      (refine callG_spec0 G.same DL ⟨by omega, hds⟩ rfl rfl rfl ?_; try dsimp only)
      cbv; repeat' ((first | refine .e ?_ | refine .n fun h => ?_ | refine .y fun h => ?_ | refine .q fun z hz hz0 hz1 => ?_ | refine .mk (fun h => ?_) fun h => ?_ | refine .k fun z hz => ?_ | refine .o ?_ | refine .l fun ys hys hyl => ?_ | refine .zl fun zs hzs hzl => ?_ | refine .u fun u hu hul => ?_ | refine .z fun zs hzs => ?_ | refine .mk (fun h => ?_) ?_ | refine .ms fun ms hms => ?_ | refine .s fun s hs hsl => ?_ | refine And.intro ?_ ?_) <;> cbv)
      exact FinK.mk ⟨_, Gh.refl _, .inl (CutK.val rfl (Le.refl _) hK)⟩
end Go.Proofs.Ytaflinfpmbfieaa
namespace Go.Proofs.Ytaflinfpmbfieaa
open Go.RowKit
set_option maxHeartbeats 4000000
set_option maxRecDepth 100000
/-! Taken apart and put together. -/
structure OutOk (E : En) : Prop where
  out : ∀ l ∈ E.out, l.frm = E.self ∧ l.to = E.other ∧ l.kind ≠ 28 ∧ l.ack = 0
theorem pull_same : ∀ (n : Nat) (E : En) (t : List Lt), (pull n E t).1.self = E.self ∧ (pull n E t).1.other = E.other ∧ (pull n E t).1.out = E.out ∧ (pull n E t).1.sent = E.sent
  | 0, E, t => ⟨rfl, rfl, rfl, rfl⟩
  | n + 1, E, t => by
    unfold pull
    split
    · rename_i i _
      obtain ⟨h1, h2, h3, h4⟩ := pull_same n { E with wait := E.wait.eraseIdx i, got := E.got + 1 } (t ++ (E.wait[i]?).toList)
      exact ⟨h1, h2, h3, h4⟩
    · exact ⟨rfl, rfl, rfl, rfl⟩
theorem take_same (E : En) (l : Lt) : (takeR E l).1.self = E.self ∧ (takeR E l).1.other = E.other ∧ ((takeR E l).1.out = E.out ∨ (takeR E l).1.out = (ackedE E l.ack).out) ∧ (takeR E l).1.sent = E.sent := by
  unfold takeR
  split
  · exact ⟨rfl, rfl, .inl rfl, rfl⟩
  · split
    · exact ⟨rfl, rfl, .inr rfl, rfl⟩
    · split
      · exact ⟨rfl, rfl, .inr rfl, rfl⟩
      · obtain ⟨h1, h2, h3, h4⟩ := pull_same (E.wait.length + 1) (put E l) []
        exact ⟨h1, h2, .inr h3, h4⟩
theorem OutOk.acked {E : En} (h : OutOk E) (n : Int) : ∀ l ∈ (ackedE E n).out, l.frm = E.self ∧ l.to = E.other ∧ l.kind ≠ 28 ∧ l.ack = 0 := fun l hl => h.out l ((List.mem_filter.1 hl).1)
theorem step_same (E : En) (d : Dd) : (stepE E d).self = E.self ∧ (stepE E d).other = E.other ∧ (stepE E d).sent ≤ E.sent + 1 := by
  unfold stepE
  split
  · unfold sendE
    split
    · exact ⟨rfl, rfl, by omega⟩
    · exact ⟨rfl, rfl, Int.le_refl _⟩
  · split
    · obtain ⟨h1, h2, _, h4⟩ := take_same E d.l
      exact ⟨h1, h2, by omega⟩
    · split
      · exact ⟨rfl, rfl, by show E.sent ≤ _; omega⟩
      · split
        · unfold sureE
          split
          · exact ⟨rfl, rfl, by dsimp only; omega⟩
          · exact ⟨rfl, rfl, by omega⟩
        · split
          · exact ⟨rfl, rfl, by show E.sent ≤ _; omega⟩
          · exact ⟨rfl, rfl, by omega⟩
theorem OutOk.step {E : En} (h : OutOk E) (d : Dd) : OutOk (stepE E d) := by
  obtain ⟨e1, e2, _⟩ := step_same E d
  refine ⟨?_⟩
  rw [e1, e2]
  clear e1 e2
  unfold stepE
  split
  · unfold sendE
    split
    · exact h.out
    · rename_i hn
      intro l hl
      rcases List.mem_append.1 hl with hl | hl
      · exact h.out l hl
      · simp only [List.mem_singleton] at hl
        subst hl
        exact ⟨rfl, rfl, fun hk => hn (.inl hk), rfl⟩
  · split
    · obtain ⟨_, _, h3, _⟩ := take_same E d.l
      rcases h3 with h3 | h3
      · rw [h3]; exact h.out
      · rw [h3]; exact h.acked _
    · split
      · exact h.out
      · split
        · unfold sureE
          split
          · exact h.out
          · exact h.out
        · split
          · exact h.acked _
          · exact h.out
theorem ofE_inv {E : En} {M : Nat} (h : InvE M E) : InvE M (ofE E.self E.other E.out (E.sent - E.out.length) E.got) := by
  have h0 := h.sent0
  have h1 := h.gotM
  refine ⟨h.self, h.other, fun i hi => ?_, h.outL, ?_, ?_, h.got0, h.got0, Int.le_refl _, ?_, by simp [ofE], h.outS, by simp [ofE]⟩
  · have := h.outN i hi
    show E.out[i].number = E.sent - E.out.length + E.out.length - E.out.length + 1 + i
    rw [this]; omega
  · show (E.out.length : Int) ≤ E.sent - E.out.length + E.out.length; omega
  · show E.sent - E.out.length + E.out.length ≤ 1052672; have := h.sent1; omega
  · show E.got + ((([] : List Lt).length : Nat) : Int) ≤ M
    simp; omega
theorem of_form {E : En} {M : Nat} (h : InvE M E) (k : OutOk E) : ∀ (i : Nat) (hi : i < E.out.length), ¬ ofForm E.self E.other (E.sent - E.out.length) i E.out[i] := by
  intro i hi hf
  obtain ⟨a1, a2, a3, a4⟩ := k.out _ (List.getElem_mem hi)
  have := h.outN i hi
  unfold ofForm at hf
  rcases hf with hf | hf | hf | hf | hf
  · exact hf a1
  · exact hf a2
  · rw [nI_eq] at hf; exact hf (by rw [this]; omega)
  · exact a3 hf
  · exact hf a4
noncomputable def ofArgs (i : ByteArray × ByteArray × List Lt × Int × Int) : List AV := [.str i.1, .str i.2.1, .sl 14 (mapA LtA i.2.2.1), .i i.2.2.2.1, .i i.2.2.2.2]
def ofFit (i : ByteArray × ByteArray × List Lt × Int × Int) : Prop := i.1.size ≤ 100 ∧ i.2.1.size ≤ 100 ∧ i.2.2.1.length ≤ 5000 ∧ ∀ l ∈ i.2.2.1, Small l
def ofA (i : ByteArray × ByteArray × List Lt × Int × Int) : Prop := ofArg i.1 i.2.1 i.2.2.1 i.2.2.2.1 i.2.2.2.2
def ofB (i : ByteArray × ByteArray × List Lt × Int × Int) : Prop := ∃ (k : Nat) (h : k < i.2.2.1.length), ofForm i.1 i.2.1 i.2.2.2.1 k i.2.2.1[k]
structure OfFns (P : Program) : Prop where
  a : FnOk P 29 (spec ofArgs (fun _ => []) (fun i => ofFit i ∧ ofA i) (fun _ => .tup [.v (.pointer none), .i 1]) fun _ => [])
  b : FnOk P 29 (spec ofArgs (fun _ => []) (fun i => ofFit i ∧ ¬ ofA i ∧ ofB i) (fun _ => .tup [.v (.pointer none), .i 2]) fun _ => [])
  c : FnOk P 29 (spec ofArgs (fun _ => []) (fun i => ofFit i ∧ ¬ ofA i ∧ ¬ ofB i) (fun _ => .tup [.ptr 0 0, .i 0]) fun i => EndH (ofE i.1 i.2.1 i.2.2.1 i.2.2.2.1 i.2.2.2.2))
  ra : FnOk P 30 (spec ofArgs (fun _ => []) (fun i => ofFit i ∧ ofA i) (fun _ => .i 1) fun _ => [])
  rb : FnOk P 30 (spec ofArgs (fun _ => []) (fun i => ofFit i ∧ ¬ ofA i ∧ ofB i) (fun _ => .i 2) fun _ => [])
  rc : FnOk P 30 (spec ofArgs (fun _ => []) (fun i => ofFit i ∧ ¬ ofA i ∧ ¬ ofB i) (fun _ => .i 0) fun _ => [])
theorem of_fns {P : Program} (h : FnOk P 29 OfC) (k : FnOk P 30 ROfC) : OfFns P := by
  refine ⟨fn_weak h ?_, fn_weak h ?_, fn_weak h ?_, fn_weak k ?_, fn_weak k ?_, fn_weak k ?_⟩
  · rintro args H K ⟨⟨a, b, L, q, g⟩, rfl, rfl, ⟨h1, h2⟩, hK⟩
    exact ⟨a, b, L, q, g, rfl, rfl, h1, fun _ => hK, fun hn => absurd h2 hn, fun hn => absurd h2 hn⟩
  · rintro args H K ⟨⟨a, b, L, q, g⟩, rfl, rfl, ⟨h1, h2, k, hk, hf⟩, hK⟩
    exact ⟨a, b, L, q, g, rfl, rfl, h1, fun hn => absurd hn h2, fun _ _ _ _ => hK, fun _ ha => absurd hf (ha k hk)⟩
  · rintro args H K ⟨⟨a, b, L, q, g⟩, rfl, rfl, ⟨h1, h2, h3⟩, hK⟩
    exact ⟨a, b, L, q, g, rfl, rfl, h1, fun hn => absurd hn h2, fun _ i hi hf => absurd ⟨i, hi, hf⟩ h3, fun _ _ => hK⟩
  · rintro args H K ⟨⟨a, b, L, q, g⟩, rfl, rfl, ⟨h1, h2⟩, hK⟩
    exact ⟨a, b, L, q, g, rfl, rfl, ⟨h1.1, h1.2.1, h1.2.2.1⟩, fun _ => hK, fun hn => absurd h2 hn, fun hn => absurd h2 hn⟩
  · rintro args H K ⟨⟨a, b, L, q, g⟩, rfl, rfl, ⟨h1, h2, k, hk, hf⟩, hK⟩
    exact ⟨a, b, L, q, g, rfl, rfl, ⟨h1.1, h1.2.1, h1.2.2.1⟩, fun hn => absurd hn h2, fun _ _ _ _ => hK, fun _ ha => absurd hf (ha k hk)⟩
  · rintro args H K ⟨⟨a, b, L, q, g⟩, rfl, rfl, ⟨h1, h2, h3⟩, hK⟩
    exact ⟨a, b, L, q, g, rfl, rfl, ⟨h1.1, h1.2.1, h1.2.2.1⟩, fun hn => absurd hn h2, fun _ i hi hf => absurd ⟨i, hi, hf⟩ h3, fun _ _ => hK⟩
end Go.Proofs.Ytaflinfpmbfieaa

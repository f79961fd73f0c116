/-
  The reference's surety, by value: Ask, Reduce.
-/
import Derived.Test.YtcjheabcnipnlaaRefC
import Derived.Deep.DeepCutAuto
namespace Go.Proofs.Ytcjheabcnipnlaa
open Go.RowKit

/-- A call of the reference's: the surety behind it, and what it tells besides. -/
def RefPost (w : World) (B1 B2 : List Nat) (s' : Sty) (rest : List Value) (e : Ending) (w' : World) : Prop :=
  ∃ A1 c1 A2 c2, e = .returned (.tuple (.agg #[.string s'.b.num, .string s'.b.gua, .string s'.b.fro, .string s'.b.to, .string s'.b.cur, .int .i64 s'.b.amt, .int .i64 s'.b.exp, .int .i64 s'.expiry, .slice A1 s'.dems.length c1, .slice A2 s'.cuts.length c2] :: rest).toArray) ∧ RefRes w B1 B2 s' A1 c1 A2 c2 w'
theorem RefPost.same {w w' : World} {s : Sty} {A1 A2 : Option Addr} {c1 c2 : Nat} {rest : List Value} (h1 : Rd w 3 A1 s.dems.length c1 (s.dems.flatMap Dm.cells)) (h2 : Rd w 2 A2 s.cuts.length c2 (s.cuts.flatMap Dw.cells)) (hb : Below w.heap.size w w') :
    RefPost w (fpo A1) (fpo A2) s rest (.returned (.tuple (.agg #[.string s.b.num, .string s.b.gua, .string s.b.fro, .string s.b.to, .string s.b.cur, .int .i64 s.b.amt, .int .i64 s.b.exp, .int .i64 s.expiry, .slice A1 s.dems.length c1, .slice A2 s.cuts.length c2] :: rest).toArray)) w' :=
  ⟨A1, c1, A2, c2, rfl, h1.below hb, h2.below hb, fun _ hb => .inl hb, fun _ hb => .inl hb, hb⟩

end Go.Proofs.Ytcjheabcnipnlaa

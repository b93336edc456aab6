/- Written by this session, for this claim: a lent slice with something in it lies in a block that its holder may use. -/
import Derived.RowKit
import Derived.Test.YtlpiknclbgogbaaWWords
import Derived.Test.YtlpiknclbgogbaaWLast
import Derived.Test.YtlpiknclbgogbaaWMore
import Derived.Test.YtlpiknclbgogbaaWN
import Derived.Test.YtlpiknclbgogbaaWShare
namespace Go.Proofs.Ytlpiknclbgogbaa.Ext
open Go.RowKit Go.Proofs.YtlpiknclbgogbaaW.PrintWords Go.Proofs.YtlpiknclbgogbaaW.PrintLast Go.Proofs.YtlpiknclbgogbaaW.PrintMore
theorem Kd.V_away {α : Type} {d : Kd α} {e base : Nat} {W : World} {ok : Nat → Prop} {v : Value} {xs : List α} {g : Nat} (h : Kd.V d e W base ok v xs) (hok : ∀ k, ok k → k ≠ g) (hn : 0 < xs.length := by first | exact of_decide_eq_true (by assumption) | exact of_eq_true (by assumption) | assumption | omega) (hs : 0 < d.sz := by decide) : some g ≠ v.ownBlock := by
  obtain ⟨A, c, rfl⟩ := Kd.V_slice h
  obtain ⟨ad, cs, rfl, _, _, _, hin⟩ := Kd.F_get (Kd.V_F h) (xs[0]'hn) 0 (Int.le_refl _) (by omega)
  intro he
  refine hok _ (hin hs) ?_
  simp only [Value.ownBlock] at he
  injection he with he
  exact he.symm
end Go.Proofs.Ytlpiknclbgogbaa.Ext

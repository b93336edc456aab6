/- What a store leaves of the reader. -/
import Derived.Test.YtfhlohmhacfngaaProg
import Derived.WalkKit
import Derived.WalkMore
import Derived.Deep.RegionWith
import Derived.BigQuiet
import Derived.Below
import Derived.KernelRfl
import Derived.Laws.Rows
import Derived.Laws.EntriesVeiled
import Derived.Test.YtfhlohmhacfngaaWWords
import Derived.Test.YtfhlohmhacfngaaGramV
set_option linter.unusedVariables false
set_option linter.unusedSimpArgs false
namespace Go.Proofs.Ytfhlohmhacfngaa.Ext
open Go.RowKit Go.Lib Go.Proofs.YtfhlohmhacfngaaW.PrintWords

theorem Row.vb {w : World} {R : Nat} {t : St} {vis : Bool} {v : Value} (h : Row w R t vis v) (k : Int) : Row (w.setCell ⟨R, 2, none⟩ (.int .i32 k)) R { t with verb := k } vis v := Row.set h 2 _
theorem Row.mv {w : World} {R : Nat} {t : St} {vis : Bool} {v : Value} (h : Row w R t vis v) (k : Int) : Row (w.setCell ⟨R, 3, none⟩ (.int .i32 k)) R { t with move := k } vis v := Row.set h 3 _
theorem Row.nx {w : World} {R : Nat} {t : St} {vis : Bool} {v : Value} (h : Row w R t vis v) (x : Value) (n : Nx) : Row (w.setCell ⟨R, 9, none⟩ x) R { t with nx := n } vis x := Row.set h 9 _
end Go.Proofs.Ytfhlohmhacfngaa.Ext

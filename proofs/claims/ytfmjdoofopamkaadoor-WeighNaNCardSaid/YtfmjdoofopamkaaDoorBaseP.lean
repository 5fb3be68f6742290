import Derived.Test.YtfmjdoofopamkaaDoorWWords
import Derived.Test.YtfmjdoofopamkaaDoorWMore
import Derived.RowKit
import Derived.Laws.BitsLemmas
import Derived.Laws.Strings
import Derived.Laws.BytesArg
import Derived.Laws.Closers25b
/-! Small words on lists, bytes and rounds, for the plain side. -/
namespace Go.Proofs.YtfmjdoofopamkaaDoor.Plain
open Go.RowKit Go.Proofs.YtfmjdoofopamkaaDoorW.PrintWords Go.Proofs.YtfmjdoofopamkaaDoorW.PrintLast Go.Proofs.YtfmjdoofopamkaaDoorW.PrintMore
set_option linter.unusedVariables false
set_option linter.unusedSimpArgs false

theorem w64 {x : Int} (h0 : -9223372036854775808 ≤ x) (h1 : x ≤ 9223372036854775807) : wrap64 x = x := by unfold wrap64; omega
theorem w32 {x : Int} (h0 : -2147483648 ≤ x) (h1 : x ≤ 2147483647) : wrap32 x = x := by unfold wrap32; omega
theorem wu64 {x : Int} (h0 : 0 ≤ x) (h1 : x ≤ 18446744073709551615) : IntKind.u64.wrap x = x := by
  simp [IntKind.wrap, IntKind.bits, IntKind.signed]; omega
theorem sz (s : ByteArray) : s.size = (bytesOf s).length := (bytesOf_length s).symm
end Go.Proofs.YtfmjdoofopamkaaDoor.Plain

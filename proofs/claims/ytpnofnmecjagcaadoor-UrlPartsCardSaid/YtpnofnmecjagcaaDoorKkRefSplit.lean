import Derived.Test.YtpnofnmecjagcaaDoorKkXBx0
import Derived.Test.YtpnofnmecjagcaaDoorKkXBx1
import Derived.Test.YtpnofnmecjagcaaDoorKkXBx2
import Derived.RegionTactic
import Derived.ChangeAlike
import Derived.BigRegion
import Derived.IntWalk
import Derived.Lib.Hide
import Derived.Deep.LoopGhost
import Derived.Outline
import Derived.Laws.IdiomStrings
/- Contract of the reference's split: parts with a sign between. -/
namespace Go.Proofs.YtpnofnmecjagcaaDoor.Ext
open Go.RowKit Go.Proofs.YtpnofnmecjagcaaDoorW.PrintWords Go.Proofs.YtpnofnmecjagcaaDoorW.PrintMore
set_option linter.unusedVariables false
def splitStep (c : Int) (out : List ByteArray) (b : UInt8) : List ByteArray :=
  if (b.toNat : Int) = c then out ++ [⟨#[]⟩] else out.set ((out.length : Int) - 1).toNat (rdOf ByteArray.empty out ((out.length : Int) - 1) ++ ⟨#[b]⟩)
def splitTo (c : Int) (l : List UInt8) : List ByteArray := l.foldl (splitStep c) [⟨#[]⟩]
def decorumref04_split.f (s : ByteArray) (c : Int) : Option (List ByteArray) := if s.size ≤ 1099511627776 then some (splitTo c s.data.toList) else none
end Go.Proofs.YtpnofnmecjagcaaDoor.Ext

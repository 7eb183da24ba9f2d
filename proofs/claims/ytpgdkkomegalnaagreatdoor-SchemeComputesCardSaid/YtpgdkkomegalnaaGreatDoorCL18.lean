/- Part of the proof of SchemeComputes: layer. -/
import Derived.Lib.TrailingZeros
import Derived.Test.YtpgdkkomegalnaaGreatDoorCL17
set_option linter.all false
namespace Go.fF
open Go
def mM(a:Int):Option Int:=if 0<=a/\a<4294967296 then some (Lib.ctz 32 a.toNat:Int)else none
end Go.fF

/- Part of the proof of SchemeChains: layer. -/
import Derived.Lib.TrailingZeros
import Derived.Test.YtpgdkkomegalnaaGreatDoorHL15
set_option linter.all false
namespace Go.fP
open Go
def mY(a:Int):Option Int:=if 0<=a/\a<4294967296 then some (Lib.ctz 32 a.toNat:Int)else none
end Go.fP

/- Part of the proof of KernelChoice: layer. -/
import Derived.Test.YtobcafblgapgfaaGreatDoorL10
set_option linter.all false
namespace Go.ky
open Go Go.fg
section
variable{K:Fr->cV->Prop} {fr:Fr} {H:cV} {α:Type} {f:α->AV} {i o:Nat} {seen:List Nat} {d:Option Nat}
end
end Go.ky

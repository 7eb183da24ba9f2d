/- Part of the proof of TranslateStable: layer. -/
import Derived.Below
import Derived.Test.YtffcgfpaakhbjaaGreatDoorL14
set_option linter.all false
namespace Go.jN
open Go Go.RowKit
end Go.jN

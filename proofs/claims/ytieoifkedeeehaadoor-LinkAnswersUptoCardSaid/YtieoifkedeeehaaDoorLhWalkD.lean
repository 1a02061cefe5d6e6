/- LH: lemmas of the walk: appending. -/
import Derived.Test.YtieoifkedeeehaaDoorLhWalkC
namespace Go.LH
open Go
section
variable {wd : Nat} {L : List Entry}
theorem srcRows_rs {a b c d : Nat} : srcRows wd L (.rs a b c d) = rowsOf wd L (.rs a b c d) := (rfl)
theorem srcRows_ca {a b c d e : Nat} : srcRows wd L (.ca a b c d e) = rowsOf wd L (.ca a b c d e) := (rfl)
theorem srcRows_sl {w : Nat} {rows : List (List Cv)} : srcRows wd L (.sl w rows) = rowsOf wd L (.sl w rows) := (rfl)
theorem srcRows_nil : srcRows wd L (.val (.slice none 0 0)) = some [] := (rfl)
end
attribute [go_sem] srcRows_rs srcRows_ca srcRows_sl srcRows_nil
end Go.LH

/- . -/
import Derived.Test.YtjlpbpfaihhamaaGreatAAbPz
import Derived.Test.YtjlpbpfaihhamaaGreatAAbPn
set_option linter.unusedVariables false
set_option linter.unusedSimpArgs false
namespace Go.Ab
structure SR where
 s:Nat
 cap:Cap
 x:List Int
end Go.Ab

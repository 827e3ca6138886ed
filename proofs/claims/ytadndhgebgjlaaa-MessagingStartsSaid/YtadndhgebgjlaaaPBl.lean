/- Layer 2, plain: made objects are good ones; a beginning of one object is truncated. No program is named here -/
import Derived.Test.YtadndhgebgjlaaaPBj
import Derived.Test.YtadndhgebgjlaaaPm
set_option linter.unusedVariables false
set_option linter.unusedSimpArgs false
namespace Go.Proofs.Ytadndhgebgjlaaa
open Go.RowKit
theorem qb{l:Ns}(h1:l.chk 1=0)(h2:l.all<=256):qI l=if 4096<l.enc.length then .error 2 else .ok l.enc:=by
 unfold qI
 rw [if_neg (by simpa using h1),if_neg (by omega)]
end Go.Proofs.Ytadndhgebgjlaaa

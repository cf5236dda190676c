/- The triangles of a row of points (chapter 25), outright. -/
import Derived.Test.YtplfijdonikaoaaScrB
import Derived.Test.YtplfijdonikaoaaClipD
set_option linter.unusedVariables false
set_option linter.unusedSimpArgs false
namespace Go.Fx
open Go Go.Sx
set_option linter.unusedVariables false
set_option linter.unusedSimpArgs false
def spP (x : AV) (w h : Int) : Bool := okSp (vI x 0) (vI x 1) (vI x 2) (vI x 3) (vI x 4) (vI x 5) w h
def trX (a b c : AV) (w h : Int) : AV := .agg [
  i64 (b0 (spP a w h) (spX (dW (vI a 3)) (vI a 0) w)), i64 (b0 (spP a w h) (spY (dW (vI a 3)) (vI a 1) h)), i64 (b0 (spP a w h) (spZ (dW (vI a 3)) (vI a 2))), i64 (b0 (spP a w h) (dW (vI a 3))), i64 (b0 (spP a w h) (vI a 4)), i64 (b0 (spP a w h) (vI a 5)),
  i64 (b0 (spP b w h) (spX (dW (vI b 3)) (vI b 0) w)), i64 (b0 (spP b w h) (spY (dW (vI b 3)) (vI b 1) h)), i64 (b0 (spP b w h) (spZ (dW (vI b 3)) (vI b 2))), i64 (b0 (spP b w h) (dW (vI b 3))), i64 (b0 (spP b w h) (vI b 4)), i64 (b0 (spP b w h) (vI b 5)),
  i64 (b0 (spP c w h) (spX (dW (vI c 3)) (vI c 0) w)), i64 (b0 (spP c w h) (spY (dW (vI c 3)) (vI c 1) h)), i64 (b0 (spP c w h) (spZ (dW (vI c 3)) (vI c 2))), i64 (b0 (spP c w h) (dW (vI c 3))), i64 (b0 (spP c w h) (vI c 4)), i64 (b0 (spP c w h) (vI c 5))]
def trS (a b c : AV) (w h : Int) : List AV := bif (spP a w h && spP b w h) && spP c w h then [trX a b c w h] else []
/-- n triangles from the i-th on -/
def trG (L : List AV) (w h : Int) : Nat → Nat → List AV
  | 0, _ => []
  | n + 1, i => trS (L.getD 0 .bad) (L.getD i .bad) (L.getD (i + 1) .bad) w h ++ trG L w h n (i + 1)
theorem trS_len (a b c : AV) (w h : Int) : (trS a b c w h).length ≤ 1 := by
  unfold trS; cases (spP a w h && spP b w h) && spP c w h <;> simp
theorem trG_len (L : List AV) (w h : Int) : ∀ n i, (trG L w h n i).length ≤ n
  | 0, _ => by simp [trG]
  | n + 1, i => by
    have := trS_len (L.getD 0 .bad) (L.getD i .bad) (L.getD (i + 1) .bad) w h
    have := trG_len L w h n (i + 1)
    simp only [trG, List.length_append]; omega
def trA (L : List AV) (w h : Int) : List AV := trG L w h (L.length - 2) 1
end Go.Fx

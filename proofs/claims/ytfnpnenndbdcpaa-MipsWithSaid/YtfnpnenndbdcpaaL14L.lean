/- MipsMeans' tree (chapter 14). -/
import Derived.Test.YtfnpnenndbdcpaaL14K
set_option linter.unusedVariables false
set_option linter.unusedSimpArgs false
namespace Go.Proofs.Ytfnpnenndbdcpaa
open Go Go.Sx Go.Fx
set_option maxRecDepth 100000
set_option linter.unusedVariables false
def eqc (a b : AV) : Bool := cI a 0 == cI b 0 && (cI a 1 == cI b 1 && (cI a 2 == cI b 2 && (cI a 3 == cI b 3 && true)))
def mn (a b : Int) : Int := if b < a then b else a
def mx (a b : Int) : Int := if b > a then b else a
/-- a test that stands ahead of each texel -/
def gd (t : Bool) (R : Option Bool) : Option Bool := bif t then R else none
def tailM (t wr : Bool) (T : Int → Int → AV) (s i j k : Int) : Option Bool :=
  bif wr then gd t (bif eqc (T (wi (i + wi (k * s))) (wi (j - wi (k * s)))) (T i j) then some true else some false) else
  gd t (gd t (bif eqc (T (wi (-1 - wi (k * k))) j) (T 0 j) then gd t (gd t (bif eqc (T (wi (s + wi (k * k))) s) (T (wi (s - 1)) (wi (s - 1))) then some true else some false)) else some false))
/-- the texel that is covered, byte b, q of four -/
def cv (U : Int → Int → AV) (i j : Int) (b : Nat) (q : Int) : Int := wi (cI (U (wi (wi (2 * i) + q.tmod 2)) (wi (wi (2 * j) + q.tdiv 2))) b)
def lowM (U : Int → Int → AV) (i j : Int) (b : Nat) : Int := mn (mn (mn (mn 255 (cv U i j b 0)) (cv U i j b 1)) (cv U i j b 2)) (cv U i j b 3)
def highM (U : Int → Int → AV) (i j : Int) (b : Nat) : Int := mx (mx (mx (mx 0 (cv U i j b 0)) (cv U i j b 1)) (cv U i j b 2)) (cv U i j b 3)
def byteM (t : Bool) (U : Int → Int → AV) (c : AV) (i j : Int) (b : Nat) (R : Option Bool) : Option Bool :=
  gd t (gd t (gd t (gd t (bif decide (wi (cI c b) < lowM U i j b) then some false else bif decide (wi (cI c b) > highM U i j b) then some false else R))))
def headM (t : Bool) (U : Int → Int → AV) (c : AV) (i j : Int) (R : Option Bool) : Option Bool := byteM t U c i j 0 (byteM t U c i j 1 (byteM t U c i j 2 (byteM t U c i j 3 R)))
def pyrL (D : Int) (L : List AV) : List (List AV) :=
  bif D == 0 then [pnt 16 4 L] else bif D == 1 then [pnt 64 8 L, coarL (pnt 64 8 L) 8] else
  bif D == 2 then [pnt 256 16 L, coarL (pnt 256 16 L) 16, coarL (coarL (pnt 256 16 L) 16) 8] else
   [pnt 1024 32 L, coarL (pnt 1024 32 L) 32, coarL (coarL (pnt 1024 32 L) 32) 16, coarL (coarL (coarL (pnt 1024 32 L) 32) 16) 8]
def leafM (t wr : Bool) (D : Int) (n : Nat) (s : Int) (L : List AV) (x y k : Int) : Option Bool :=
  gd t (match n with
  | 0 => tailM t wr (txl wr D (pyrL D L) 0) s (rnd x s) (rnd y s) k
  | m + 1 => headM t (txl wr D (pyrL D L) (m : Int)) (txl wr D (pyrL D L) ((m + 1 : Nat) : Int) (rnd x s) (rnd y s)) (rnd x s) (rnd y s) (tailM t wr (txl wr D (pyrL D L) ((m + 1 : Nat) : Int)) s (rnd x s) (rnd y s) k))
def treeM (t wr : Bool) (D : Int) (L : List AV) (l x y k : Int) : Option Bool :=
  bif decide (rnd l (wi (D + 1)) = 0) then leafM t wr D 0 (szl D 0) L x y k else
  bif decide (rnd l (wi (D + 1)) = 1) then (bif decide (1 ≤ D) then leafM t wr D 1 (szl D 1) L x y k else none) else
  bif decide (rnd l (wi (D + 1)) = 2) then (bif decide (2 ≤ D) then leafM t wr D 2 (szl D 2) L x y k else none) else
  bif decide (rnd l (wi (D + 1)) = 3) then (bif decide (3 ≤ D) then leafM t wr D 3 (szl D 3) L x y k else none) else none
def lawM (ok : Int → List (List AV) → Bool) (D : Int) (a0 : Int) (a1 : Bool) (L2 : List AV) (a3 a4 a5 a6 : Int) : Option Bool :=
  bif decide ((L2.length : Int) > 50) then some true else bif decide (a6 < -5) then some true else bif decide (a6 > 5) then some true else
  bif rnd a0 4 == D then treeM (ok D (pyrL D L2)) a1 D L2 a3 a4 a5 a6 else none
end Go.Proofs.Ytfnpnenndbdcpaa

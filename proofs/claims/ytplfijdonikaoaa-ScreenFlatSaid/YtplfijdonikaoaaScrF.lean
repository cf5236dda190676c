/- What is placed is on the screen (chapter 25), outright. -/
import Derived.Test.YtplfijdonikaoaaScrE
import Derived.Test.YtplfijdonikaoaaClipG
set_option linter.unusedVariables false
set_option linter.unusedSimpArgs false
namespace Go.Fx
open Go Go.Sx
set_option linter.unusedVariables false
set_option linter.unusedSimpArgs false
def offB (x y z u w h : Int) : Bool := (((((((decide (x < 0) || decide (x > wi (256 * w))) || decide (y < 0)) || decide (y > wi (256 * h))) || decide (z < 0)) || decide (z > 65534)) || decide (u < 256)) || decide (u > 536870912))
def offX (x : AV) (k : Nat) (w h : Int) : Bool := offB (vI x k) (vI x (k + 1)) (vI x (k + 2)) (vI x (k + 3)) w h
def onX (w h : Int) (x : AV) : Bool := !offX x 0 w h && (!offX x 6 w h && !offX x 12 w h)
theorem off_no {p : AV} {w h : Int} (hp : spP p w h = true) : offB (b0 (spP p w h) (spX (dW (vI p 3)) (vI p 0) w)) (b0 (spP p w h) (spY (dW (vI p 3)) (vI p 1) h)) (b0 (spP p w h) (spZ (dW (vI p 3)) (vI p 2))) (b0 (spP p w h) (dW (vI p 3))) w h = false := by
  rw [hp]
  obtain ⟨h0, h1, h2, h3, h4, h5, h6⟩ := okSp_iff.1 hp
  obtain ⟨d0, d1⟩ := dW_bd h3
  obtain ⟨w0, w1, w2, w3⟩ := szB_iff.1 h4
  have x1 := spX_bd (n := vI p 0) d0 d1 w0 w1
  have y1 := spY_bd (n := vI p 1) d0 d1 w2 w3
  have z1 := spZ_bd (n := vI p 2) d0 d1
  simp only [b0, cond_true, offB]
  rw [wi_id (n := 256 * w) (by omega) (by omega), wi_id (n := 256 * h) (by omega) (by omega)]
  simp only [Bool.or_eq_false_iff, decide_eq_false_iff_not]
  refine ⟨⟨⟨⟨⟨⟨⟨?_, ?_⟩, ?_⟩, ?_⟩, ?_⟩, ?_⟩, ?_⟩, ?_⟩ <;> exact decide_eq_false (by omega)
theorem tr_on (a b c : AV) (w h : Int) : (trS a b c w h).all (onX w h) = true := by
  unfold trS
  cases hs : (spP a w h && spP b w h) && spP c w h
  · rfl
  · simp only [Bool.and_eq_true] at hs
    obtain ⟨⟨ha, hb⟩, hc⟩ := hs
    have ea := off_no ha
    have eb := off_no hb
    have ec := off_no hc
    simp only [cond_true, List.all_cons, List.all_nil, Bool.and_true]
    show (!offB _ _ _ _ w h && (!offB _ _ _ _ w h && !offB _ _ _ _ w h)) = true
    have ra : offX (trX a b c w h) 0 w h = false := ea
    have rb : offX (trX a b c w h) 6 w h = false := eb
    have rc : offX (trX a b c w h) 12 w h = false := ec
    show (!offX (trX a b c w h) 0 w h && (!offX (trX a b c w h) 6 w h && !offX (trX a b c w h) 12 w h)) = true
    rw [ra, rb, rc]; rfl
theorem trG_on (L : List AV) (w h : Int) : ∀ n i, (trG L w h n i).all (onX w h) = true
  | 0, _ => rfl
  | n + 1, i => by rw [trG, List.all_append, tr_on, trG_on L w h n (i + 1)]; rfl
theorem plR_on {sm c : Bool} {L : List AV} {w h : Int} : (plR sm c L w h).all (onX w h) = true := by
  unfold plR
  cases sm && c
  · rfl
  · exact trG_on _ _ _ _ _
theorem plR_40 {sm c : Bool} {L : List AV} {w h : Int} (hl : L.length = 3) : (plR sm c L w h).length ≤ 40 := by
  unfold plR
  cases sm && c
  · simp
  · have := trG_len (polX L) w h ((polX L).length - 2) 1
    have := polX_42 hl
    simp only [cond_true, trA]
    omega
end Go.Fx

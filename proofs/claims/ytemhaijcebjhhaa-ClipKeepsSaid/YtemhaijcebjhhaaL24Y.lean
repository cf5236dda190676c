/- same over a row and three (chapter 24). -/
import Derived.Test.YtemhaijcebjhhaaL24X
set_option linter.unusedVariables false
set_option linter.unusedSimpArgs false
namespace Go.Proofs.Ytemhaijcebjhhaa
open Go Go.Sx Go.Fx
set_option maxRecDepth 100000
set_option linter.unusedVariables false
set_option linter.unusedSimpArgs false
theorem lit_of_fits {k : IntKind} {x : AV} (h : (CK.int k).fits x = true) : x = .lit (.int k x.getInt) := by
  cases x with
  | lit v => cases v with
    | int k' n => simp [CK.fits] at h; subst h; rfl
    | _ => simp [CK.fits] at h
  | _ => simp [CK.fits] at h
theorem vx_of_shape {x : AV} (h : x.shape true c6 = true) : x = vx x := by
  cases x with
  | agg cs =>
    simp only [AV.shape, c6] at h
    match cs with
    | [] => simp [fitsAll] at h
    | [_] => simp [fitsAll] at h
    | [_, _] => simp [fitsAll] at h
    | [_, _, _] => simp [fitsAll] at h
    | [_, _, _, _] => simp [fitsAll] at h
    | [_, _, _, _, _] => simp [fitsAll] at h
    | _ :: _ :: _ :: _ :: _ :: _ :: _ :: _ => simp [fitsAll] at h
    | [x0, x1, x2, x3, x4, x5] =>
      simp only [fitsAll, Bool.and_eq_true, and_true] at h
      obtain ⟨h0, h1, h2, h3, h4, h5⟩ := h
      have e0 := lit_of_fits h0
      have e1 := lit_of_fits h1
      have e2 := lit_of_fits h2
      have e3 := lit_of_fits h3
      have e4 := lit_of_fits h4
      have e5 := lit_of_fits h5
      rw [e0, e1, e2, e3, e4, e5]; rfl
  | _ => simp [AV.shape] at h
theorem same3 (bt : TypeId) (ow : Bool) (el : TypeId) (o h : Bool) (a0 a1 a2 a3 a4 a5 b0 b1 b2 b3 b4 b5 d0 d1 d2 d3 d4 d5 : Int) : fnK CallSem.nil Try.prog 9 Try.f13 [.vec 0, .sl 0 0 3 3] ⟨[some ⟨bt, ow, [i64 a0, i64 a1, i64 a2, i64 a3, i64 a4, i64 a5, i64 b0, i64 b1, i64 b2, i64 b3, i64 b4, i64 b5, i64 d0, i64 d1, i64 d2, i64 d3, i64 d4, i64 d5]⟩], [some ⟨el, true, c6, 0, o, h, tri a0 a1 a2 a3 a4 a5 b0 b1 b2 b3 b4 b5 d0 d1 d2 d3 d4 d5⟩]⟩ [] = some (bo true, ⟨[some ⟨bt, ow, [i64 a0, i64 a1, i64 a2, i64 a3, i64 a4, i64 a5, i64 b0, i64 b1, i64 b2, i64 b3, i64 b4, i64 b5, i64 d0, i64 d1, i64 d2, i64 d3, i64 d4, i64 d5]⟩], [some ⟨el, true, c6, 0, o, h, tri a0 a1 a2 a3 a4 a5 b0 b1 b2 b3 b4 b5 d0 d1 d2 d3 d4 d5⟩]⟩) := by
  have e : fnK CallSem.nil Try.prog 9 Try.f13 [.vec 0, .sl 0 0 3 3] ⟨[some ⟨bt, ow, [i64 a0, i64 a1, i64 a2, i64 a3, i64 a4, i64 a5, i64 b0, i64 b1, i64 b2, i64 b3, i64 b4, i64 b5, i64 d0, i64 d1, i64 d2, i64 d3, i64 d4, i64 d5]⟩], [some ⟨el, true, c6, 0, o, h, tri a0 a1 a2 a3 a4 a5 b0 b1 b2 b3 b4 b5 d0 d1 d2 d3 d4 d5⟩]⟩ [] =
    (bif !((a0 == a0 && (a1 == a1 && (a2 == a2 && (a3 == a3 && true)))) && (a4 == a4 && (a5 == a5 && true))) then some (bo false, ⟨[some ⟨bt, ow, [i64 a0, i64 a1, i64 a2, i64 a3, i64 a4, i64 a5, i64 b0, i64 b1, i64 b2, i64 b3, i64 b4, i64 b5, i64 d0, i64 d1, i64 d2, i64 d3, i64 d4, i64 d5]⟩], [some ⟨el, true, c6, 0, o, h, tri a0 a1 a2 a3 a4 a5 b0 b1 b2 b3 b4 b5 d0 d1 d2 d3 d4 d5⟩]⟩) else bif !((b0 == b0 && (b1 == b1 && (b2 == b2 && (b3 == b3 && true)))) && (b4 == b4 && (b5 == b5 && true))) then some (bo false, ⟨[some ⟨bt, ow, [i64 a0, i64 a1, i64 a2, i64 a3, i64 a4, i64 a5, i64 b0, i64 b1, i64 b2, i64 b3, i64 b4, i64 b5, i64 d0, i64 d1, i64 d2, i64 d3, i64 d4, i64 d5]⟩], [some ⟨el, true, c6, 0, o, h, tri a0 a1 a2 a3 a4 a5 b0 b1 b2 b3 b4 b5 d0 d1 d2 d3 d4 d5⟩]⟩) else bif !((d0 == d0 && (d1 == d1 && (d2 == d2 && (d3 == d3 && true)))) && (d4 == d4 && (d5 == d5 && true))) then some (bo false, ⟨[some ⟨bt, ow, [i64 a0, i64 a1, i64 a2, i64 a3, i64 a4, i64 a5, i64 b0, i64 b1, i64 b2, i64 b3, i64 b4, i64 b5, i64 d0, i64 d1, i64 d2, i64 d3, i64 d4, i64 d5]⟩], [some ⟨el, true, c6, 0, o, h, tri a0 a1 a2 a3 a4 a5 b0 b1 b2 b3 b4 b5 d0 d1 d2 d3 d4 d5⟩]⟩) else some (bo true, ⟨[some ⟨bt, ow, [i64 a0, i64 a1, i64 a2, i64 a3, i64 a4, i64 a5, i64 b0, i64 b1, i64 b2, i64 b3, i64 b4, i64 b5, i64 d0, i64 d1, i64 d2, i64 d3, i64 d4, i64 d5]⟩], [some ⟨el, true, c6, 0, o, h, tri a0 a1 a2 a3 a4 a5 b0 b1 b2 b3 b4 b5 d0 d1 d2 d3 d4 d5⟩]⟩)) := by kernel_rfl
  rw [e]
  simp
def same3M : MSpec := ⟨[⟨0, 28, true, c6⟩], fun args M k => match args, M with
  | [.vec 0, .sl 0 0 3 3], ⟨[some ⟨bt, ow, [.lit (.int .i64 a0), .lit (.int .i64 a1), .lit (.int .i64 a2), .lit (.int .i64 a3), .lit (.int .i64 a4), .lit (.int .i64 a5), .lit (.int .i64 b0), .lit (.int .i64 b1), .lit (.int .i64 b2), .lit (.int .i64 b3), .lit (.int .i64 b4), .lit (.int .i64 b5), .lit (.int .i64 d0), .lit (.int .i64 d1), .lit (.int .i64 d2), .lit (.int .i64 d3), .lit (.int .i64 d4), .lit (.int .i64 d5)]⟩], [some ⟨el, true, sh, t0, o, h, L⟩]⟩ =>
    bif decide (sh = c6) && decide (t0 = 0) && decide (L.map c6I = (tri a0 a1 a2 a3 a4 a5 b0 b1 b2 b3 b4 b5 d0 d1 d2 d3 d4 d5).map c6I) then k (bo true) ⟨[some ⟨bt, ow, [i64 a0, i64 a1, i64 a2, i64 a3, i64 a4, i64 a5, i64 b0, i64 b1, i64 b2, i64 b3, i64 b4, i64 b5, i64 d0, i64 d1, i64 d2, i64 d3, i64 d4, i64 d5]⟩], [some ⟨el, true, c6, 0, o, h, L⟩]⟩ else none
  | _, _ => none⟩
theorem same3M_ok : same3M.Ok Try.prog 13 := by
  intro R args M k r h
  simp only [same3M] at h
  split at h
  · rename_i bt ow a0 a1 a2 a3 a4 a5 b0 b1 b2 b3 b4 b5 d0 d1 d2 d3 d4 d5 el sh t0 o hh L
    simp only [cond_eq_ite, Bool.and_eq_true, decide_eq_true_eq] at h
    split at h
    · rename_i hc
      obtain ⟨⟨rfl, rfl⟩, hL⟩ := hc
      refine ⟨_, _, h, CallOk.of_rep fun ⟨E, w0, w, hR⟩ => ?_⟩
      have hs := hR.shapes_ (i := 0) rfl
      have e : L = tri a0 a1 a2 a3 a4 a5 b0 b1 b2 b3 b4 b5 d0 d1 d2 d3 d4 d5 := by
        have h1 : L = L.map vx := by
          have : ∀ l : List AV, (∀ x, x ∈ l → x.shape true c6 = true) → l = l.map vx := by
            intro l
            induction l with
            | nil => intro _; rfl
            | cons x l ih => intro hl; rw [List.map_cons, ← vx_of_shape (hl x List.mem_cons_self), ← ih fun y hy => hl y (List.mem_cons_of_mem _ hy)]
          exact this L hs
        have h2 : L.map vx = (L.map c6I).map (fun l => AV.agg (l.map i64)) := by rw [List.map_map]; rfl
        rw [h1, h2, hL]; rfl
      subst e
      exact fn_ok nilS mixed e13 (fun _ _ => LoopsOk.no _ _) (same3 bt ow el o hh a0 a1 a2 a3 a4 a5 b0 b1 b2 b3 b4 b5 d0 d1 d2 d3 d4 d5) (by kernel_rfl)
    · cases h
  · cases h
noncomputable def L9K : Code := unl (lpOf Try.f4 1)
theorem nodes4 : nodes (Try.f4.body.getD .skip) = [.loop (unl (lpOf Try.f4 0)), .loop L9K] := by kernel_rfl
abbrev k9K : List Nat := [1, 5, 6, 7]
abbrev t9K : List Nat := [6, 7] ++ (List.range 13).map (· + 16)
def S9K (bt : TypeId) (ow : Bool) (a0 a1 a2 a3 a4 a5 b0 b1 b2 b3 b4 b5 d0 d1 d2 d3 d4 d5 : Int) (p : Int) (f : Nat → Value) (n i : Int) : St :=
  ⟨tmF k9K t9K [.ptr 0 0, i64 p, i64 n, i64 i] f 76 0, ⟨[some ⟨bt, ow, [i64 a0, i64 a1, i64 a2, i64 a3, i64 a4, i64 a5, i64 b0, i64 b1, i64 b2, i64 b3, i64 b4, i64 b5, i64 d0, i64 d1, i64 d2, i64 d3, i64 d4, i64 d5]⟩], []⟩⟩
end Go.Proofs.Ytemhaijcebjhhaa

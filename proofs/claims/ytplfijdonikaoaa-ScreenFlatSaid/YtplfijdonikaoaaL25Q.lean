/- Place's contract, code's and document's (chapter 25). -/
import Derived.Test.YtplfijdonikaoaaL25Z
import Derived.Test.YtplfijdonikaoaaScrE
set_option linter.unusedVariables false
set_option linter.unusedSimpArgs false
namespace Go.Proofs.Ytplfijdonikaoaa
open Go Go.Sx Go.Fx
set_option maxRecDepth 100000
set_option linter.unusedVariables false
set_option linter.unusedSimpArgs false
theorem praw10 (m0 m1 m2 m3 m4 m5 m6 m7 m8 m9 m10 m11 m12 m13 m14 m15 a0 a1 a2 a3 a4 a5 b0 b1 b2 b3 b4 b5 d0 d1 d2 d3 d4 d5 s c0 c1 c2 c3 w h : Int) : fnK cX10 Try.prog 30 Try.f10 [.agg [i64 m0, i64 m1, i64 m2, i64 m3, i64 m4, i64 m5, i64 m6, i64 m7, i64 m8, i64 m9, i64 m10, i64 m11, i64 m12, i64 m13, i64 m14, i64 m15], .agg [i64 a0, i64 a1, i64 a2, i64 a3, i64 a4, i64 a5, i64 b0, i64 b1, i64 b2, i64 b3, i64 b4, i64 b5, i64 d0, i64 d1, i64 d2, i64 d3, i64 d4, i64 d5, i64 s, .lit (.int .u8 c0), .lit (.int .u8 c1), .lit (.int .u8 c2), .lit (.int .u8 c3)], i64 w, i64 h] ⟨[], []⟩ [⟨0, 45, true, c18⟩] =
    (bif !szB w h then some (.tup [.vec 0, i64 (1)], ⟨[], [some ⟨45, true, c18, 0, true, true, []⟩]⟩) else bif !mayL [m0, m1, m2, m3, m4, m5, m6, m7, m8, m9, m10, m11, m12, m13, m14, m15] then some (.tup [.vec 0, i64 (1)], ⟨[], [some ⟨45, true, c18, 0, true, true, []⟩]⟩) else bif !cornB a0 a1 a2 a3 a4 a5 then some (.tup [.vec 0, i64 (2)], ⟨[], [some ⟨45, true, c18, 0, true, true, []⟩]⟩) else bif !cornB b0 b1 b2 b3 b4 b5 then some (.tup [.vec 0, i64 (2)], ⟨[], [some ⟨45, true, c18, 0, true, true, []⟩]⟩) else bif !cornB d0 d1 d2 d3 d4 d5 then some (.tup [.vec 0, i64 (2)], ⟨[], [some ⟨45, true, c18, 0, true, true, []⟩]⟩) else bif (plT [m0, m1, m2, m3, m4, m5, m6, m7, m8, m9, m10, m11, m12, m13, m14, m15] a0 a1 a2 a3 a4 a5 b0 b1 b2 b3 b4 b5 d0 d1 d2 d3 d4 d5).all okx then (bif decide ((polX (plT [m0, m1, m2, m3, m4, m5, m6, m7, m8, m9, m10, m11, m12, m13, m14, m15] a0 a1 a2 a3 a4 a5 b0 b1 b2 b3 b4 b5 d0 d1 d2 d3 d4 d5)).length ≤ 16384) then some (.tup [.vec 0, i64 (0)], ⟨[], [some ⟨45, true, c18, 0, true, true, trA (polX (plT [m0, m1, m2, m3, m4, m5, m6, m7, m8, m9, m10, m11, m12, m13, m14, m15] a0 a1 a2 a3 a4 a5 b0 b1 b2 b3 b4 b5 d0 d1 d2 d3 d4 d5)) w h⟩]⟩) else none) else none) := by kernel_rfl
theorem peq10 (m0 m1 m2 m3 m4 m5 m6 m7 m8 m9 m10 m11 m12 m13 m14 m15 a0 a1 a2 a3 a4 a5 b0 b1 b2 b3 b4 b5 d0 d1 d2 d3 d4 d5 s c0 c1 c2 c3 w h : Int) : fnK cX10 Try.prog 30 Try.f10 [.agg [i64 m0, i64 m1, i64 m2, i64 m3, i64 m4, i64 m5, i64 m6, i64 m7, i64 m8, i64 m9, i64 m10, i64 m11, i64 m12, i64 m13, i64 m14, i64 m15], .agg [i64 a0, i64 a1, i64 a2, i64 a3, i64 a4, i64 a5, i64 b0, i64 b1, i64 b2, i64 b3, i64 b4, i64 b5, i64 d0, i64 d1, i64 d2, i64 d3, i64 d4, i64 d5, i64 s, .lit (.int .u8 c0), .lit (.int .u8 c1), .lit (.int .u8 c2), .lit (.int .u8 c3)], i64 w, i64 h] ⟨[], []⟩ [⟨0, 45, true, c18⟩] =
    some (.tup [.vec 0, i64 (plE (szB w h && mayL [m0, m1, m2, m3, m4, m5, m6, m7, m8, m9, m10, m11, m12, m13, m14, m15]) (corn3 a0 a1 a2 a3 a4 a5 b0 b1 b2 b3 b4 b5 d0 d1 d2 d3 d4 d5))], ⟨[], [some ⟨45, true, c18, 0, true, true, plR (szB w h && mayL [m0, m1, m2, m3, m4, m5, m6, m7, m8, m9, m10, m11, m12, m13, m14, m15]) (corn3 a0 a1 a2 a3 a4 a5 b0 b1 b2 b3 b4 b5 d0 d1 d2 d3 d4 d5) (plT [m0, m1, m2, m3, m4, m5, m6, m7, m8, m9, m10, m11, m12, m13, m14, m15] a0 a1 a2 a3 a4 a5 b0 b1 b2 b3 b4 b5 d0 d1 d2 d3 d4 d5) w h⟩]⟩) := by
  rw [praw10]
  cases szB w h
  · rfl
  cases hm : mayL [m0, m1, m2, m3, m4, m5, m6, m7, m8, m9, m10, m11, m12, m13, m14, m15]
  · rfl
  unfold corn3
  cases ha : cornB a0 a1 a2 a3 a4 a5
  · rfl
  cases hb : cornB b0 b1 b2 b3 b4 b5
  · rfl
  cases hd : cornB d0 d1 d2 d3 d4 d5
  · rfl
  have hT := plT_ok hm ha hb hd
  have hl : (plT [m0, m1, m2, m3, m4, m5, m6, m7, m8, m9, m10, m11, m12, m13, m14, m15] a0 a1 a2 a3 a4 a5 b0 b1 b2 b3 b4 b5 d0 d1 d2 d3 d4 d5).length = 3 := rfl
  generalize (plT [m0, m1, m2, m3, m4, m5, m6, m7, m8, m9, m10, m11, m12, m13, m14, m15] a0 a1 a2 a3 a4 a5 b0 b1 b2 b3 b4 b5 d0 d1 d2 d3 d4 d5) = L at *
  rw [hT, decide_eq_true (polX_len (L := L) (by omega))]
  simp only [Bool.not_true, cond_false, cond_true, plE, plR, Bool.and_self]
theorem praw11 (m0 m1 m2 m3 m4 m5 m6 m7 m8 m9 m10 m11 m12 m13 m14 m15 a0 a1 a2 a3 a4 a5 b0 b1 b2 b3 b4 b5 d0 d1 d2 d3 d4 d5 s c0 c1 c2 c3 w h : Int) : fnK cX11 Try.prog 30 Try.f11 [.agg [i64 m0, i64 m1, i64 m2, i64 m3, i64 m4, i64 m5, i64 m6, i64 m7, i64 m8, i64 m9, i64 m10, i64 m11, i64 m12, i64 m13, i64 m14, i64 m15], .agg [i64 a0, i64 a1, i64 a2, i64 a3, i64 a4, i64 a5, i64 b0, i64 b1, i64 b2, i64 b3, i64 b4, i64 b5, i64 d0, i64 d1, i64 d2, i64 d3, i64 d4, i64 d5, i64 s, .lit (.int .u8 c0), .lit (.int .u8 c1), .lit (.int .u8 c2), .lit (.int .u8 c3)], i64 w, i64 h] ⟨[], []⟩ [⟨0, 45, true, c18⟩] =
    (bif !wI w 1 32 then some (.tup [.vec 0, i64 (1)], ⟨[], [some ⟨45, true, c18, 0, true, true, []⟩]⟩) else bif !wI h 1 32 then some (.tup [.vec 0, i64 (1)], ⟨[], [some ⟨45, true, c18, 0, true, true, []⟩]⟩) else bif !mayL [m0, m1, m2, m3, m4, m5, m6, m7, m8, m9, m10, m11, m12, m13, m14, m15] then some (.tup [.vec 0, i64 (1)], ⟨[], [some ⟨45, true, c18, 0, true, true, []⟩]⟩) else bif !(cornB a0 a1 a2 a3 a4 a5 && (cornB b0 b1 b2 b3 b4 b5 && cornB d0 d1 d2 d3 d4 d5)) then some (.tup [.vec 0, i64 (2)], ⟨[], [some ⟨45, true, c18, 0, true, true, []⟩]⟩) else bif (plT [m0, m1, m2, m3, m4, m5, m6, m7, m8, m9, m10, m11, m12, m13, m14, m15] a0 a1 a2 a3 a4 a5 b0 b1 b2 b3 b4 b5 d0 d1 d2 d3 d4 d5).all okx then (bif decide ((polR (plT [m0, m1, m2, m3, m4, m5, m6, m7, m8, m9, m10, m11, m12, m13, m14, m15] a0 a1 a2 a3 a4 a5 b0 b1 b2 b3 b4 b5 d0 d1 d2 d3 d4 d5)).length ≤ 16384) then some (.tup [.vec 0, i64 (0)], ⟨[], [some ⟨45, true, c18, 0, true, true, trA (polR (plT [m0, m1, m2, m3, m4, m5, m6, m7, m8, m9, m10, m11, m12, m13, m14, m15] a0 a1 a2 a3 a4 a5 b0 b1 b2 b3 b4 b5 d0 d1 d2 d3 d4 d5)) w h⟩]⟩) else none) else none) := by kernel_rfl
theorem peq11 (m0 m1 m2 m3 m4 m5 m6 m7 m8 m9 m10 m11 m12 m13 m14 m15 a0 a1 a2 a3 a4 a5 b0 b1 b2 b3 b4 b5 d0 d1 d2 d3 d4 d5 s c0 c1 c2 c3 w h : Int) : fnK cX11 Try.prog 30 Try.f11 [.agg [i64 m0, i64 m1, i64 m2, i64 m3, i64 m4, i64 m5, i64 m6, i64 m7, i64 m8, i64 m9, i64 m10, i64 m11, i64 m12, i64 m13, i64 m14, i64 m15], .agg [i64 a0, i64 a1, i64 a2, i64 a3, i64 a4, i64 a5, i64 b0, i64 b1, i64 b2, i64 b3, i64 b4, i64 b5, i64 d0, i64 d1, i64 d2, i64 d3, i64 d4, i64 d5, i64 s, .lit (.int .u8 c0), .lit (.int .u8 c1), .lit (.int .u8 c2), .lit (.int .u8 c3)], i64 w, i64 h] ⟨[], []⟩ [⟨0, 45, true, c18⟩] =
    some (.tup [.vec 0, i64 (plE (szB w h && mayL [m0, m1, m2, m3, m4, m5, m6, m7, m8, m9, m10, m11, m12, m13, m14, m15]) (corn3 a0 a1 a2 a3 a4 a5 b0 b1 b2 b3 b4 b5 d0 d1 d2 d3 d4 d5))], ⟨[], [some ⟨45, true, c18, 0, true, true, plR (szB w h && mayL [m0, m1, m2, m3, m4, m5, m6, m7, m8, m9, m10, m11, m12, m13, m14, m15]) (corn3 a0 a1 a2 a3 a4 a5 b0 b1 b2 b3 b4 b5 d0 d1 d2 d3 d4 d5) (plT [m0, m1, m2, m3, m4, m5, m6, m7, m8, m9, m10, m11, m12, m13, m14, m15] a0 a1 a2 a3 a4 a5 b0 b1 b2 b3 b4 b5 d0 d1 d2 d3 d4 d5) w h⟩]⟩) := by
  rw [praw11]
  rw [polR_eq]
  have hz : szB w h = (wI w 1 32 && wI h 1 32) := by simp [szB, wI, Bool.and_assoc]
  rw [hz]
  cases wI w 1 32
  · rfl
  cases wI h 1 32
  · rfl
  cases hm : mayL [m0, m1, m2, m3, m4, m5, m6, m7, m8, m9, m10, m11, m12, m13, m14, m15]
  · rfl
  unfold corn3
  cases ha : cornB a0 a1 a2 a3 a4 a5
  · rfl
  cases hb : cornB b0 b1 b2 b3 b4 b5
  · rfl
  cases hd : cornB d0 d1 d2 d3 d4 d5
  · rfl
  have hT := plT_ok hm ha hb hd
  have hl : (plT [m0, m1, m2, m3, m4, m5, m6, m7, m8, m9, m10, m11, m12, m13, m14, m15] a0 a1 a2 a3 a4 a5 b0 b1 b2 b3 b4 b5 d0 d1 d2 d3 d4 d5).length = 3 := rfl
  generalize (plT [m0, m1, m2, m3, m4, m5, m6, m7, m8, m9, m10, m11, m12, m13, m14, m15] a0 a1 a2 a3 a4 a5 b0 b1 b2 b3 b4 b5 d0 d1 d2 d3 d4 d5) = L at *
  rw [hT, decide_eq_true (polX_len (L := L) (by omega))]
  simp only [Bool.not_true, cond_false, cond_true, plE, plR, Bool.and_self]
set_option maxHeartbeats 4000000 in
noncomputable def place_M : MSpec where
  nils := [⟨0, 45, true, c18⟩]
  run args M k := match args, M with
    | [.agg [.lit (.int .i64 m0), .lit (.int .i64 m1), .lit (.int .i64 m2), .lit (.int .i64 m3), .lit (.int .i64 m4), .lit (.int .i64 m5), .lit (.int .i64 m6), .lit (.int .i64 m7), .lit (.int .i64 m8), .lit (.int .i64 m9), .lit (.int .i64 m10), .lit (.int .i64 m11), .lit (.int .i64 m12), .lit (.int .i64 m13), .lit (.int .i64 m14), .lit (.int .i64 m15)], .agg [.lit (.int .i64 a0), .lit (.int .i64 a1), .lit (.int .i64 a2), .lit (.int .i64 a3), .lit (.int .i64 a4), .lit (.int .i64 a5), .lit (.int .i64 b0), .lit (.int .i64 b1), .lit (.int .i64 b2), .lit (.int .i64 b3), .lit (.int .i64 b4), .lit (.int .i64 b5), .lit (.int .i64 d0), .lit (.int .i64 d1), .lit (.int .i64 d2), .lit (.int .i64 d3), .lit (.int .i64 d4), .lit (.int .i64 d5), .lit (.int .i64 s), .lit (.int .u8 c0), .lit (.int .u8 c1), .lit (.int .u8 c2), .lit (.int .u8 c3)], .lit (.int .i64 w), .lit (.int .i64 h)], ⟨[], []⟩ => k (.tup [.vec 0, i64 (plE (szB w h && mayL [m0, m1, m2, m3, m4, m5, m6, m7, m8, m9, m10, m11, m12, m13, m14, m15]) (corn3 a0 a1 a2 a3 a4 a5 b0 b1 b2 b3 b4 b5 d0 d1 d2 d3 d4 d5))]) ⟨[], [some ⟨45, true, c18, 0, true, true, plR (szB w h && mayL [m0, m1, m2, m3, m4, m5, m6, m7, m8, m9, m10, m11, m12, m13, m14, m15]) (corn3 a0 a1 a2 a3 a4 a5 b0 b1 b2 b3 b4 b5 d0 d1 d2 d3 d4 d5) (plT [m0, m1, m2, m3, m4, m5, m6, m7, m8, m9, m10, m11, m12, m13, m14, m15] a0 a1 a2 a3 a4 a5 b0 b1 b2 b3 b4 b5 d0 d1 d2 d3 d4 d5) w h⟩]⟩
    | _, _ => none
theorem X10_loops : ∀ c, Try.f10.body = some c → LoopsOk Try.prog cX10.loops c := loops_of nodes10 fun x hx L' h' => by
  rcases List.mem_cons.1 hx with rfl | hx
  · exfalso
    have e : nodeL (one 13 pl_L10) (.loop (unl (lpOf Try.f10 0))) = none := by kernel_rfl
    rw [show cX10.loops = one 13 pl_L10 from rfl, e] at h'
    cases h'
  · simp only [List.mem_singleton] at hx
    subst hx
    have e : nodeL (one 13 pl_L10) (.loop L10) = some pl_L10 := by kernel_rfl
    rw [show cX10.loops = one 13 pl_L10 from rfl, e] at h'
    simp only [Option.some.injEq] at h'
    exact @fixL _ _ _ _ h' @pl_Lok10
set_option maxHeartbeats 4000000 in
theorem place_Mok10 : place_M.Ok Try.prog 10 := by
  intro R args M k r h
  simp only [place_M] at h
  split at h
  · exact ⟨_, _, h, fn_ok (C := cX10) (n := 30) (ts := [⟨0, 45, true, c18⟩]) cX10_sound mixed s10 X10_loops (peq10 _ _ _ _ _ _ _ _ _ _ _ _ _ _ _ _ _ _ _ _ _ _ _ _ _ _ _ _ _ _ _ _ _ _ _ _ _ _ _ _ _) rfl⟩
  · cases h
theorem X11_loops : ∀ c, Try.f11.body = some c → LoopsOk Try.prog cX11.loops c := loops_of nodes11 fun x hx L' h' => by
  rcases List.mem_cons.1 hx with rfl | hx
  · exfalso
    have e : nodeL (one 13 pl_L11) (.loop (unl (lpOf Try.f11 0))) = none := by kernel_rfl
    rw [show cX11.loops = one 13 pl_L11 from rfl, e] at h'
    cases h'
  · simp only [List.mem_singleton] at hx
    subst hx
    have e : nodeL (one 13 pl_L11) (.loop L11) = some pl_L11 := by kernel_rfl
    rw [show cX11.loops = one 13 pl_L11 from rfl, e] at h'
    simp only [Option.some.injEq] at h'
    exact @fixL _ _ _ _ h' @pl_Lok11
set_option maxHeartbeats 4000000 in
theorem place_Mok11 : place_M.Ok Try.prog 11 := by
  intro R args M k r h
  simp only [place_M] at h
  split at h
  · exact ⟨_, _, h, fn_ok (C := cX11) (n := 30) (ts := [⟨0, 45, true, c18⟩]) cX11_sound mixed s11 X11_loops (peq11 _ _ _ _ _ _ _ _ _ _ _ _ _ _ _ _ _ _ _ _ _ _ _ _ _ _ _ _ _ _ _ _ _ _ _ _ _ _ _ _ _) rfl⟩
  · cases h
end Go.Proofs.Ytplfijdonikaoaa

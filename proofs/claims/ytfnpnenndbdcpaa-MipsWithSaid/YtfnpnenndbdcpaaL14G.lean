/- A pyramid's texture (chapter 14): a copy of its finest level. -/
import Derived.Test.YtfnpnenndbdcpaaL14F
set_option linter.unusedVariables false
set_option linter.unusedSimpArgs false
namespace Go.Proofs.Ytfnpnenndbdcpaa
open Go Go.Sx Go.Fx
set_option maxRecDepth 100000
set_option linter.unusedVariables false
set_option linter.unusedSimpArgs false
noncomputable def cTx : CallSem := CallSem.nil.withBody Try.prog 5 26 Try.f26 false
theorem cTx_sound : cTx.Sound Try.prog := CallSem.withBody_sound nilS mixed 5 s26 false
theorem len_sq {L : List AV} {D : Int} (h : L.length = sqD D) : decide (0 < L.length) = true ∧ decide (0 + L.length ≤ 65536) = true := by
  have := sqD_pos D
  have h2 : L.length ≤ 1024 := by
    rw [h]; unfold sqD; cases D == 0 <;> cases D == 1 <;> cases D == 2 <;> decide
  exact ⟨decide_eq_true (by omega), decide_eq_true (by omega)⟩
abbrev TX0 (wr : Bool) (h0 : Bool) (L0 : List AV) : Mem := ⟨(PM0 wr h0 L0).blks, (PM0 wr h0 L0).vecs ++ [eH 1 true L0]⟩
theorem tex_raw0 (wr : Bool) (h0 : Bool) (L0 : List AV) : fnK cTx Try.prog 9 Try.f18 [.ptr 0 0] (PM0 wr h0 L0) [] =
    bif decide (0 < L0.length) then (bif decide (0 + L0.length ≤ 65536) && true then some (.agg [i64 0, bv wr, .vec 1], TX0 wr h0 L0) else none) else none := by kernel_rfl
abbrev TX1 (wr : Bool) (h0 hw h1 : Bool) (L0 L1 : List AV) : Mem := ⟨(PM1 wr h0 hw h1 L0 L1).blks, (PM1 wr h0 hw h1 L0 L1).vecs ++ [eH 3 true L0]⟩
theorem tex_raw1 (wr : Bool) (h0 hw h1 : Bool) (L0 L1 : List AV) : fnK cTx Try.prog 9 Try.f18 [.ptr 0 0] (PM1 wr h0 hw h1 L0 L1) [] =
    bif decide (0 < L0.length) then (bif decide (0 + L0.length ≤ 65536) && true then some (.agg [i64 1, bv wr, .vec 3], TX1 wr h0 hw h1 L0 L1) else none) else none := by kernel_rfl
abbrev TX2 (wr : Bool) (h0 hw h1 h2 : Bool) (L0 L1 L2 : List AV) : Mem := ⟨(PM2 wr h0 hw h1 h2 L0 L1 L2).blks, (PM2 wr h0 hw h1 h2 L0 L1 L2).vecs ++ [eH 4 true L0]⟩
theorem tex_raw2 (wr : Bool) (h0 hw h1 h2 : Bool) (L0 L1 L2 : List AV) : fnK cTx Try.prog 9 Try.f18 [.ptr 0 0] (PM2 wr h0 hw h1 h2 L0 L1 L2) [] =
    bif decide (0 < L0.length) then (bif decide (0 + L0.length ≤ 65536) && true then some (.agg [i64 2, bv wr, .vec 4], TX2 wr h0 hw h1 h2 L0 L1 L2) else none) else none := by kernel_rfl
abbrev TX3 (wr : Bool) (h0 hw h1 h2 h3 : Bool) (L0 L1 L2 L3 : List AV) : Mem := ⟨(PM3 wr h0 hw h1 h2 h3 L0 L1 L2 L3).blks, (PM3 wr h0 hw h1 h2 h3 L0 L1 L2 L3).vecs ++ [eH 5 true L0]⟩
theorem tex_raw3 (wr : Bool) (h0 hw h1 h2 h3 : Bool) (L0 L1 L2 L3 : List AV) : fnK cTx Try.prog 9 Try.f18 [.ptr 0 0] (PM3 wr h0 hw h1 h2 h3 L0 L1 L2 L3) [] =
    bif decide (0 < L0.length) then (bif decide (0 + L0.length ≤ 65536) && true then some (.agg [i64 3, bv wr, .vec 5], TX3 wr h0 hw h1 h2 h3 L0 L1 L2 L3) else none) else none := by kernel_rfl
theorem tex_rawN : fnK cTx Try.prog 9 Try.f18 [nilp] ⟨[], []⟩ [] = some (.agg [i64 0, bv false, .lit nilV], ⟨[], []⟩) := by kernel_rfl
def tex_M : MSpec := ⟨[], fun args M k => match args, M with
  | [.ptr 0 0], ⟨[some ⟨65, false, [.lit (.int .i64 0), .lit (.bool wr), .vec 0, .sl 1 0 1 1]⟩, some ⟨22, false, [.vec 0]⟩], [some ⟨39, true, s0, 0, false, h0, L0⟩]⟩ => bif decide (s0 = c4) && okL 0 [L0] then k (.agg [i64 0, bv wr, .vec 1]) (TX0 wr h0 L0) else none
  | [.ptr 0 0], ⟨[some ⟨65, false, [.lit (.int .i64 1), .lit (.bool wr), .vec 0, .vec 1]⟩], [some ⟨39, true, s0, 0, false, h0, L0⟩, some ⟨22, false, [.any], 1, false, hw, [.vec 0, .vec 2]⟩, some ⟨39, true, s1, 2, false, h1, L1⟩]⟩ => bif decide (s0 = c4) && decide (s1 = c4) && okL 1 [L0, L1] then k (.agg [i64 1, bv wr, .vec 3]) (TX1 wr h0 hw h1 L0 L1) else none
  | [.ptr 0 0], ⟨[some ⟨65, false, [.lit (.int .i64 2), .lit (.bool wr), .vec 0, .vec 1]⟩], [some ⟨39, true, s0, 0, false, h0, L0⟩, some ⟨22, false, [.any], 1, false, hw, [.vec 0, .vec 2, .vec 3]⟩, some ⟨39, true, s1, 2, false, h1, L1⟩, some ⟨39, true, s2, 3, false, h2, L2⟩]⟩ => bif decide (s0 = c4) && decide (s1 = c4) && decide (s2 = c4) && okL 2 [L0, L1, L2] then k (.agg [i64 2, bv wr, .vec 4]) (TX2 wr h0 hw h1 h2 L0 L1 L2) else none
  | [.ptr 0 0], ⟨[some ⟨65, false, [.lit (.int .i64 3), .lit (.bool wr), .vec 0, .vec 1]⟩], [some ⟨39, true, s0, 0, false, h0, L0⟩, some ⟨22, false, [.any], 1, false, hw, [.vec 0, .vec 2, .vec 3, .vec 4]⟩, some ⟨39, true, s1, 2, false, h1, L1⟩, some ⟨39, true, s2, 3, false, h2, L2⟩, some ⟨39, true, s3, 4, false, h3, L3⟩]⟩ => bif decide (s0 = c4) && decide (s1 = c4) && decide (s2 = c4) && decide (s3 = c4) && okL 3 [L0, L1, L2, L3] then k (.agg [i64 3, bv wr, .vec 5]) (TX3 wr h0 hw h1 h2 h3 L0 L1 L2 L3) else none
  | [.lit (.pointer none)], ⟨[], []⟩ => k (.agg [i64 0, bv false, .lit nilV]) ⟨[], []⟩
  | _, _ => none⟩
theorem tex_Mok : tex_M.Ok Try.prog 18 := by
  intro R args M k r h
  simp only [tex_M] at h
  split at h
  · rename_i wr s0 h0 L0
    simp only [cond_eq_ite, Bool.and_eq_true, decide_eq_true_eq] at h
    split at h
    · rename_i hc
      obtain ⟨rfl, hk⟩ := hc
      obtain ⟨e1, e2⟩ := len_sq (okL_0 hk).1
      exact ⟨_, _, h, fn_ok (C := cTx) (n := 9) (ts := []) cTx_sound mixed s18 (fun _ _ => LoopsOk.no _ _) ((tex_raw0 wr h0 L0).trans (by rw [e1, e2]; rfl)) rfl⟩
    · cases h
  · rename_i wr s0 h0 L0 hw s1 h1 L1
    simp only [cond_eq_ite, Bool.and_eq_true, decide_eq_true_eq] at h
    split at h
    · rename_i hc
      obtain ⟨⟨rfl, rfl⟩, hk⟩ := hc
      obtain ⟨e1, e2⟩ := len_sq (okL_0 hk).1
      exact ⟨_, _, h, fn_ok (C := cTx) (n := 9) (ts := []) cTx_sound mixed s18 (fun _ _ => LoopsOk.no _ _) ((tex_raw1 wr h0 hw h1 L0 L1).trans (by rw [e1, e2]; rfl)) rfl⟩
    · cases h
  · rename_i wr s0 h0 L0 hw s1 h1 L1 s2 h2 L2
    simp only [cond_eq_ite, Bool.and_eq_true, decide_eq_true_eq] at h
    split at h
    · rename_i hc
      obtain ⟨⟨⟨rfl, rfl⟩, rfl⟩, hk⟩ := hc
      obtain ⟨e1, e2⟩ := len_sq (okL_0 hk).1
      exact ⟨_, _, h, fn_ok (C := cTx) (n := 9) (ts := []) cTx_sound mixed s18 (fun _ _ => LoopsOk.no _ _) ((tex_raw2 wr h0 hw h1 h2 L0 L1 L2).trans (by rw [e1, e2]; rfl)) rfl⟩
    · cases h
  · rename_i wr s0 h0 L0 hw s1 h1 L1 s2 h2 L2 s3 h3 L3
    simp only [cond_eq_ite, Bool.and_eq_true, decide_eq_true_eq] at h
    split at h
    · rename_i hc
      obtain ⟨⟨⟨⟨rfl, rfl⟩, rfl⟩, rfl⟩, hk⟩ := hc
      obtain ⟨e1, e2⟩ := len_sq (okL_0 hk).1
      exact ⟨_, _, h, fn_ok (C := cTx) (n := 9) (ts := []) cTx_sound mixed s18 (fun _ _ => LoopsOk.no _ _) ((tex_raw3 wr h0 hw h1 h2 h3 L0 L1 L2 L3).trans (by rw [e1, e2]; rfl)) rfl⟩
    · cases h
  · exact ⟨_, _, h, fn_ok (C := cTx) (n := 9) (ts := []) cTx_sound mixed s18 (fun _ _ => LoopsOk.no _ _) tex_rawN rfl⟩
  · cases h
/-! With -/
noncomputable def cW0 : CallSem := (((CallSem.nil.withRead 15 size_M).withRead 18 tex_M).withRead 8 build_M).withJoin
theorem cW0_sound : cW0.Sound Try.prog := CallSem.withJoin_sound (CallSem.withRead_sound (CallSem.withRead_sound (CallSem.withRead_sound nilS size_Mok) tex_Mok) build_Mok)
noncomputable def C11 : CallSem := cW0.withLoops (one 6 with_L)
theorem C11_sound : C11.Sound Try.prog := CallSem.withLoops_sound cW0_sound _
theorem C11_loops : ∀ c, Try.f11.body = some c → LoopsOk Try.prog C11.loops c := one_ok nodes11 with_Lok
abbrev eLr (t : Nat) (hl : Bool) (l : List AV) : Option Ent := eO t hl l
abbrev QM0 (wr : Bool) (h0 : Bool) (L0 : List AV) (hl : Bool) (l : List AV) : Mem := ⟨[pyr false 0 wr (.vec 1) (.sl 1 0 1 1), some ⟨22, false, [.vec 1]⟩], [eLr 0 hl l, eO 1 h0 L0]⟩
abbrev QM1 (wr : Bool) (h0 hw h1 : Bool) (L0 L1 : List AV) (hl : Bool) (l : List AV) : Mem := ⟨[pyr false 1 wr (.vec 1) (.vec 2)], [eLr 0 hl l, eO 1 h0 L0, some ⟨22, false, [CK.any], 2, false, hw, [.vec 1, .vec 3]⟩, eO 3 h1 L1]⟩
abbrev QM2 (wr : Bool) (h0 hw h1 h2 : Bool) (L0 L1 L2 : List AV) (hl : Bool) (l : List AV) : Mem := ⟨[pyr false 2 wr (.vec 1) (.vec 2)], [eLr 0 hl l, eO 1 h0 L0, some ⟨22, false, [CK.any], 2, false, hw, [.vec 1, .vec 3, .vec 4]⟩, eO 3 h1 L1, eO 4 h2 L2]⟩
abbrev QM3 (wr : Bool) (h0 hw h1 h2 h3 : Bool) (L0 L1 L2 L3 : List AV) (hl : Bool) (l : List AV) : Mem := ⟨[pyr false 3 wr (.vec 1) (.vec 2)], [eLr 0 hl l, eO 1 h0 L0, some ⟨22, false, [CK.any], 2, false, hw, [.vec 1, .vec 3, .vec 4, .vec 5]⟩, eO 3 h1 L1, eO 4 h2 L2, eO 5 h3 L3]⟩
end Go.Proofs.Ytfnpnenndbdcpaa

/- What is coarser (chapter 14). -/
import Derived.Test.YtfnpnenndbdcpaaL14B
set_option linter.unusedVariables false
set_option linter.unusedSimpArgs false
namespace Go.Proofs.Ytfnpnenndbdcpaa
open Go Go.Sx Go.Fx
set_option maxRecDepth 100000
set_option linter.unusedVariables false
set_option linter.unusedSimpArgs false
theorem s27 : Sx.Enters Try.prog 27 Try.f27 := ⟨Try.func27, by kernel_rfl, by kernel_rfl⟩
noncomputable def L27o : Code := unl (lpOf Try.f27 0)
noncomputable def L27 : Code := unl (lpOf Try.f27 1)
theorem nodes27 : nodes (Try.f27.body.getD .skip) = [.loop L27o, .loop L27] := by kernel_rfl
noncomputable def cM : CallSem := CallSem.nil.withSpec 36 meanS
theorem cM_sound : cM.Sound Try.prog := CallSem.withSpec_sound nilS ok36
abbrev k27 : List Nat := [0, 1, 4, 5, 6]
abbrev t27 : List Nat := [7] ++ (List.range 36).map (· + 13)
abbrev eC (o2 hd : Bool) (L : List AV) : Option Ent := some ⟨39, true, c4, 0, o2, hd, L⟩
def S27 (s y : Int) (o2 hd : Bool) (L : List AV) (f : Nat → Value) (x : Int) (acc : List AV) : St :=
  ⟨tmF k27 t27 [.vec 0, i64 s, .vec 2, i64 y, i64 x] f 50 0, ⟨[], [eC o2 hd L, none, eH 2 true acc]⟩⟩
def gE (L : List AV) (i : Int) : AV := L.getD i.toNat .bad
theorem raw27 (s y : Int) (o2 hd : Bool) (L : List AV) (f : Nat → Value) (x : Int) (acc : List AV) : turnK cM Try.prog 1 L27 k27 t27 0 2 (S27 s y o2 hd L f x acc) =
    bif decide (x < s) then ix L (wi (wi (y * s) + x)) (ix L (wi (wi (wi (y * s) + x) + 1)) (ix L (wi (wi (wi (y * s) + x) + s)) (ix L (wi (wi (wi (wi (y * s) + x) + s) + 1))
      (bif decide (acc.length + 1 ≤ 65536) && true && true && true && true then some (.normal, S27 s y o2 hd L f (wi (x + 2)) (acc ++ [meanA (gE L (wi (wi (y * s) + x))) (gE L (wi (wi (wi (y * s) + x) + 1))) (gE L (wi (wi (wi (y * s) + x) + s))) (gE L (wi (wi (wi (wi (y * s) + x) + s) + 1)))])) else none)))) else some (.exit 2, S27 s y o2 hd L f x acc) := by kernel_rfl
theorem turn27 (s r j : Nat) (o2 hd : Bool) (L : List AV) (f : Nat → Value) (acc : List AV) (h2 : s = 2 * (s / 2)) (hs : s ≤ 32) (hL : L.length = s * s) (hr : r < s / 2) (hj : j < s / 2) (ha : acc.length + 1 ≤ 65536) :
    turnK cM Try.prog 1 L27 k27 t27 0 2 (S27 (s : Nat) ((2 * r : Nat) : Int) o2 hd L f ((2 * j : Nat) : Int) acc) = some (.normal, S27 (s : Nat) ((2 * r : Nat) : Int) o2 hd L f ((2 * (j + 1) : Nat) : Int) (acc ++ [coarE L s (s / 2 * r + j)])) := by
  have hm : 2 * r * s + 2 * s ≤ s * s := by
    have := Nat.mul_le_mul_right s (show 2 * r + 2 ≤ s by omega)
    rw [Nat.add_mul] at this; exact this
  have hss : s * s ≤ 32 * 32 := Nat.mul_le_mul hs hs
  have e0 : ((2 * r : Nat) : Int) * (s : Int) = ((2 * r * s : Nat) : Int) := by simp
  have e1 : wi (wi (((2 * r : Nat) : Int) * (s : Int)) + ((2 * j : Nat) : Int)) = ((2 * r * s + 2 * j : Nat) : Int) := by
    rw [e0, wi_id (n := ((2 * r * s : Nat) : Int)) (by omega) (by omega), wi_id (by omega) (by omega)]; omega
  have e2 : wi (((2 * r * s + 2 * j : Nat) : Int) + 1) = ((2 * r * s + 2 * j + 1 : Nat) : Int) := by rw [wi_id (by omega) (by omega)]; omega
  have e3 : wi (((2 * r * s + 2 * j : Nat) : Int) + (s : Int)) = ((2 * r * s + 2 * j + s : Nat) : Int) := by rw [wi_id (by omega) (by omega)]; omega
  have e4 : wi (((2 * r * s + 2 * j + s : Nat) : Int) + 1) = ((2 * r * s + 2 * j + s + 1 : Nat) : Int) := by rw [wi_id (by omega) (by omega)]; omega
  have e5 : wi (((2 * j : Nat) : Int) + 2) = ((2 * (j + 1) : Nat) : Int) := by rw [wi_id (by omega) (by omega)]; omega
  rw [raw27, e1, e2, e3, e4, e5, decide_eq_true (by omega), cond_true, ix_in (by omega) (by omega), ix_in (by omega) (by omega), ix_in (by omega) (by omega), ix_in (by omega) (by omega), decide_eq_true ha, coarE_at hj]
  rfl
theorem loop27 (s r : Nat) (o2 hd : Bool) (L : List AV) (f : Nat → Value) (acc : List AV) (h2 : s = 2 * (s / 2)) (hs : s ≤ 32) (hL : L.length = s * s) (hr : r < s / 2) (ha : acc.length + s ≤ 65536) (j : Nat) (hj : j ≤ s / 2) :
    CodeOkN 0 2 Try.prog (.loop L27) (S27 (s : Nat) ((2 * r : Nat) : Int) o2 hd L f ((2 * j : Nat) : Int) (acc ++ coarR L s r j)) (.exit 2) (S27 (s : Nat) ((2 * r : Nat) : Int) o2 hd L f (s : Nat) (acc ++ coarR L s r (s / 2))) := by
  refine loop_ok (fun j : Nat => S27 (s : Nat) ((2 * r : Nat) : Int) o2 hd L f ((2 * j : Nat) : Int) (acc ++ coarR L s r j)) (fun _ => (.exit 2, S27 (s : Nat) ((2 * r : Nat) : Int) o2 hd L f (s : Nat) (acc ++ coarR L s r (s / 2)))) (fun j => if j < s / 2 then some (j + 1) else none) (fun j => s / 2 - j) (fun j => j ≤ s / 2) ?_ ?_ j hj
  · rintro j h hn
    refine ⟨fun e => (by cases e), ?_⟩
    have hjn : j = s / 2 := by
      by_cases hh : j < s / 2
      · simp [hh] at hn
      · omega
    subst hjn
    refine turn_ok (C := cM) (n := 1) cM_sound mixed (LoopsOk.no _ _) rfl rfl ?_
    rw [raw27, decide_eq_false (by omega), cond_false, show 2 * (s / 2) = s by omega]
    rfl
  · rintro j s' h hn
    by_cases hh : j < s / 2
    · simp only [hh, if_true, Option.some.injEq] at hn
      subst hn
      refine ⟨by omega, by omega, rfl, turn_ok (C := cM) (n := 1) cM_sound mixed (LoopsOk.no _ _) rfl rfl ?_⟩
      rw [turn27 s r j o2 hd L f _ h2 hs hL hr hh (by rw [List.length_append, coarR_len]; omega), coarR_succ, List.append_assoc]
      rfl
    · simp [hh] at hn
def gC (s : Int) (L : List AV) : Bool := decide (2 ≤ s) && decide (s ≤ 32) && decide (s % 2 = 0) && decide ((L.length : Int) = s * s)
def gCy (s y : Int) (L acc : List AV) : Bool := gC s L && (decide (0 ≤ y) && decide (y < s) && decide (y % 2 = 0) && decide (acc.length ≤ 1024))
def coar_L : LSpec where
  n := 50
  nils := [⟨4, 39, true, c4⟩]
  keep := k27
  touch := t27
  run kv M k := match kv, M with
    | [.vec h0, .lit (.int .i64 s), .vec h1, .lit (.int .i64 y), .lit (.int .i64 x)], ⟨[], [some ⟨el, true, sh, tr, o2, hd, L⟩, some ⟨el', true, sh', tr', true, true, acc⟩]⟩ =>
      bif decide (h0 = 0) && decide (h1 = 1) && decide (el = 39) && decide (sh = c4) && decide (tr = 0) && decide (el' = 39) && decide (sh' = c4) && decide (tr' = 1) && decide (x = 0) && gCy s y L acc then
        k (.exit 2) [.vec 0, i64 s, .vec 2, i64 y, i64 s] ⟨[], [eC o2 hd L, none, eH 2 true (acc ++ coarR L s.toNat (y.toNat / 2) (s.toNat / 2))]⟩ else none
    | _, _ => none
theorem coar_Lok : coar_L.Ok Try.prog (.loop L27) := by
  intro R kv M k r h
  simp only [coar_L, gCy, gC] at h
  split at h
  · rename_i h0 s h1 y x el sh tr o2 hd L el' sh' tr' acc
    simp only [cond_eq_ite, Bool.and_eq_true, decide_eq_true_eq] at h
    split at h
    · rename_i hc
      obtain ⟨⟨⟨⟨⟨⟨⟨⟨⟨rfl, rfl⟩, rfl⟩, rfl⟩, rfl⟩, rfl⟩, rfl⟩, rfl⟩, rfl⟩, ⟨⟨⟨hs2, hs⟩, hse⟩, hL⟩, ⟨⟨hy0, hy⟩, hye⟩, ha⟩ := hc
      refine ⟨_, _, _, h, fun f => ?_⟩
      obtain ⟨s, rfl⟩ : ∃ n : Nat, s = n := ⟨s.toNat, by omega⟩
      obtain ⟨y, rfl⟩ : ∃ n : Nat, y = n := ⟨y.toNat, by omega⟩
      have hLn : L.length = s * s := by
        have : ((s * s : Nat) : Int) = (s : Int) * (s : Int) := by simp
        omega
      have hl := loop27 s (y / 2) o2 hd L f acc (by omega) (by omega) hLn (by omega) (by omega) 0 (by omega)
      rw [show 2 * (y / 2) = y by omega, show coarR L s (y / 2) 0 = [] from rfl, List.append_nil] at hl
      exact CodeOkN.full (CodeOkN.enter [(4, true)] (st1 := S27 s y o2 hd L f 0 acc) (by kernel_rfl) rfl rfl hl) rfl
    · cases h
  · cases h
abbrev k27o : List Nat := [0, 1, 4, 5]
abbrev t27o : List Nat := [6, 7] ++ (List.range 41).map (· + 8)
def S27o (s : Int) (o2 hd : Bool) (L : List AV) (f : Nat → Value) (y : Int) (acc : List AV) : St :=
  ⟨tmF k27o t27o [.vec 0, i64 s, .vec 2, i64 y] f 50 0, ⟨[], [eC o2 hd L, none, eH 2 true acc]⟩⟩
noncomputable def cMo : CallSem := cM.withLoops (tabL [(5, coar_L)])
theorem cMo_sound : cMo.Sound Try.prog := CallSem.withLoops_sound cM_sound _
theorem raw27o (s : Int) (o2 hd : Bool) (L : List AV) (f : Nat → Value) (y : Int) (acc : List AV) : turnK cMo Try.prog 1 L27o k27o t27o 0 2 (S27o s o2 hd L f y acc) =
    bif decide (y < s) then (bif true && gCy s y L acc then some (.normal, S27o s o2 hd L f (wi (y + 2)) (acc ++ coarR L s.toNat (y.toNat / 2) (s.toNat / 2))) else none) else some (.exit 0, S27o s o2 hd L f y acc) := by kernel_rfl
theorem gCy_ok {s r : Nat} {L acc : List AV} (h2 : s = 2 * (s / 2)) (hs : s ≤ 32) (hL : L.length = s * s) (hr : r < s / 2) (ha : acc.length ≤ 1024) : gCy (s : Nat) ((2 * r : Nat) : Int) L acc = true := by
  have e : ((L.length : Nat) : Int) = (s : Int) * (s : Int) := by rw [hL]; simp
  unfold gCy gC
  rw [decide_eq_true e, decide_eq_true ha, decide_eq_true (show (2 : Int) ≤ (s : Nat) by omega), decide_eq_true (show ((s : Nat) : Int) ≤ 32 by omega), decide_eq_true (show ((s : Nat) : Int) % 2 = 0 by omega), decide_eq_true (show (0 : Int) ≤ ((2 * r : Nat) : Int) by omega), decide_eq_true (show ((2 * r : Nat) : Int) < (s : Nat) by omega), decide_eq_true (show ((2 * r : Nat) : Int) % 2 = 0 by omega)]
  rfl
theorem loop27o (s : Nat) (o2 hd : Bool) (L : List AV) (f : Nat → Value) (h2 : s = 2 * (s / 2)) (hs : s ≤ 32) (hL : L.length = s * s) (r : Nat) (hr : r ≤ s / 2) :
    CodeOkN 0 2 Try.prog (.loop L27o) (S27o (s : Nat) o2 hd L f ((2 * r : Nat) : Int) (coarP L s (s / 2 * r))) (.exit 0) (S27o (s : Nat) o2 hd L f (s : Nat) (coarL L s)) := by
  refine loop_ok (fun r : Nat => S27o (s : Nat) o2 hd L f ((2 * r : Nat) : Int) (coarP L s (s / 2 * r))) (fun _ => (.exit 0, S27o (s : Nat) o2 hd L f (s : Nat) (coarL L s))) (fun r => if r < s / 2 then some (r + 1) else none) (fun r => s / 2 - r) (fun r => r ≤ s / 2) ?_ ?_ r hr
  · rintro j h hn
    refine ⟨fun e => (by cases e), ?_⟩
    have hjn : j = s / 2 := by
      by_cases hh : j < s / 2
      · simp [hh] at hn
      · omega
    subst hjn
    refine turn_ok (C := cMo) (n := 1) cMo_sound mixed (tab_ok (P := Try.prog) (ts := [(5, coar_L)]) (fn := { Try.f27 with body := some L27o }) (cs := [.loop L27]) (by kernel_rfl) (by kernel_rfl) ⟨⟨by kernel_rfl, coar_Lok⟩, trivial⟩ L27o rfl) rfl rfl ?_
    rw [raw27o, decide_eq_false (by omega), cond_false, show 2 * (s / 2) = s by omega]
    rfl
  · rintro r s' h hn
    by_cases hh : r < s / 2
    · simp only [hh, if_true, Option.some.injEq] at hn
      subst hn
      refine ⟨by omega, by omega, rfl, turn_ok (C := cMo) (n := 1) cMo_sound mixed (tab_ok (P := Try.prog) (ts := [(5, coar_L)]) (fn := { Try.f27 with body := some L27o }) (cs := [.loop L27]) (by kernel_rfl) (by kernel_rfl) ⟨⟨by kernel_rfl, coar_Lok⟩, trivial⟩ L27o rfl) rfl rfl ?_⟩
      have hm : s / 2 * r ≤ 16 * 16 := Nat.mul_le_mul (by omega) (by omega)
      rw [raw27o, decide_eq_true (by omega), cond_true, gCy_ok h2 hs hL hh (by rw [coarP_len]; omega), wi_id (by omega) (by omega), show ((2 * r : Nat) : Int) + 2 = ((2 * (r + 1) : Nat) : Int) by omega, show ((s : Nat) : Int).toNat = s by omega, show ((2 * r : Nat) : Int).toNat / 2 = r by omega, ← coarP_row]
      rfl
    · simp [hh] at hn
def coaro_L : LSpec where
  n := 50
  nils := [⟨4, 39, true, c4⟩]
  keep := k27o
  touch := t27o
  run kv M k := match kv, M with
    | [.vec h0, .lit (.int .i64 s), .vec h1, .lit (.int .i64 y)], ⟨[], [some ⟨el, true, sh, tr, o2, hd, L⟩, some ⟨el', true, sh', tr', true, true, []⟩]⟩ =>
      bif decide (h0 = 0) && decide (h1 = 1) && decide (el = 39) && decide (sh = c4) && decide (tr = 0) && decide (el' = 39) && decide (sh' = c4) && decide (tr' = 1) && decide (y = 0) && gC s L then
        k (.exit 0) [.vec 0, i64 s, .vec 2, i64 s] ⟨[], [eC o2 hd L, none, eH 2 true (coarL L s.toNat)]⟩ else none
    | _, _ => none
theorem coaro_Lok : coaro_L.Ok Try.prog (.loop L27o) := by
  intro R kv M k r h
  simp only [coaro_L, gC] at h
  split at h
  · rename_i h0 s h1 y el sh tr o2 hd L el' sh' tr'
    simp only [cond_eq_ite, Bool.and_eq_true, decide_eq_true_eq] at h
    split at h
    · rename_i hc
      obtain ⟨⟨⟨⟨⟨⟨⟨⟨⟨rfl, rfl⟩, rfl⟩, rfl⟩, rfl⟩, rfl⟩, rfl⟩, rfl⟩, rfl⟩, ⟨⟨hs2, hs⟩, hse⟩, hL⟩ := hc
      refine ⟨_, _, _, h, fun f => ?_⟩
      obtain ⟨s, rfl⟩ : ∃ n : Nat, s = n := ⟨s.toNat, by omega⟩
      have hLn : L.length = s * s := by
        have : ((s * s : Nat) : Int) = (s : Int) * (s : Int) := by simp
        omega
      have hl := loop27o s o2 hd L f (by omega) (by omega) hLn 0 (by omega)
      exact CodeOkN.full (CodeOkN.enter [(4, true)] (st1 := S27o s o2 hd L f 0 []) (by kernel_rfl) rfl rfl hl) rfl
    · cases h
  · cases h
noncomputable def C27 : CallSem := CallSem.nil.withLoops (tabL [(2, coaro_L)])
theorem C27_sound : C27.Sound Try.prog := CallSem.withLoops_sound nilS _
theorem C27_loops : ∀ c, Try.f27.body = some c → LoopsOk Try.prog C27.loops c := tab_ok (cs := [.loop L27o]) (by kernel_rfl) (by kernel_rfl) ⟨⟨by kernel_rfl, coaro_Lok⟩, trivial⟩
abbrev mC (o2 hd : Bool) (L : List AV) : Mem := ⟨[], [eC o2 hd L]⟩
theorem coar_raw (o2 hd : Bool) (L : List AV) (s : Int) : fnK C27 Try.prog 2 Try.f27 [.vec 0, i64 s] (mC o2 hd L) [] = bif true && gC s L then some (.vec 1, ⟨[], [eC o2 hd L, eH 1 true (coarL L s.toNat)]⟩) else none := by kernel_rfl
def coar_M : MSpec := ⟨[], fun args M k => match args, M with
  | [.vec h0, .lit (.int .i64 s)], ⟨[], [some ⟨el, true, sh, tr, o2, hd, L⟩]⟩ =>
    bif decide (h0 = 0) && decide (el = 39) && decide (sh = c4) && decide (tr = 0) && gC s L then k (.vec 1) ⟨[], [eC o2 hd L, eH 1 true (coarL L s.toNat)]⟩ else none
  | _, _ => none⟩
theorem coar_Mok : coar_M.Ok Try.prog 27 := by
  intro R args M k r h
  simp only [coar_M] at h
  split at h
  · rename_i h0 s el sh tr o2 hd L
    simp only [cond_eq_ite, Bool.and_eq_true, decide_eq_true_eq] at h
    split at h
    · rename_i hc
      obtain ⟨⟨⟨⟨rfl, rfl⟩, rfl⟩, rfl⟩, hg⟩ := hc
      exact ⟨_, _, h, fn_ok (C := C27) (n := 2) (ts := []) C27_sound mixed s27 C27_loops ((coar_raw o2 hd L s).trans (by rw [hg]; rfl)) rfl⟩
    · cases h
  · cases h
end Go.Proofs.Ytfnpnenndbdcpaa

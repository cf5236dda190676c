/- extent's functions: Used, same, may, in, New, Copy (chapter 9). -/
import Derived.Test.YticmpcloehnoaaaL9C
set_option linter.unusedVariables false
set_option linter.unusedSimpArgs false
namespace Go.Proofs.Yticmpcloehnoaaa
open Go Go.Sx Go.Fx
set_option maxRecDepth 100000
set_option linter.unusedVariables false
set_option linter.unusedSimpArgs false
/-! Used -/
theorem loop16 (o2 hd : Bool) (L : List AV) (f : Nat → Value) (hL : L.length ≤ 65536) (j : Nat) (hj : j ≤ L.length) :
    CodeOkN 0 1 Try.prog (.loop L16) (S16 (L.length : Nat) o2 hd L f (usedN L j : Nat) (j : Nat)) (.exit 0) (S16 (L.length : Nat) o2 hd L f (usedN L L.length : Nat) (L.length : Nat)) := by
  refine loop_ok (fun j : Nat => S16 (L.length : Nat) o2 hd L f (usedN L j : Nat) (j : Nat)) (fun _ => (.exit 0, S16 (L.length : Nat) o2 hd L f (usedN L L.length : Nat) (L.length : Nat))) (fun j => if j < L.length then some (j + 1) else none)
    (fun j => L.length - j) (fun j => j ≤ L.length) ?_ ?_ j hj
  · intro j h1 hnx
    refine ⟨fun e => (by cases e), ?_⟩
    have hj : j = L.length := by
      by_cases h : j < L.length
      · simp [h] at hnx
      · omega
    subst hj
    exact turn_ok (n := 1) nilS mixed (LoopsOk.no _ _) rfl rfl (by rw [raw16, decide_eq_false (by omega), cond_false]; rfl)
  · intro j s' h1 hnx
    by_cases h2 : j < L.length
    · simp only [h2, if_true, Option.some.injEq] at hnx
      subst hnx
      have hu := usedN_le L j
      refine ⟨by omega, by omega, rfl, turn_ok (n := 1) nilS mixed (LoopsOk.no _ _) rfl rfl ?_⟩
      rw [raw16, decide_eq_true (by omega), cond_true, ix_in h2, wi_s (a := ((usedN L j : Nat) : Int) + 1) (by omega) (by omega), wi_s (by omega) (by omega), usedN, show atB L ((j : Nat) : Int) = bA L j from rfl]
      rw [show ((j : Nat) : Int) + 1 = ((j + 1 : Nat) : Int) by omega]
      cases bA L j
      · rfl
      · simp only [cond_true]; rw [show ((usedN L j : Nat) : Int) + 1 = ((usedN L j + 1 : Nat) : Int) by omega]; rfl
    · simp [h2] at hnx
def used_L : LSpec where
  n := 21
  nils := []
  keep := k16
  touch := t16
  run kv M k := match kv, M with
    | [.lit (.int .i64 c), .vec h0, .lit (.int .i64 n), .lit (.int .i64 i)], ⟨[], [some ⟨el, false, sh, tr, o2, hd, L⟩]⟩ =>
      bif decide (h0 = 0) && decide (el = 4) && decide (sh = cB) && decide (tr = 0) && decide (c = 0) && decide (i = 0) && decide (n = (L.length : Int)) && decide (L.length ≤ 65536) then
        k (.exit 0) [i64 (usedN L L.length : Nat), .vec 0, i64 n, i64 n] (rB o2 hd L) else none
    | _, _ => none
theorem used_Lok : used_L.Ok Try.prog (.loop L16) := by
  intro R kv M k r h
  simp only [used_L] at h
  split at h
  · rename_i c h0 n i el sh tr o2 hd L
    simp only [cond_eq_ite, Bool.and_eq_true, decide_eq_true_eq] at h
    split at h
    · rename_i hc
      obtain ⟨⟨⟨⟨⟨⟨⟨rfl, rfl⟩, rfl⟩, rfl⟩, rfl⟩, rfl⟩, rfl⟩, hL⟩ := hc
      refine ⟨_, _, _, h, fun f => ?_⟩
      exact CodeOkN.full (loop16 o2 hd L f hL 0 (Nat.zero_le _)) rfl
    · cases h
  · cases h
theorem s16 : Sx.Enters Try.prog 16 Try.f16 := ⟨Try.func16, by kernel_rfl, by kernel_rfl⟩
noncomputable def C16 : CallSem := CallSem.nil.withLoops (one 4 used_L)
theorem C16_sound : C16.Sound Try.prog := CallSem.withLoops_sound nilS _
theorem C16_loops : ∀ c, Try.f16.body = some c → LoopsOk Try.prog C16.loops c := one_ok nodes16 used_Lok
theorem used_eq (own o2 hd : Bool) (L : List AV) : fnK C16 Try.prog 2 Try.f16 [.ptr 0 0] (mR 51 own o2 hd L) [] =
    bif true && decide ((L.length : Int) = (L.length : Int)) && decide (L.length ≤ 65536) then some (i64 (usedN L L.length : Nat), mR 51 own o2 hd L) else none := by kernel_rfl
theorem used_nil : fnK C16 Try.prog 2 Try.f16 [nilp] ⟨[], []⟩ [] = some (i64 0, ⟨[], []⟩) := by kernel_rfl
def used_M : MSpec := ⟨[], fun args M k => match args, M with
  | [.lit (.pointer none)], ⟨[], []⟩ => k (i64 0) ⟨[], []⟩
  | [.ptr b q], ⟨[some ⟨bt, own, [.vec h0]⟩], [some ⟨el, false, sh, tr, o2, hd, L⟩]⟩ =>
    bif decide (b = 0) && decide (q = 0) && decide (bt = 51) && decide (h0 = 0) && decide (el = 4) && decide (sh = cB) && decide (tr = 0) && decide (L.length ≤ 65536) then k (i64 (usedN L L.length : Nat)) (mR 51 own o2 hd L) else none
  | _, _ => none⟩
theorem used_Mok : used_M.Ok Try.prog 16 := by
  intro R args M k r h
  simp only [used_M] at h
  split at h
  · exact ⟨_, _, h, fn_ok (C := C16) (n := 2) (ts := []) C16_sound mixed s16 C16_loops used_nil rfl⟩
  · rename_i b q bt own h0 el sh tr o2 hd L
    simp only [cond_eq_ite, Bool.and_eq_true, decide_eq_true_eq] at h
    split at h
    · rename_i hc
      obtain ⟨⟨⟨⟨⟨⟨⟨rfl, rfl⟩, rfl⟩, rfl⟩, rfl⟩, rfl⟩, rfl⟩, hg⟩ := hc
      refine ⟨_, _, h, fn_ok (C := C16) (n := 2) (ts := []) C16_sound mixed s16 C16_loops ((used_eq own o2 hd L).trans ?_) rfl⟩
      rw [decide_eq_true hg, decide_eq_true rfl]; rfl
    · cases h
  · cases h
theorem loop17 (own o2 hd : Bool) (L : List AV) (f : Nat → Value) (hL : L.length ≤ 65536) (j : Nat) (hj : j ≤ L.length) :
    CodeOkN 1 1 Try.prog (.loop L17) (S17 own o2 hd L f (usedN L j : Nat) (j : Nat)) (.exit 0) (S17 own o2 hd L f (usedN L L.length : Nat) (L.length : Nat)) := by
  refine loop_ok (fun j : Nat => S17 own o2 hd L f (usedN L j : Nat) (j : Nat)) (fun _ => (.exit 0, S17 own o2 hd L f (usedN L L.length : Nat) (L.length : Nat))) (fun j => if j < L.length then some (j + 1) else none)
    (fun j => L.length - j) (fun j => j ≤ L.length) ?_ ?_ j hj
  · intro j h1 hnx
    refine ⟨fun e => (by cases e), ?_⟩
    have hj : j = L.length := by
      by_cases h : j < L.length
      · simp [h] at hnx
      · omega
    subst hj
    exact turn_ok (n := 1) nilS mixed (LoopsOk.no _ _) rfl rfl (by rw [raw17, decide_eq_false (by omega), cond_false]; rfl)
  · intro j s' h1 hnx
    by_cases h2 : j < L.length
    · simp only [h2, if_true, Option.some.injEq] at hnx
      subst hnx
      have hu := usedN_le L j
      refine ⟨by omega, by omega, rfl, turn_ok (n := 1) nilS mixed (LoopsOk.no _ _) rfl rfl ?_⟩
      rw [raw17, decide_eq_true (by omega), cond_true, ix_in h2, wi_s (a := ((usedN L j : Nat) : Int) + 1) (by omega) (by omega), wi_s (by omega) (by omega), usedN, show atB L ((j : Nat) : Int) = bA L j from rfl]
      rw [show ((j : Nat) : Int) + 1 = ((j + 1 : Nat) : Int) by omega]
      cases bA L j
      · rfl
      · simp only [cond_true]; rw [show ((usedN L j : Nat) : Int) + 1 = ((usedN L j + 1 : Nat) : Int) by omega]; rfl
    · simp [h2] at hnx
def rused_L : LSpec where
  n := 24
  nils := []
  keep := k17
  touch := t17
  run kv M k := match kv, M with
    | [.ptr b q, .lit (.int .i64 c), .lit (.int .i64 i)], ⟨[some ⟨bt, own, [.vec h0]⟩], [some ⟨el, false, sh, tr, o2, hd, L⟩]⟩ =>
      bif decide (b = 0) && decide (q = 0) && decide (bt = 53) && decide (h0 = 0) && decide (el = 4) && decide (sh = cB) && decide (tr = 0) && decide (c = 0) && decide (i = 0) && decide (L.length ≤ 65536) then
        k (.exit 0) [.ptr 0 0, i64 (usedN L L.length : Nat), i64 (L.length : Nat)] (mR 53 own o2 hd L) else none
    | _, _ => none
theorem rused_Lok : rused_L.Ok Try.prog (.loop L17) := by
  intro R kv M k r h
  simp only [rused_L] at h
  split at h
  · rename_i b q c i bt own h0 el sh tr o2 hd L
    simp only [cond_eq_ite, Bool.and_eq_true, decide_eq_true_eq] at h
    split at h
    · rename_i hc
      obtain ⟨⟨⟨⟨⟨⟨⟨⟨⟨rfl, rfl⟩, rfl⟩, rfl⟩, rfl⟩, rfl⟩, rfl⟩, rfl⟩, rfl⟩, hL⟩ := hc
      refine ⟨_, _, _, h, fun f => ?_⟩
      exact CodeOkN.full (loop17 own o2 hd L f hL 0 (Nat.zero_le _)) rfl
    · cases h
  · cases h
theorem s17 : Sx.Enters Try.prog 17 Try.f17 := ⟨Try.func17, by kernel_rfl, by kernel_rfl⟩
noncomputable def C17 : CallSem := CallSem.nil.withLoops (one 3 rused_L)
theorem C17_sound : C17.Sound Try.prog := CallSem.withLoops_sound nilS _
theorem C17_loops : ∀ c, Try.f17.body = some c → LoopsOk Try.prog C17.loops c := one_ok nodes17 rused_Lok
theorem rused_eq (own o2 hd : Bool) (L : List AV) : fnK C17 Try.prog 2 Try.f17 [.ptr 0 0] (mR 53 own o2 hd L) [] =
    bif true && decide (L.length ≤ 65536) then some (i64 (usedN L L.length : Nat), mR 53 own o2 hd L) else none := by kernel_rfl
def rused_M : MSpec := ⟨[], fun args M k => match args, M with
  | [.ptr b q], ⟨[some ⟨bt, own, [.vec h0]⟩], [some ⟨el, false, sh, tr, o2, hd, L⟩]⟩ =>
    bif decide (b = 0) && decide (q = 0) && decide (bt = 53) && decide (h0 = 0) && decide (el = 4) && decide (sh = cB) && decide (tr = 0) && decide (L.length ≤ 65536) then k (i64 (usedN L L.length : Nat)) (mR 53 own o2 hd L) else none
  | _, _ => none⟩
theorem rused_Mok : rused_M.Ok Try.prog 17 := by
  intro R args M k r h
  simp only [rused_M] at h
  split at h
  · rename_i b q bt own h0 el sh tr o2 hd L
    simp only [cond_eq_ite, Bool.and_eq_true, decide_eq_true_eq] at h
    split at h
    · rename_i hc
      obtain ⟨⟨⟨⟨⟨⟨⟨rfl, rfl⟩, rfl⟩, rfl⟩, rfl⟩, rfl⟩, rfl⟩, hg⟩ := hc
      refine ⟨_, _, h, fn_ok (C := C17) (n := 2) (ts := []) C17_sound mixed s17 C17_loops ((rused_eq own o2 hd L).trans ?_) rfl⟩
      rw [decide_eq_true hg]; rfl
    · cases h
  · cases h
/-! same -/
def c2I (x : AV) : List Int := [cI x 0, cI x 1]
theorem turn18 (el el' : TypeId) (o h o' h' : Bool) (L X : List AV) (b : Bool) (f : Nat → Value) (j : Nat) (hX : X.length = L.length) (hL : L.length ≤ 65536) (hj : j < L.length) (he : c2I (L.getD j .bad) = c2I (X.getD j .bad)) :
    turnK CallSem.nil Try.prog 1 L18 k18 t18 0 2 (S18 el el' o h o' h' L X b f (j : Nat)) = some (.normal, S18 el el' o h o' h' L X b f ((j + 1 : Nat) : Int)) := by
  have e1 : wi (((j : Nat) : Int) + 1) = ((j + 1 : Nat) : Int) := by rw [wi_id (by omega) (by omega)]; omega
  simp only [c2I, List.cons.injEq, and_true] at he
  rw [raw18, e1, decide_eq_true (by omega), cond_true, ix_in hj, ix_in (by omega)]
  rw [Int.toNat_natCast, he.1, he.2]
  simp
theorem loop18 (el el' : TypeId) (o h o' h' : Bool) (L X : List AV) (b : Bool) (f : Nat → Value) (hX : L.map c2I = X.map c2I) (hL : L.length ≤ 65536) (j : Nat) (hi : j ≤ L.length) :
    CodeOkN 0 2 Try.prog (.loop L18) (S18 el el' o h o' h' L X b f (j : Nat)) (.exit 0) (S18 el el' o h o' h' L X b f (L.length : Nat)) := by
  have hl : X.length = L.length := by have := congrArg List.length hX; simpa using this.symm
  refine loop_ok (fun j : Nat => S18 el el' o h o' h' L X b f (j : Nat)) (fun _ => (.exit 0, S18 el el' o h o' h' L X b f (L.length : Nat))) (fun j => if j < L.length then some (j + 1) else none)
    (fun j => L.length - j) (fun j => j ≤ L.length) ?_ ?_ j hi
  · intro j h1 hn
    refine ⟨fun e => (by cases e), ?_⟩
    have hj : j = L.length := by
      by_cases h : j < L.length
      · simp [h] at hn
      · omega
    subst hj
    exact turn_ok (n := 1) nilS mixed (LoopsOk.no _ _) rfl rfl (by rw [raw18, decide_eq_false (by omega), cond_false]; rfl)
  · intro j s' h1 hn
    by_cases h2 : j < L.length
    · simp only [h2, if_true, Option.some.injEq] at hn
      subst hn
      refine ⟨by omega, by omega, rfl, turn_ok (n := 1) nilS mixed (LoopsOk.no _ _) rfl rfl (turn18 el el' o h o' h' L X b f j hl hL h2 ?_)⟩
      have := congrArg (fun l => l[j]?) hX
      simp only [List.getElem?_map, List.getElem?_eq_getElem h2, List.getElem?_eq_getElem (show j < X.length by omega), Option.map_some, Option.some.injEq] at this
      simpa [List.getD, List.getElem?_eq_getElem h2, List.getElem?_eq_getElem (show j < X.length by omega)] using this
    · simp [h2] at hn
def same_L : LSpec where
  n := 26
  nils := [⟨0, 48, true, cR⟩, ⟨1, 48, true, cR⟩]
  keep := k18
  touch := t18
  run kv M k := match kv, M with
    | [.vec h0, .vec h1, .lit (.bool b), .lit (.int .i64 i)], ⟨[], [some ⟨el, true, sh, t0, o, h, L⟩, some ⟨el', true, sh', t1, o', h', X⟩]⟩ =>
      bif decide (h0 = 0) && decide (h1 = 1) && decide (t0 = 0) && decide (t1 = 1) && decide (sh = cR) && decide (sh' = cR) && decide (i = 0) && decide (L.map c2I = X.map c2I) && decide (L.length ≤ 65536) then
        k (.exit 0) [.vec 0, .vec 1, .lit (.bool b), i64 (L.length : Nat)] ⟨[], [some ⟨el, true, cR, 0, o, h, L⟩, some ⟨el', true, cR, 1, o', h', X⟩]⟩
      else none
    | _, _ => none
theorem same_Lok : same_L.Ok Try.prog (.loop L18) := by
  intro R kv M k r h
  simp only [same_L] at h
  split at h
  · rename_i h0 h1 b i el sh t0 o hh L el' sh' t1 o' hh' X
    simp only [cond_eq_ite, Bool.and_eq_true, decide_eq_true_eq] at h
    split at h
    · rename_i hc
      obtain ⟨⟨⟨⟨⟨⟨⟨⟨rfl, rfl⟩, rfl⟩, rfl⟩, rfl⟩, rfl⟩, rfl⟩, hX⟩, hn⟩ := hc
      refine ⟨_, _, _, h, fun f => ?_⟩
      exact CodeOkN.full (loop18 el el' o hh o' hh' L X b f hX hn 0 (Nat.zero_le _)) rfl
    · cases h
  · cases h
theorem s18 : Sx.Enters Try.prog 18 Try.f18 := ⟨Try.func18, by kernel_rfl, by kernel_rfl⟩
noncomputable def C18 : CallSem := CallSem.nil.withLoops (one 4 same_L)
theorem C18_sound : C18.Sound Try.prog := CallSem.withLoops_sound nilS _
theorem C18_loops : ∀ c, Try.f18.body = some c → LoopsOk Try.prog C18.loops c := one_ok nodes18 same_Lok
theorem same_eq (el el' : TypeId) (o h o' h' : Bool) (L X : List AV) (hX : L.map c2I = X.map c2I) (hn : L.length ≤ 65536) : fnK C18 Try.prog 2 Try.f18 [.vec 0, .vec 1] ⟨[], [some ⟨el, true, cR, 0, o, h, L⟩, some ⟨el', true, cR, 1, o', h', X⟩]⟩ [] =
    some (.lit (.bool true), ⟨[], [some ⟨el, true, cR, 0, o, h, L⟩, some ⟨el', true, cR, 1, o', h', X⟩]⟩) := by
  have e : fnK C18 Try.prog 2 Try.f18 [.vec 0, .vec 1] ⟨[], [some ⟨el, true, cR, 0, o, h, L⟩, some ⟨el', true, cR, 1, o', h', X⟩]⟩ [] =
    (bif (L.length : Int) != (X.length : Int) then some (.lit (.bool false), ⟨[], [some ⟨el, true, cR, 0, o, h, L⟩, some ⟨el', true, cR, 1, o', h', X⟩]⟩) else
     bif true && decide (L.map c2I = X.map c2I) && decide (L.length ≤ 65536) then some (.lit (.bool true), ⟨[], [some ⟨el, true, cR, 0, o, h, L⟩, some ⟨el', true, cR, 1, o', h', X⟩]⟩) else none) := by kernel_rfl
  have hl : L.length = X.length := by have := congrArg List.length hX; simpa using this
  rw [e, decide_eq_true hX, decide_eq_true hn, hl]
  simp
def same_M : MSpec where
  nils := [⟨0, 48, true, cR⟩, ⟨1, 48, true, cR⟩]
  run args M k := match args, M with
    | [.vec h0, .vec h1], ⟨[], [some ⟨el, true, sh, t0, o, h, L⟩, some ⟨el', true, sh', t1, o', h', X⟩]⟩ =>
      bif decide (h0 = 0) && decide (h1 = 1) && decide (t0 = 0) && decide (t1 = 1) && decide (sh = cR) && decide (sh' = cR) && decide (L.map c2I = X.map c2I) && decide (L.length ≤ 65536) then
        k (.lit (.bool true)) ⟨[], [some ⟨el, true, cR, 0, o, h, L⟩, some ⟨el', true, cR, 1, o', h', X⟩]⟩
      else none
    | _, _ => none
theorem same_Mok : same_M.Ok Try.prog 18 := by
  intro R args M k r h
  simp only [same_M] at h
  split at h
  · rename_i h0 h1 el sh t0 o hh L el' sh' t1 o' hh' X
    simp only [cond_eq_ite, Bool.and_eq_true, decide_eq_true_eq] at h
    split at h
    · rename_i hc
      obtain ⟨⟨⟨⟨⟨⟨⟨rfl, rfl⟩, rfl⟩, rfl⟩, rfl⟩, rfl⟩, hX⟩, hn⟩ := hc
      exact ⟨_, _, h, fn_ok (C := C18) (n := 2) (ts := []) C18_sound mixed s18 C18_loops (same_eq el el' o hh o' hh' L X hX hn) rfl⟩
    · cases h
  · cases h
end Go.Proofs.Yticmpcloehnoaaa

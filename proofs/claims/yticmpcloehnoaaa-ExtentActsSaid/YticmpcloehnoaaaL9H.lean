/- the document's Free (chapter 9). -/
import Derived.Test.YticmpcloehnoaaaL9G
set_option linter.unusedVariables false
set_option linter.unusedSimpArgs false
namespace Go.Proofs.Yticmpcloehnoaaa
open Go Go.Sx Go.Fx
set_option maxRecDepth 100000
set_option linter.unusedVariables false
set_option linter.unusedSimpArgs false
def kI (acc : List AV) : Int := wi ((acc.length : Int) - 1)
def bumpX {α : Type} (acc : List AV) (R : Option α) : Option α :=
  if 0 ≤ kI acc ∧ kI acc < (acc.length : Int) then (if (kI acc).toNat < acc.length then (if 0 ≤ kI acc ∧ kI acc < (acc.length : Int) then (if (kI acc).toNat < acc.length then R else none) else none) else none) else none
theorem raw15 (own o2 hd : Bool) (L : List AV) (f : Nat → Value) (acc : List AV) (i : Int) : turnK CallSem.nil Try.prog 1 L15 k15 t15 1 2 (S15 own o2 hd L f acc i) =
    (bif decide (i < (L.length : Int)) then ix L i (bif atB L i then some (.normal, S15 own o2 hd L f acc (wi (i + 1))) else
      bif decide (i > 0) then ix L (wi (i - 1)) (bif !atB L (wi (i - 1)) then bumpX acc (some (.normal, S15 own o2 hd L f (bumpV acc) (wi (i + 1)))) else
        (bif decide (acc.length + 1 ≤ 65536) && true && true && true && true then some (.normal, S15 own o2 hd L f (acc ++ [.agg [i64 i, i64 1]]) (wi (i + 1))) else none)) else
      (bif decide (acc.length + 1 ≤ 65536) && true && true && true && true then some (.normal, S15 own o2 hd L f (acc ++ [.agg [i64 i, i64 1]]) (wi (i + 1))) else none)) else some (.exit 0, S15 own o2 hd L f acc i)) := by kernel_rfl
theorem turn15 (own o2 hd : Bool) (L : List AV) (f : Nat → Value) {j : Nat} (hj : j < L.length) (hL : L.length ≤ 65535) : turnK CallSem.nil Try.prog 1 L15 k15 t15 1 2 (S15 own o2 hd L f ((refN L j).map rV) (j : Nat)) =
    some (.normal, S15 own o2 hd L f ((refN L (j + 1)).map rV) ((j + 1 : Nat) : Int)) := by
  have e1 : wi (((j : Nat) : Int) + 1) = ((j + 1 : Nat) : Int) := by rw [wi_id (by omega) (by omega)]; omega
  have hlen := ref_len L j
  rw [raw15, e1, decide_eq_true (by omega), cond_true, ix_in hj, show atB L ((j : Nat) : Int) = bA L j from rfl, refN, stepR]
  cases hb : bA L j
  · simp only [cond_false]
    cases j with
    | zero =>
      rw [show refN L 0 = [] from rfl]
      rfl
    | succ p =>
      have ep : wi (((p + 1 : Nat) : Int) - 1) = (p : Int) := by rw [wi_id (by omega) (by omega)]; omega
      rw [decide_eq_true (show ((p + 1 : Nat) : Int) > 0 by omega), cond_true, ep, ix_in (by omega), show atB L ((p : Nat) : Int) = bA L p from rfl, decide_eq_true (show 0 < p + 1 by omega), Nat.add_sub_cancel, Bool.true_and]
      cases hp : bA L p
      · have hne := ref_ne L p hp
        have hbd := ref_bd L (p + 1)
        have hk : kI ((refN L (p + 1)).map rV) = (((refN L (p + 1)).length - 1 : Nat) : Int) := by
          have : 0 < (refN L (p + 1)).length := List.length_pos_iff.2 hne
          unfold kI
          rw [List.length_map, wi_id (by omega) (by omega)]; omega
        have hpos : 0 < (refN L (p + 1)).length := List.length_pos_iff.2 hne
        simp only [Bool.not_false, cond_true]
        unfold bumpX
        rw [hk, if_pos (by rw [List.length_map]; omega), if_pos (by rw [List.length_map]; omega), if_pos (by rw [List.length_map]; omega), if_pos (by rw [List.length_map]; omega), bumpV_map hne (by omega) (fun r hr => by have := hbd r hr; omega)]
      · simp only [Bool.not_true, cond_false]
        rw [List.length_map, decide_eq_true (by omega)]
        simp only [Bool.and_self, cond_true, List.map_append]
        rfl
  · rfl
theorem loop15 (own o2 hd : Bool) (L : List AV) (f : Nat → Value) (hL : L.length ≤ 65535) (j : Nat) (hj : j ≤ L.length) :
    CodeOkN 1 2 Try.prog (.loop L15) (S15 own o2 hd L f ((refN L j).map rV) (j : Nat)) (.exit 0) (S15 own o2 hd L f ((runs L).map rV) (L.length : Nat)) := by
  rw [← ref_eq]
  refine loop_ok (fun j : Nat => S15 own o2 hd L f ((refN L j).map rV) (j : Nat)) (fun _ => (.exit 0, S15 own o2 hd L f ((refN L L.length).map rV) (L.length : Nat))) (fun j => if j < L.length then some (j + 1) else none)
    (fun j => L.length - j) (fun j => j ≤ L.length) ?_ ?_ j hj
  · intro j h1 hnx
    refine ⟨fun e => (by cases e), ?_⟩
    have hj : j = L.length := by
      by_cases h : j < L.length
      · simp [h] at hnx
      · omega
    subst hj
    exact turn_ok (n := 1) nilS mixed (LoopsOk.no _ _) rfl rfl (by rw [raw15, decide_eq_false (by omega), cond_false]; rfl)
  · intro j s' h1 hnx
    by_cases h2 : j < L.length
    · simp only [h2, if_true, Option.some.injEq] at hnx
      subst hnx
      exact ⟨by omega, by omega, rfl, turn_ok (n := 1) nilS mixed (LoopsOk.no _ _) rfl rfl (turn15 own o2 hd L f h2 hL)⟩
    · simp [h2] at hnx
def free_L : LSpec where
  n := 52
  nils := [⟨3, 48, true, cR⟩]
  keep := k15
  touch := t15
  run kv M k := match kv, M with
    | [.ptr b q, .vec h1, .lit (.int .i64 i)], ⟨[some ⟨bt, own, [.vec h0]⟩], [some ⟨el', true, sh', t1, true, true, []⟩, some ⟨el, false, sh, tr, o2, hd, L⟩]⟩ =>
      bif decide (b = 0) && decide (q = 0) && decide (h1 = 0) && decide (bt = 53) && decide (h0 = 1) && decide (el = 4) && decide (sh = cB) && decide (tr = 1) && decide (el' = 48) && decide (sh' = cR) && decide (t1 = 0) && decide (i = 0) && decide (L.length ≤ 65535) then
        k (.exit 0) [.ptr 0 0, .vec 2, i64 (L.length : Nat)] ⟨[some ⟨53, own, [.vec 1]⟩], [none, some ⟨4, false, cB, 1, o2, hd, L⟩, some ⟨48, true, cR, 2, true, true, (runs L).map rV⟩]⟩ else none
    | _, _ => none
theorem free_Lok : free_L.Ok Try.prog (.loop L15) := by
  intro R kv M k r h
  simp only [free_L] at h
  split at h
  · rename_i b q h1 i bt own h0 el' sh' t1 el sh tr o2 hd L
    simp only [cond_eq_ite, Bool.and_eq_true, decide_eq_true_eq] at h
    split at h
    · rename_i hc
      obtain ⟨⟨⟨⟨⟨⟨⟨⟨⟨⟨⟨⟨rfl, rfl⟩, rfl⟩, rfl⟩, rfl⟩, rfl⟩, rfl⟩, rfl⟩, rfl⟩, rfl⟩, rfl⟩, rfl⟩, hL⟩ := hc
      refine ⟨_, _, _, h, fun f => ?_⟩
      have hN := loop15 own o2 hd L f hL 0 (Nat.zero_le _)
      exact CodeOkN.full (CodeOkN.enter [(3, true)] (st1 := S15 own o2 hd L f [] 0) (by kernel_rfl) rfl rfl hN) rfl
    · cases h
  · cases h
theorem s15 : Sx.Enters Try.prog 15 Try.f15 := ⟨Try.func15, by kernel_rfl, by kernel_rfl⟩
noncomputable def C15 : CallSem := CallSem.nil.withLoops (one 3 free_L)
theorem C15_sound : C15.Sound Try.prog := CallSem.withLoops_sound nilS _
theorem C15_loops : ∀ c, Try.f15.body = some c → LoopsOk Try.prog C15.loops c := one_ok nodes15 free_Lok
abbrev mF (bt : TypeId) (own o2 hd : Bool) (L F : List AV) : Mem := ⟨[some ⟨bt, own, [.vec 0]⟩], [some ⟨4, false, cB, 0, o2, hd, L⟩, some ⟨48, true, cR, 1, true, true, F⟩]⟩
theorem rfree_raw (own o2 hd : Bool) (L : List AV) : fnK C15 Try.prog 2 Try.f15 [.ptr 0 0] (mR 53 own o2 hd L) [⟨0, 48, true, cR⟩] =
    (bif true && decide (L.length ≤ 65535) then some (.vec 1, mF 53 own o2 hd L ((runs L).map rV)) else none) := by kernel_rfl
def rfree_M : MSpec := ⟨[], fun args M k => match args, M with
  | [.ptr b q], ⟨[some ⟨bt, own, [.vec h0]⟩], [some ⟨el, false, sh, tr, o2, hd, L⟩]⟩ =>
    bif decide (b = 0) && decide (q = 0) && decide (bt = 53) && decide (h0 = 0) && decide (el = 4) && decide (sh = cB) && decide (tr = 0) && decide (L.length ≤ 65535) then k (.vec 1) (mF 53 own o2 hd L ((runs L).map rV)) else none
  | _, _ => none⟩
theorem rfree_Mok : rfree_M.Ok Try.prog 15 := by
  intro R args M k r h
  simp only [rfree_M] at h
  split at h
  · rename_i b q bt own h0 el sh tr o2 hd L
    simp only [cond_eq_ite, Bool.and_eq_true, decide_eq_true_eq] at h
    split at h
    · rename_i hc
      obtain ⟨⟨⟨⟨⟨⟨⟨rfl, rfl⟩, rfl⟩, rfl⟩, rfl⟩, rfl⟩, rfl⟩, hg⟩ := hc
      refine ⟨_, _, h, fn_ok (n := 2) (ts := [⟨0, 48, true, cR⟩]) C15_sound mixed s15 C15_loops ((rfree_raw own o2 hd L).trans ?_) rfl⟩
      rw [decide_eq_true hg]; rfl
    · cases h
  · cases h
end Go.Proofs.Yticmpcloehnoaaa

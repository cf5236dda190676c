/- ExtentActs: its loop (chapter 9). -/
import Derived.Test.YticmpcloehnoaaaL9U
set_option linter.unusedVariables false
set_option linter.unusedSimpArgs false
namespace Go.Proofs.Yticmpcloehnoaaa
open Go Go.Sx Go.Fx
set_option maxRecDepth 100000
set_option linter.unusedVariables false
set_option linter.unusedSimpArgs false
def actL (L : List AV) (x : AV) : List AV :=
  bif cI x 0 == 1 then takeL L (cI x 2) else bif cI x 0 == 2 then turnL L (cI x 1) (cI x 2) false else bif cI x 0 == 3 then turnL L (cI x 1) (cI x 2) true else L
theorem takeL_len (L : List AV) (n : Int) : (takeL L n).length = L.length := by
  unfold takeL
  cases decide (n < 1)
  · simp only [cond_false]
    cases fit L n.toNat with
    | none => rfl
    | some s => exact setN_len _ _ _ _
  · rfl
theorem actL_len (L : List AV) (x : AV) : (actL L x).length = L.length := by
  unfold actL
  cases cI x 0 == 1
  · cases cI x 0 == 2
    · cases cI x 0 == 3
      · rfl
      · exact turnL_len _ _ _ _
    · exact turnL_len _ _ _ _
  · exact takeL_len _ _
theorem gF_len {L L' : List AV} (h : L'.length = L.length) : gF L' = gF L := by unfold gF; rw [h]
theorem rest3_ok {α : Type} {L : List AV} (hg : gF L = true) (cop i : Int) (A B : α) : rest3 L cop i A B = some (bif i == cop then B else A) := by
  have hg' := hg
  simp only [gF, Bool.and_eq_true, decide_eq_true_eq] at hg'
  unfold rest3
  rw [decide_eq_true hg'.2, eqB_self, show (runs L).map rV = rowF L from rfl, eqB_self, hg, decide_eq_true hg'.1, decide_eq_true (show L.length ≤ 65536 by omega)]
  cases i == cop <;> rfl
theorem both3_ok {α : Type} (p q : Int) {L L' : List AV} (hl : L'.length = L.length) (hg : gF L = true) (e : Int) (cop i : Int) (F A B : List AV → α) : both3 p q L e L' cop i F A B = some (bif i == cop then B L' else A L') := by
  have hg' := hg
  simp only [gF, Bool.and_eq_true, decide_eq_true_eq] at hg'
  unfold both3
  rw [rest3_ok (by rw [gF_len hl]; exact hg), decide_eq_true (show L.length ≤ 65536 by omega)]
  simp
theorem tree3_ok {α : Type} {l L : List AV} {j : Nat} (hj : j < l.length) (hg : gF L = true) (cop : Int) (F A B : List AV → α) :
    tree3 l L cop j F A B = some (bif ((j : Nat) : Int) == cop then B (actL L (l.getD j .bad)) else A (actL L (l.getD j .bad))) := by
  have hg' := hg
  simp only [gF, Bool.and_eq_true, decide_eq_true_eq] at hg'
  unfold tree3 actL
  rw [ix_in hj]
  simp only [Int.toNat_natCast]
  cases h1 : cI (l.getD j .bad) 0 == 1
  · simp only [cond_false]
    cases h2 : cI (l.getD j .bad) 0 == 2
    · simp only [cond_false]
      cases h3 : cI (l.getD j .bad) 0 == 3
      · simp only [cond_false]
        exact rest3_ok hg _ _ _ _
      · simp only [cond_true]
        exact both3_ok _ _ (turnL_len _ _ _ _) hg _ _ _ _ _ _
    · simp only [cond_true]
      exact both3_ok _ _ (turnL_len _ _ _ _) hg _ _ _ _ _ _
  · simp only [cond_true]
    rw [rest3_ok (by rw [gF_len (takeL_len _ _)]; exact hg), decide_eq_true hg'.1, decide_eq_true hg'.2, decide_eq_true (show L.length ≤ 65536 by omega)]
    simp
def cpB (cop : Int) (j : Nat) : Bool := decide (0 ≤ cop) && decide (cop < (j : Int))
def SXY (el1 : TypeId) (o1 h1 : Bool) (l : List AV) (cop : Int) (z ow ow' hd hd' : Bool) (f : Nat → Value) (L0 : List AV) (j : Nat) : St :=
  bif cpB cop j then SY el1 o1 h1 l cop z ow ow' hd hd' f (foldJ actL l L0 j) (foldJ actL l L0 (cop.toNat + 1)) ((runs (foldJ actL l L0 (cop.toNat + 1))).map rV) (j : Nat)
    else SX el1 o1 h1 l cop z ow ow' hd hd' f (foldJ actL l L0 j) (j : Nat)
theorem stepXY (el1 : TypeId) (o1 h1 : Bool) {l : List AV} (hl : l.length ≤ 65536) (cop : Int) (z ow ow' hd hd' : Bool) (f : Nat → Value) {L0 : List AV} (hg : gF L0 = true) {j : Nat} (hj : j < l.length) :
    CodeOkN 2 4 Try.prog L3 (SXY el1 o1 h1 l cop z ow ow' hd hd' f L0 j) .normal (SXY el1 o1 h1 l cop z ow ow' hd hd' f L0 (j + 1)) := by
  have hgj : gF (foldJ actL l L0 j) = true := by rw [gF_len (foldJ_len actL_len l L0 j)]; exact hg
  have e1 : wi (((j : Nat) : Int) + 1) = ((j + 1 : Nat) : Int) := by rw [wi_s (by omega) (by omega)]; omega
  have ef : foldJ actL l L0 (j + 1) = actL (foldJ actL l L0 j) (l.getD j .bad) := rfl
  unfold SXY
  cases hc : cpB cop j
  · simp only [cond_false]
    by_cases hjc : ((j : Nat) : Int) = cop
    · have hc1 : cpB cop (j + 1) = true := by unfold cpB; rw [decide_eq_true (by omega), decide_eq_true (by omega)]; rfl
      rw [hc1, cond_true, show cop.toNat = j by omega]
      refine turn_ok (n := 1) cAj_sound mixed tab28_L3 rfl rfl ?_
      rw [rawX, decide_eq_true (by omega), cond_true, tree3_ok hj hgj, e1, show (((j : Nat) : Int) == cop) = true from beq_iff_eq.2 hjc, cond_true, ← ef]
      rfl
    · have hc1 : cpB cop (j + 1) = false := by
        unfold cpB at hc ⊢
        simp only [Bool.and_eq_false_iff, decide_eq_false_iff_not] at hc ⊢
        omega
      rw [hc1, cond_false]
      refine turn_ok (n := 1) cAj_sound mixed tab28_L3 rfl rfl ?_
      rw [rawX, decide_eq_true (by omega), cond_true, tree3_ok hj hgj, e1, show (((j : Nat) : Int) == cop) = false from beq_eq_false_iff_ne.2 hjc, cond_false, ← ef]
      rfl
  · have hcc := hc
    unfold cpB at hcc
    simp only [Bool.and_eq_true, decide_eq_true_eq] at hcc
    have hc1 : cpB cop (j + 1) = true := by unfold cpB; rw [decide_eq_true (by omega), decide_eq_true (by omega)]; rfl
    rw [hc1]
    simp only [cond_true]
    refine turn_ok (n := 1) cAj_sound mixed tab28_L3 rfl rfl ?_
    rw [rawY, decide_eq_true (by omega), cond_true, tree3_ok hj hgj, e1, show (((j : Nat) : Int) == cop) = false from beq_eq_false_iff_ne.2 (by omega), cond_false, ← ef]
    rfl
theorem loop3 (el1 : TypeId) (o1 h1 : Bool) {l : List AV} (hl : l.length ≤ 65536) (cop : Int) (z ow ow' hd hd' : Bool) (f : Nat → Value) {L0 : List AV} (hg : gF L0 = true) (j : Nat) (hj : j ≤ l.length) :
    CodeOkN 2 4 Try.prog (.loop L3) (SXY el1 o1 h1 l cop z ow ow' hd hd' f L0 j) (.exit 0) (SXY el1 o1 h1 l cop z ow ow' hd hd' f L0 l.length) := by
  refine loop_ok (fun j : Nat => SXY el1 o1 h1 l cop z ow ow' hd hd' f L0 j) (fun _ => (.exit 0, SXY el1 o1 h1 l cop z ow ow' hd hd' f L0 l.length)) (fun j => if j < l.length then some (j + 1) else none)
    (fun j => l.length - j) (fun j => j ≤ l.length) ?_ ?_ j hj
  · intro j h1' hnx
    refine ⟨fun e => (by cases e), ?_⟩
    have hj : j = l.length := by
      by_cases h : j < l.length
      · simp [h] at hnx
      · omega
    subst hj
    unfold SXY
    cases cpB cop l.length
    · exact turn_ok (n := 1) cAj_sound mixed tab28_L3 rfl rfl (by rw [cond_false, rawX, decide_eq_false (by omega), cond_false]; rfl)
    · exact turn_ok (n := 1) cAj_sound mixed tab28_L3 rfl rfl (by rw [cond_true, rawY, decide_eq_false (by omega), cond_false]; rfl)
  · intro j s' h1' hnx
    by_cases h2 : j < l.length
    · simp only [h2, if_true, Option.some.injEq] at hnx
      subst hnx
      exact ⟨by omega, by omega, rfl, stepXY el1 o1 h1 hl cop z ow ow' hd hd' f hg h2⟩
    · simp [h2] at hnx
noncomputable def specT : LSpec where
  n := 155
  nils := [⟨1, 32, true, cAc⟩, ⟨11, 48, true, cR⟩]
  keep := k3
  touch := t3
  run kv M q := match kv, M with
    | [.vec g1, .lit (.int .i64 cop), .lit (.bool z), .ptr b1 q1, .ptr b2 q2, .lit (.pointer none), .vec g2, .lit (.int .i64 i)], ⟨[some ⟨bt1, ow, [.vec g3]⟩, some ⟨bt2, ow', [.vec g4]⟩], [some ⟨el1, true, sh1, t1, o1, h1, l⟩, some ⟨el2, true, sh2, t2, true, true, []⟩, some ⟨el3, false, sh3, t3, true, hd, L⟩, some ⟨el4, false, sh4, t4, true, hd', L'⟩]⟩ =>
      bif decide (g1 = 0) && decide (b1 = 0) && decide (q1 = 0) && decide (b2 = 1) && decide (q2 = 0) && decide (g2 = 1) && decide (bt1 = 51) && decide (g3 = 2) && decide (bt2 = 53) && decide (g4 = 3) && decide (sh1 = cAc) && decide (t1 = 0) && decide (el2 = 48) && decide (sh2 = cR) && decide (t2 = 1) && decide (el3 = 4) && decide (sh3 = cB) && decide (t3 = 2) && decide (el4 = 4) && decide (sh4 = cB) && decide (t4 = 3) && decide (i = 0) && (eqB L L' && gF L && decide (l.length ≤ 65536)) then
        (bif cpB cop l.length then
          q (.exit 0) [.vec 0, i64 cop, bv z, .ptr 0 0, .ptr 1 0, .ptr 2 0, .vec 4, i64 (l.length : Nat)]
            ⟨[some ⟨51, ow, [.vec 2]⟩, some ⟨53, ow', [.vec 3]⟩, some ⟨51, true, [.vec 5]⟩], [some ⟨el1, true, cAc, 0, o1, h1, l⟩, some ⟨48, true, cR, 1, true, true, []⟩, some ⟨4, false, cB, 2, true, hd, foldJ actL l L l.length⟩, some ⟨4, false, cB, 3, true, hd', foldJ actL l L l.length⟩, some ⟨48, true, cR, 4, true, true, (runs (foldJ actL l L (cop.toNat + 1))).map rV⟩, some ⟨4, false, cB, 5, true, true, foldJ actL l L (cop.toNat + 1)⟩]⟩
        else q (.exit 0) [.vec 0, i64 cop, bv z, .ptr 0 0, .ptr 1 0, nilp, .vec 1, i64 (l.length : Nat)]
            ⟨[some ⟨51, ow, [.vec 2]⟩, some ⟨53, ow', [.vec 3]⟩], [some ⟨el1, true, cAc, 0, o1, h1, l⟩, some ⟨48, true, cR, 1, true, true, []⟩, some ⟨4, false, cB, 2, true, hd, foldJ actL l L l.length⟩, some ⟨4, false, cB, 3, true, hd', foldJ actL l L l.length⟩]⟩) else none
    | _, _ => none
theorem specT_ok : specT.Ok Try.prog (.loop L3) := by
  intro R kv M q r h
  simp only [specT] at h
  split at h
  · rename_i g1 cop z b1 q1 b2 q2 g2 i bt1 ow g3 bt2 ow' g4 el1 sh1 t1 o1 h1 l el2 sh2 t2 el3 sh3 t3 hd L el4 sh4 t4 hd' L'
    simp only [cond_eq_ite, Bool.and_eq_true, decide_eq_true_eq] at h
    split at h
    · rename_i hc
      obtain ⟨⟨⟨⟨⟨⟨⟨⟨⟨⟨⟨⟨⟨⟨⟨⟨⟨⟨⟨⟨⟨⟨rfl, rfl⟩, rfl⟩, rfl⟩, rfl⟩, rfl⟩, rfl⟩, rfl⟩, rfl⟩, rfl⟩, rfl⟩, rfl⟩, rfl⟩, rfl⟩, rfl⟩, rfl⟩, rfl⟩, rfl⟩, rfl⟩, rfl⟩, rfl⟩, rfl⟩, ⟨he, hg⟩, hl⟩ := hc
      obtain rfl := eqB_spec he
      have hL := fun f => loop3 el1 o1 h1 hl cop z ow ow' hd hd' f hg 0 (Nat.zero_le _)
      have h0 : cpB cop 0 = false := by
        unfold cpB
        simp only [Bool.and_eq_false_iff, decide_eq_false_iff_not]
        omega
      split at h
      · rename_i hcp
        refine ⟨_, _, _, h, fun f => ?_⟩
        have := hL f
        unfold SXY at this
        rw [h0, hcp] at this
        exact CodeOkN.full this rfl
      · rename_i hcp
        refine ⟨_, _, _, h, fun f => ?_⟩
        have := hL f
        unfold SXY at this
        rw [h0, show cpB cop l.length = false by simpa using hcp] at this
        exact CodeOkN.full this rfl
    · cases h
  · cases h
noncomputable def tabAc : List (Nat × LSpec) := [(12, specT), (1000028, spec28)]
theorem nodes3 : nodes (Try.f3.body.getD .skip) = [.loop L3] := by kernel_rfl
theorem tabAc_ok : ∀ c, Try.f3.body = some c → LoopsOk Try.prog (tabL tabAc) c :=
  tab_ok (cs := [.loop L3, G28]) (by kernel_rfl) (by kernel_rfl) ⟨⟨by kernel_rfl, specT_ok⟩, ⟨by kernel_rfl, spec28_ok⟩, trivial⟩
noncomputable def cAc' : CallSem := (cX.withLoops (tabL tabAc)).withJoin
theorem cAc_sound : cAc'.Sound Try.prog := CallSem.withJoin_sound (CallSem.withLoops_sound cX_sound _)
theorem cAc_loops : ∀ c, Try.f3.body = some c → LoopsOk Try.prog cAc'.loops c := tabAc_ok
end Go.Proofs.Yticmpcloehnoaaa

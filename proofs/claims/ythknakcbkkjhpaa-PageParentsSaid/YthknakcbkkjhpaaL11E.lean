/- Two lists of pages that are alike; the law's all as a contract (chapter 11). -/
import Derived.Test.YthknakcbkkjhpaaL11D
import Derived.Test.YthknakcbkkjhpaaSxThree
set_option linter.unusedVariables false
set_option linter.unusedSimpArgs false
namespace Go.Proofs.Ythknakcbkkjhpaa
open Go Go.Sx Go.Fx
set_option maxRecDepth 100000
set_option linter.unusedVariables false
set_option linter.unusedSimpArgs false
theorem s19 : Sx.Enters Try.prog 19 Try.f19 := ⟨Try.func19, by kernel_rfl, by kernel_rfl⟩
theorem s20 : Sx.Enters Try.prog 20 Try.f20 := ⟨Try.func20, by kernel_rfl, by kernel_rfl⟩
abbrev c3 : List CK := [.int .i64, .int .i64, .int .i64]
noncomputable def L19 : Code := unl (lpOf Try.f19 0)
theorem nodes19 : nodes (Try.f19.body.getD .skip) = [.loop L19] := by kernel_rfl
abbrev k19 : List Nat := [0, 1, 4, 5]
abbrev t19 : List Nat := [4, 5] ++ (List.range 15).map (· + 11)
def S19 (el el' : TypeId) (o h o' h' : Bool) (L X : List AV) (b : Bool) (f : Nat → Value) (i : Int) : St :=
  ⟨tmF k19 t19 [.vec 0, .vec 1, .lit (.bool b), i64 i] f 26 0, ⟨[], [some ⟨el, true, c3, 0, o, h, L⟩, some ⟨el', true, c3, 1, o', h', X⟩]⟩⟩
theorem raw19 (el el' : TypeId) (o h o' h' : Bool) (L X : List AV) (b : Bool) (f : Nat → Value) (i : Int) : turnK CallSem.nil Try.prog 1 L19 k19 t19 0 2 (S19 el el' o h o' h' L X b f i) =
    (bif decide (i < (L.length : Int)) then (if 0 ≤ i ∧ i < (L.length : Int) then (if (i).toNat < L.length then (if 0 ≤ i ∧ i < (X.length : Int) then (if (i).toNat < X.length then (bif !(cI (L.getD i.toNat .bad) 0 == cI (X.getD i.toNat .bad) 0 && (cI (L.getD i.toNat .bad) 1 == cI (X.getD i.toNat .bad) 1 && (cI (L.getD i.toNat .bad) 2 == cI (X.getD i.toNat .bad) 2 && true))) then some (.ret, S19 el el' o h o' h' L X false f i) else some (.normal, S19 el el' o h o' h' L X b f (wi (i + 1)))) else none) else none) else none) else none) else some (.exit 0, S19 el el' o h o' h' L X b f i)) := by kernel_rfl
def c3I (x : AV) : List Int := [cI x 0, cI x 1, cI x 2]
theorem turn19 (el el' : TypeId) (o h o' h' : Bool) (L X : List AV) (b : Bool) (f : Nat → Value) (j : Nat) (hX : X.length = L.length) (hL : L.length ≤ 16384) (hj : j < L.length) (he : c3I (L.getD j .bad) = c3I (X.getD j .bad)) :
    turnK CallSem.nil Try.prog 1 L19 k19 t19 0 2 (S19 el el' o h o' h' L X b f (j : Nat)) = some (.normal, S19 el el' o h o' h' L X b f ((j + 1 : Nat) : Int)) := by
  have e1 : wi (((j : Nat) : Int) + 1) = ((j + 1 : Nat) : Int) := by rw [wi_id (by omega) (by omega)]; omega
  simp only [c3I, List.cons.injEq, and_true] at he
  rw [raw19, e1, decide_eq_true (by omega), cond_true, if_pos (by omega), if_pos (by rw [Int.toNat_natCast]; omega), if_pos (by omega), if_pos (by rw [Int.toNat_natCast]; omega)]
  rw [Int.toNat_natCast, he.1, he.2.1, he.2.2]
  simp
theorem loop19 (el el' : TypeId) (o h o' h' : Bool) (L X : List AV) (b : Bool) (f : Nat → Value) (hX : L.map c3I = X.map c3I) (hL : L.length ≤ 16384) (j : Nat) (hi : j ≤ L.length) :
    CodeOkN 0 2 Try.prog (.loop L19) (S19 el el' o h o' h' L X b f (j : Nat)) (.exit 0) (S19 el el' o h o' h' L X b f (L.length : Nat)) := by
  have hl : X.length = L.length := by have := congrArg List.length hX; simpa using this.symm
  refine loop_ok (fun j : Nat => S19 el el' o h o' h' L X b f (j : Nat)) (fun _ => (.exit 0, S19 el el' o h o' h' L X b f (L.length : Nat))) (fun j => if j < L.length then some (j + 1) else none)
    (fun j => L.length - j) (fun j => j ≤ L.length) ?_ ?_ j hi
  · intro j h1 hn
    refine ⟨fun e => (by cases e), ?_⟩
    have hj : j = L.length := by
      by_cases h : j < L.length
      · simp [h] at hn
      · omega
    subst hj
    exact turn_ok nilS mixed (LoopsOk.no _ _) rfl rfl (by rw [raw19, decide_eq_false (by omega), cond_false]; rfl)
  · intro j s' h1 hn
    by_cases h2 : j < L.length
    · simp only [h2, if_true, Option.some.injEq] at hn
      subst hn
      refine ⟨by omega, by omega, rfl, turn_ok nilS mixed (LoopsOk.no _ _) rfl rfl (turn19 el el' o h o' h' L X b f j hl hL h2 ?_)⟩
      have := congrArg (fun l => l[j]?) hX
      simp only [List.getElem?_map, List.getElem?_eq_getElem h2, List.getElem?_eq_getElem (show j < X.length by omega), Option.map_some, Option.some.injEq] at this
      simpa [List.getD, List.getElem?_eq_getElem h2, List.getElem?_eq_getElem (show j < X.length by omega)] using this
    · simp [h2] at hn
def same_L : LSpec where
  n := 26
  nils := []
  keep := k19
  touch := t19
  run kv M k := match kv, M with
    | [.vec h0, .vec h1, .lit (.bool b), .lit (.int .i64 i)], ⟨[], [some ⟨el, true, sh, t0, o, h, L⟩, some ⟨el', true, sh', t1, o', h', X⟩]⟩ =>
      bif decide (h0 = 0) && decide (h1 = 1) && decide (t0 = 0) && decide (t1 = 1) && decide (sh = c3) && decide (sh' = c3) && decide (i = 0) && decide (L.map c3I = X.map c3I) && decide (L.length ≤ 16384) then
        k (.exit 0) [.vec 0, .vec 1, .lit (.bool b), i64 (L.length : Nat)] ⟨[], [some ⟨el, true, c3, 0, o, h, L⟩, some ⟨el', true, c3, 1, o', h', X⟩]⟩
      else none
    | _, _ => none
theorem same_Lok : same_L.Ok Try.prog (.loop L19) := by
  intro R kv M k r h
  simp only [same_L] at h
  split at h
  · rename_i h0 h1 b i el sh t0 o hh L el' sh' t1 o' hh' X
    simp only [cond_eq_ite, Bool.and_eq_true, decide_eq_true_eq] at h
    split at h
    · rename_i hc
      obtain ⟨⟨⟨⟨⟨⟨⟨⟨rfl, rfl⟩, rfl⟩, rfl⟩, rfl⟩, rfl⟩, rfl⟩, hX⟩, hn⟩ := hc
      refine ⟨_, _, _, h, fun f => ?_⟩
      exact CodeOkN.full (loop19 el el' o hh o' hh' L X b f hX hn 0 (Nat.zero_le _)) rfl
    · cases h
  · cases h
noncomputable def C19 : CallSem := CallSem.nil.withLoops (one 4 same_L)
theorem C19_sound : C19.Sound Try.prog := CallSem.withLoops_sound nilS _
theorem C19_loops : ∀ c, Try.f19.body = some c → LoopsOk Try.prog C19.loops c := one_ok nodes19 same_Lok
theorem same_eq (el el' : TypeId) (o h o' h' : Bool) (L X : List AV) (hX : L.map c3I = X.map c3I) (hn : L.length ≤ 16384) : fnK C19 Try.prog 2 Try.f19 [.vec 0, .vec 1] ⟨[], [some ⟨el, true, c3, 0, o, h, L⟩, some ⟨el', true, c3, 1, o', h', X⟩]⟩ [] =
    some (.lit (.bool true), ⟨[], [some ⟨el, true, c3, 0, o, h, L⟩, some ⟨el', true, c3, 1, o', h', X⟩]⟩) := by
  have e : fnK C19 Try.prog 2 Try.f19 [.vec 0, .vec 1] ⟨[], [some ⟨el, true, c3, 0, o, h, L⟩, some ⟨el', true, c3, 1, o', h', X⟩]⟩ [] =
    (bif (L.length : Int) != (X.length : Int) then some (.lit (.bool false), ⟨[], [some ⟨el, true, c3, 0, o, h, L⟩, some ⟨el', true, c3, 1, o', h', X⟩]⟩) else
     bif true && decide (L.map c3I = X.map c3I) && decide (L.length ≤ 16384) then some (.lit (.bool true), ⟨[], [some ⟨el, true, c3, 0, o, h, L⟩, some ⟨el', true, c3, 1, o', h', X⟩]⟩) else none) := by kernel_rfl
  have hl : L.length = X.length := by have := congrArg List.length hX; simpa using this
  rw [e, decide_eq_true hX, decide_eq_true hn, hl]
  simp
def same_M : MSpec where
  nils := [⟨0, 23, true, c3⟩, ⟨1, 23, true, c3⟩]
  run args M k := match args, M with
    | [.vec h0, .vec h1], ⟨[], [some ⟨el, true, sh, t0, o, h, L⟩, some ⟨el', true, sh', t1, o', h', X⟩]⟩ =>
      bif decide (h0 = 0) && decide (h1 = 1) && decide (t0 = 0) && decide (t1 = 1) && decide (sh = c3) && decide (sh' = c3) && decide (L.map c3I = X.map c3I) && decide (L.length ≤ 16384) then
        k (.lit (.bool true)) ⟨[], [some ⟨el, true, c3, 0, o, h, L⟩, some ⟨el', true, c3, 1, o', h', X⟩]⟩
      else none
    | _, _ => none
theorem same_Mok : same_M.Ok Try.prog 19 := by
  intro R args M k r h
  simp only [same_M] at h
  split at h
  · rename_i h0 h1 el sh t0 o hh L el' sh' t1 o' hh' X
    simp only [cond_eq_ite, Bool.and_eq_true, decide_eq_true_eq] at h
    split at h
    · rename_i hc
      obtain ⟨⟨⟨⟨⟨⟨⟨rfl, rfl⟩, rfl⟩, rfl⟩, rfl⟩, rfl⟩, hX⟩, hn⟩ := hc
      exact ⟨_, _, h, fn_ok (C := C19) (n := 2) (ts := []) C19_sound mixed s19 C19_loops (same_eq el el' o hh o' hh' L X hX hn) rfl⟩
    · cases h
  · cases h

/-! all -/
def pgE (d : Int) (k : Nat) : AV := .agg [i64 (pL d.toNat k), i64 (pX d.toNat k), i64 (pY d.toNat k)]
def pgK (d : Int) (m : Nat) : List AV := (List.range m).map (pgE d)
def amt (d most : Int) : Nat := bif decide (0 ≤ most) && decide (most < cn d) then most.toNat else (cn d).toNat
theorem pgE_ok (d : Int) (k : Nat) : (pgE d k).shape true c3 = true ∧ (pgE d k).cells.length = c3.length ∧ ∀ c, c ∈ (pgE d k).cells → litC c = true := by
  refine ⟨rfl, rfl, fun c hc => ?_⟩
  simp [pgE, AV.cells] at hc
  rcases hc with rfl | rfl | rfl <;> rfl
theorem pgK_ok (d : Int) (m : Nat) : ∀ x, x ∈ pgK d m → x.shape true c3 = true ∧ x.cells.length = c3.length ∧ ∀ c, c ∈ x.cells → litC c = true := by
  intro x hx
  obtain ⟨k, _, rfl⟩ := List.mem_map.1 hx
  exact pgE_ok d k
theorem pgK_len (d : Int) (m : Nat) : (pgK d m).length = m := by simp [pgK]
theorem rowV_pgK (d : Int) (m : Nat) : rowV (pgK d m) = (List.range m).flatMap (pgC d) := by
  simp only [rowV, pgK, List.flatMap_map]
  rfl
def allM : MSpec := ⟨[], fun args M k => match args, M with
  | [.lit (.int .i64 d), .lit (.int .i64 most)], ⟨[], []⟩ => k (.vec 0) ⟨[], [some ⟨23, true, c3, 0, true, true, pgK d (amt d most)⟩]⟩
  | _, _ => none⟩
theorem allM_ok : allM.Ok Try.prog 20 := by
  intro R args M k r h
  simp only [allM] at h
  split at h
  · rename_i d most
    refine ⟨_, _, h, (CallOkR.ofRow (M := ⟨[], []⟩) s20 (pgK_ok d (amt d most)) ?_).call⟩
    intro E w0 w hR
    refine (callsIn_wide.1 (all_in 4 (Nat.le_refl _) d most w)).mono ?_
    rintro r w' ⟨v, hr, ⟨m, hm, ho⟩, hb⟩
    refine ⟨v, hr, ?_, hb⟩
    have hc := cn_nonneg d
    have e : m = amt d most := by
      unfold amt
      rcases hm with ⟨h1, h2⟩ | ⟨h1, h2⟩
      · by_cases hh : 0 ≤ most ∧ most < cn d
        · exact absurd rfl (by have := h2 most.toNat (by omega); rw [show ((most.toNat : Nat) : Int) = most by omega] at this; exact this)
        · rw [show (decide (0 ≤ most) && decide (most < cn d)) = false by simp; omega, cond_false]; exact h1
      · by_cases hh : most < cn d
        · rw [show (decide (0 ≤ most) && decide (most < cn d)) = true by simp; omega, cond_true]; omega
        · rw [show (decide (0 ≤ most) && decide (most < cn d)) = false by simp; omega, cond_false]; omega
    rw [pgK_len, rowV_pgK]
    subst e
    exact ho
  · cases h
end Go.Proofs.Ythknakcbkkjhpaa

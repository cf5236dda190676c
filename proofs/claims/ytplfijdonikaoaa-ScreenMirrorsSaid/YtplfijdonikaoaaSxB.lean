import Derived.Test.YtplfijdonikaoaaSxA
set_option linter.unusedVariables false
set_option linter.unusedSimpArgs false
namespace Go.Sx
open Go Go.RowKit

/-! running what touches no memory -/
def pureRun (P : Program) {α : Type} : Sem α → Option α
  | .pure a => some a
  | .program k => pureRun P (k P)
  | _ => none

theorem pureRun_run {P : Program} {α : Type} (s : Sem α) {a : α} (w : World) : pureRun P s = some a → s.run P w = .ok a w := by
  induction s with
  | pure b => intro h; simp only [pureRun, Option.some.injEq] at h; subst h; rfl
  | program k ih => intro h; simp only [pureRun] at h; exact ih P h
  | _ => intro h; simp [pureRun] at h

def sizeT (P : Program) (t : TypeId) : Option Nat := (P.info? t).map (·.size)
def aggT (P : Program) (t : TypeId) : Option Bool :=
  match P.underlying t with
  | some (.struct _) | some (.array _ _) => some true
  | some _ => some false
  | none => none

theorem run_sizeOf {P : Program} {t : TypeId} {n : Nat} (h : sizeT P t = some n) (w : World) : (sizeOf t).run P w = .ok n w := by
  unfold sizeT at h
  cases hi : P.info? t with
  | none => rw [hi] at h; cases h
  | some i => rw [hi] at h; simp at h; subst h; simp [sizeOf, typeInfo, hi]

theorem run_isAgg {P : Program} {t : TypeId} {b : Bool} (h : aggT P t = some b) (w : World) : (isAgg t).run P w = .ok b w := by
  unfold aggT at h
  cases hu : P.underlying t with
  | none => rw [hu] at h; cases h
  | some d =>
    rw [hu] at h
    have := run_underlying (P := P) hu w
    unfold isAgg
    simp only [Sem.run_bind, this, Result.andThen]
    cases d <;> simp_all

/-- the part of an aggregate -/
def partA (P : Program) (t : TypeId) (cs : List AV) (off : Nat) : Option AV :=
  match aggT P t with
  | some true => match sizeT P t with
    | some n => bif decide (off + n ≤ cs.length) then some (.agg ((cs.drop off).take n)) else none
    | none => none
  | some false => cs[off]?
  | none => none

theorem run_part {P : Program} {E : Env} {t : TypeId} {cs : List AV} {off : Nat} {x : AV} (h : partA P t cs off = some x) (w : World) :
    (part t (concL E cs).toArray off).run P w = .ok (x.conc E) w := by
  unfold partA at h
  cases ha : aggT P t with
  | none => rw [ha] at h; cases h
  | some b =>
    rw [ha] at h
    unfold part
    simp only [Sem.run_bind, run_isAgg ha w, Result.andThen]
    cases b with
    | true =>
      simp only at h
      cases hs : sizeT P t with
      | none => rw [hs] at h; cases h
      | some n =>
        rw [hs] at h
        simp only [cond_eq_ite, decide_eq_true_eq] at h
        split at h
        · rename_i hle
          simp only [Option.some.injEq] at h
          subst h
          simp only [if_true, Sem.run_bind, run_sizeOf hs w, Result.andThen, Sem.run_pure, AV.conc]
          congr 2
          apply Array.ext'
          simp [concL_eq, List.map_take, List.map_drop]
        · cases h
    | false =>
      simp only at h
      simp only [Bool.false_eq_true, if_false]
      have : ((concL E cs).toArray)[off]? = some (x.conc E) := by simp [concL_eq, h]
      rw [this]; rfl

/-! equality -/
def eqA (P : Program) : Nat → TypeId → AV → AV → Option Bool
  | 0, _, _, _ => none
  | d + 1, t, x, y =>
    match P.underlying t, x, y with
    | some .bool, .lit (.bool a), .lit (.bool b) => some (a == b)
    | some (.int _), .lit (.int k a), .lit (.int k' b) => bif decide (k = k') then some (a == b) else none
    | some .string, .lit (.string a), .lit (.string b) => some (a == b)
    | some (.struct fs), .agg xs, .agg ys =>
      bif P.stoodInHeld t then none else
      fs.toList.foldr (fun f r => match r with
        | none => none
        | some q => bif decide (f.name = "_") then some q else
          match partA P f.type xs f.offset, partA P f.type ys f.offset with
          | some a, some b => match eqA P d f.type a b with
            | some p => some (p && q)
            | none => none
          | _, _ => none) (some true)
    | some (.array len el), .agg xs, .agg ys =>
      match sizeT P el with
      | none => none
      | some n => (List.range len).foldr (fun i r => match r with
        | none => none
        | some q =>
          match partA P el xs (i * n), partA P el ys (i * n) with
          | some a, some b => match eqA P d el a b with
            | some p => some (p && q)
            | none => none
          | _, _ => none) (some true)
    | _, _, _ => none

theorem run_equalIn_array {P : Program} (d : Nat) (t el : TypeId) (len n : Nat) (xs ys : Array Value) (ht : P.underlying t = some (.array len el)) (hn : sizeT P el = some n) (w : World)
    (F : Nat → Bool) (hF : ∀ i, i < len → ∃ a b, (part el xs (i * n)).run P w = .ok a w ∧ (part el ys (i * n)).run P w = .ok b w ∧ (Op.equalIn d el a b).run P w = .ok (F i) w) :
    (Op.equalIn (d + 1) t (.agg xs) (.agg ys)).run P w = .ok ((List.range len).all F) w := by
  simp only [Op.equalIn, Sem.run_bind, run_underlying ht, Result.andThen_ok, run_sizeOf hn]
  rw [Std.Legacy.Range.forIn_eq_forIn_range']
  have key : ∀ (k i : Nat), i + k ≤ len → ((forIn (List.range' i k) (none, PUnit.unit) fun i x => do
      let a ← part el xs (i * n)
      let b ← part el ys (i * n)
      let r ← Op.equalIn d el a b
      if (!r) = true then pure (ForInStep.done (some false, PUnit.unit)) else pure (ForInStep.yield (none, PUnit.unit)) : Sem (Option Bool × PUnit))).run P w = .ok (if (List.range' i k).all F then none else some false, PUnit.unit) w := by
    intro k
    induction k with
    | zero => intro i _; simp
    | succ k ih =>
      intro i hi
      obtain ⟨a, b, h1, h2, h3⟩ := hF i (by omega)
      simp only [List.range'_succ, List.forIn_cons, Sem.run_bind, h1, h2, h3, Result.andThen_ok]
      cases hb : F i with
      | true => simp only [Bool.not_true, Bool.false_eq_true, if_false, Sem.run_pure, Result.andThen_ok, List.all_cons, hb, Bool.true_and]; exact ih (i + 1) (by omega)
      | false => simp [hb]
  have := key len 0 (by omega)
  simp only [Std.Legacy.Range.size, Nat.sub_zero, Nat.add_one_sub_one, Nat.div_one]
  rw [this]
  rw [List.range_eq_range']
  cases (List.range' 0 len).all F <;> simp

theorem eqA_sound {P : Program} {E : Env} : ∀ (d : Nat) (t : TypeId) (x y : AV) (b : Bool), eqA P d t x y = some b → ∀ m, d ≤ m → ∀ w, (Op.equalIn m t (x.conc E) (y.conc E)).run P w = .ok b w := by
  intro d
  induction d with
  | zero => intro t x y b h; simp [eqA] at h
  | succ d ih =>
    intro t x y b h m hm w
    obtain ⟨m, rfl⟩ : ∃ k, m = k + 1 := ⟨m - 1, by omega⟩
    unfold eqA at h
    split at h
    · rename_i a b' hu; simp only [Option.some.injEq] at h; subst h; simp [Op.equalIn, run_underlying hu, AV.conc]
    · rename_i k0 k a k' b' hu
      simp only [cond_eq_ite, decide_eq_true_eq] at h
      split at h
      · rename_i hk; simp only [Option.some.injEq] at h; subst h; simp [Op.equalIn, run_underlying hu, AV.conc, hk]
      · cases h
    · rename_i a b' hu; simp only [Option.some.injEq] at h; subst h; simp [Op.equalIn, run_underlying hu, AV.conc]
    · rename_i fs xs ys hu
      cases hst : P.stoodInHeld t with
      | true => rw [hst] at h; cases h
      | false =>
        rw [hst] at h
        simp only [cond_false] at h
        have hf : P.fieldsOf t = fs := by simp [Program.fieldsOf, hu]
        simp only [AV.conc]
        rw [run_equalIn_struct w m t _ _ (by rw [hf]; exact hu) hst, hf]
        generalize fs.toList = l at h
        clear hu hf
        induction l generalizing b with
        | nil => simp only [List.foldr_nil, Option.some.injEq] at h; subst h; simp [Op.eqFields]
        | cons f l ihl =>
          simp only [List.foldr_cons] at h
          split at h
          · cases h
          · rename_i q hq
            have ihq := ihl q hq
            simp only [cond_eq_ite, decide_eq_true_eq] at h
            split at h
            · rename_i hn
              simp only [Option.some.injEq] at h
              subst h
              simp only [Op.eqFields, hn, ne_eq, not_true_eq_false, if_false]
              exact ihq
            · rename_i hn
              split at h
              · rename_i a b' h1 h2
                split at h
                · rename_i p hp
                  simp only [Option.some.injEq] at h
                  subst h
                  simp only [Op.eqFields, ne_eq, hn, not_false_eq_true, if_true, Sem.run_bind, run_part h1 w, run_part h2 w, Result.andThen_ok, ih _ _ _ _ hp m (by omega) w]
                  cases p with
                  | true => simpa using ihq
                  | false => simp
                · cases h
              · cases h
    · rename_i len el xs ys hu
      split at h
      · cases h
      · rename_i n hn
        simp only [AV.conc]
        have key : ∀ (l : List Nat) (b : Bool), l.foldr (fun i r => match r with
            | none => none
            | some q =>
              match partA P el xs (i * n), partA P el ys (i * n) with
              | some a, some b => match eqA P d el a b with
                | some p => some (p && q)
                | none => none
              | _, _ => none) (some true) = some b →
            ∃ F : Nat → Bool, b = l.all F ∧ ∀ i, i ∈ l → ∃ a b, (part el (concL E xs).toArray (i * n)).run P w = .ok a w ∧ (part el (concL E ys).toArray (i * n)).run P w = .ok b w ∧ (Op.equalIn m el a b).run P w = .ok (F i) w := by
          intro l
          induction l with
          | nil => intro b h; simp only [List.foldr_nil, Option.some.injEq] at h; subst h; exact ⟨fun _ => true, rfl, fun i hi => by cases hi⟩
          | cons i l ihl =>
            intro b h
            simp only [List.foldr_cons] at h
            split at h
            · cases h
            · rename_i q hq
              obtain ⟨F, hF1, hF2⟩ := ihl q hq
              split at h
              · rename_i a b' h1 h2
                split at h
                · rename_i p hp
                  simp only [Option.some.injEq] at h
                  subst h
                  have e3 := ih _ _ _ _ hp m (by omega) w
                  by_cases hil : i ∈ l
                  · -- the same index again: the same answer
                    obtain ⟨a2, b2, g1, g2, g3⟩ := hF2 i hil
                    rw [run_part h1 w] at g1; rw [run_part h2 w] at g2
                    simp only [Result.ok.injEq, and_true] at g1 g2
                    subst g1; subst g2
                    rw [e3] at g3
                    simp only [Result.ok.injEq, and_true] at g3
                    refine ⟨F, by simp [hF1, g3], fun j hj => ?_⟩
                    rcases List.mem_cons.1 hj with rfl | hj
                    · exact ⟨_, _, run_part h1 w, run_part h2 w, by rw [e3, g3]⟩
                    · exact hF2 j hj
                  · refine ⟨fun j => if j = i then p else F j, ?_, fun j hj => ?_⟩
                    · simp only [List.all_cons, if_true, hF1]
                      congr 1
                      rw [Bool.eq_iff_iff, List.all_eq_true, List.all_eq_true]
                      have hne : ∀ j, j ∈ l → ¬ j = i := fun j hj e => hil (e ▸ hj)
                      constructor
                      · intro hh j hj
                        have h7 := hh j hj
                        simp only [if_neg (hne j hj)]
                        exact h7
                      · intro hh j hj
                        have h7 := hh j hj
                        simp only [if_neg (hne j hj)] at h7
                        exact h7
                    · rcases List.mem_cons.1 hj with rfl | hj
                      · exact ⟨_, _, run_part h1 w, run_part h2 w, by rw [e3]; simp⟩
                      · obtain ⟨a2, b2, g1, g2, g3⟩ := hF2 j hj
                        have hne : ¬ j = i := fun e => hil (e ▸ hj)
                        exact ⟨a2, b2, g1, g2, by rw [g3]; simp [hne]⟩
                · cases h
              · cases h
        obtain ⟨F, hF1, hF2⟩ := key (List.range len) b h
        rw [run_equalIn_array m t el len n _ _ hu hn w F (fun i hi => hF2 i (List.mem_range.2 hi)), hF1]
    · cases h

/-- the aggregates' cells, whichever way they are held -/
def AV.asAgg : AV → AV
  | .lit (.agg cs) => .agg (cs.toList.map AV.lit)
  | a => a
theorem concL_lits (E : Env) (l : List Value) : concL E (l.map AV.lit) = l := by
  induction l with
  | nil => rfl
  | cons a l ih => simp [concL, AV.conc, ih]
theorem AV.asAgg_conc (E : Env) (a : AV) : a.asAgg.conc E = a.conc E := by
  unfold AV.asAgg
  split
  · simp [AV.conc, concL_lits]
  · rfl

def nilish : Value → Bool
  | .pointer none | .slice none _ _ | .nilFunc => true
  | _ => false

/-- is this a name against nil? -/
def nilCmp (P : Program) (t : TypeId) (x y : AV) : Bool :=
  match P.underlying t, x, y with
  | some (.pointer _), .ptr _ _, .lit (.pointer none) => true
  | some (.pointer _), .lit (.pointer none), .ptr _ _ => true
  | some (.slice _), .sl _ _ _ _, .lit (.slice none _ _) => true
  | some (.slice _), .lit (.slice none _ _), .sl _ _ _ _ => true
  | some (.func _ _ _), .fn _ _, .lit .nilFunc => true
  | some (.func _ _ _), .lit .nilFunc, .fn _ _ => true
  | _, _, _ => false

theorem nilCmp_in {P : Program} {E : Env} {t : TypeId} {x y : AV} (h : nilCmp P t x y = true) (d : Nat) (w : World) : (Op.equalIn (d + 1) t (x.conc E) (y.conc E)).run P w = .ok false w := by
  unfold nilCmp at h
  split at h <;> first | (rename_i hu; simp [Op.equalIn, run_underlying hu, AV.conc]; done) | cases h
theorem nilCmp_sound {P : Program} {E : Env} {t : TypeId} {x y : AV} (h : nilCmp P t x y = true) (w : World) : (Op.equal t (x.conc E) (y.conc E)).run P w = .ok false w :=
  nilCmp_in h 9999 w

def cmpA (P : Program) (t : TypeId) (x y : AV) : Option Bool :=
  bif nilCmp P t x y then some false
  else bif P.eqGuardType P.depth t then none
  else match x.asAgg, y.asAgg with
    | .agg xs, .agg ys => eqA P 30 t (.agg xs) (.agg ys)
    | _, _ => none

/-- one operation that hands back a value and touches no memory: a binary one -/
def binK {R : Type} (P : Program) (op : BinOp) (t : TypeId) (ox oy : Operand) (x y : AV) (k : AV → Option R) : Option R :=
  match x, y with
  | .lit (.int ka a), .lit (.int kb b) =>
    match op with
    | .quo => bif decide (ka = kb) then (if b = 0 then none else k (.lit (.int ka (ka.wrap (a.tdiv b))))) else none
    | .rem => bif decide (ka = kb) then (if b = 0 then none else k (.lit (.int ka (a.tmod b)))) else none
    | .shl => if b < 0 then none else k (.lit (.int ka (ka.wrap (a * 2 ^ (min b.toNat ka.bits)))))
    | .shr => if b < 0 then none else k (.lit (.int ka (a.fdiv (2 ^ (min b.toNat ka.bits)))))
    | op => match pureRun P (binOp op t (.int ka a) (.int kb b)) with
      | some v => k (.lit v)
      | none => none
  | .lit (.bool a), .lit (.bool b) =>
    match op with
    | .eql => bif (P.underlying t matches some .bool) then k (.lit (.bool (a == b))) else none
    | .neq => bif (P.underlying t matches some .bool) then k (.lit (.bool (!(a == b)))) else none
    | _ => none
  | .lit (.string a), .lit (.string b) =>
    match pureRun P (binOp op t (.string a) (.string b)) with
      | some v => k (.lit v)
      | none => none
  | .lit (.pointer none), .lit (.pointer none) =>
    match op, P.underlying t with
    | .eql, some (.pointer _) => k (.lit (.bool true))
    | .neq, some (.pointer _) => k (.lit (.bool false))
    | _, _ => none
  | .lit (.slice none _ _), .lit (.slice none _ _) =>
    match op, P.underlying t with
    | .eql, some (.slice _) => k (.lit (.bool true))
    | .neq, some (.slice _) => k (.lit (.bool false))
    | _, _ => none
  | x, y =>
    match op with
    | .eql => match cmpA P t x y with
      | some b => k (.lit (.bool b))
      | none => none
    | .neq => match cmpA P t x y with
      | some b => k (.lit (.bool (!b)))
      | none => none
    | _ => none

theorem run_eqGuard_int {P : Program} (op : BinOp) (t : TypeId) (ox oy : Operand) (ka kb : IntKind) (a b : Int) (w : World) : (eqGuard op t ox oy (.int ka a) (.int kb b)).run P w = .ok () w := by
  cases op <;> simp [eqGuard]
theorem run_eqGuard_bool {P : Program} (op : BinOp) (t : TypeId) (ox oy : Operand) (a b : Bool) (w : World) : (eqGuard op t ox oy (.bool a) (.bool b)).run P w = .ok () w := by
  cases op <;> simp [eqGuard]
theorem run_eqGuard_string {P : Program} (op : BinOp) (t : TypeId) (ox oy : Operand) (a b : ByteArray) (w : World) : (eqGuard op t ox oy (.string a) (.string b)).run P w = .ok () w := by
  cases op <;> simp [eqGuard]

theorem run_eqGuard_agg {P : Program} (op : BinOp) (t : TypeId) (ox oy : Operand) (a b : Array Value) (h : P.eqGuardType P.depth t = false) (w : World) : (eqGuard op t ox oy (.agg a) (.agg b)).run P w = .ok () w := by
  cases op <;> simp [eqGuard, h]

theorem run_binop_eql {P : Program} {t : TypeId} {x y : Value} {r : Bool} {w : World} (hx : ∀ k n, x ≠ .int k n) (hf : ∀ k n, x ≠ .float k n) (hc : ∀ k n m, x ≠ .complex k n m) (hs : ∀ s, x ≠ .string s)
    (h : (Op.equal t x y).run P w = .ok r w) :
    (binOp .eql t x y).run P w = .ok (.bool r) w ∧ (binOp .neq t x y).run P w = .ok (.bool (!r)) w := by
  cases x with
  | int k n => exact absurd rfl (hx k n)
  | float k n => exact absurd rfl (hf k n)
  | complex k n m => exact absurd rfl (hc k n m)
  | string s => exact absurd rfl (hs s)
  | _ => cases y <;> (simp only [binOp, Sem.run_bind, h, Result.andThen_ok, Sem.run_pure, and_self])

theorem eqGuard_nil {P : Program} {E : Env} {op : BinOp} {t : TypeId} {ox oy : Operand} {x y : AV} (h : nilCmp P t x y = true) (w : World) : (eqGuard op t ox oy (x.conc E) (y.conc E)).run P w = .ok () w := by
  unfold nilCmp at h
  split at h <;> first | (cases op <;> simp [eqGuard, AV.conc]; done) | cases h

theorem nilCmp_kinds {P : Program} {E : Env} {t : TypeId} {x y : AV} (h : nilCmp P t x y = true) :
    (∀ k n, x.conc E ≠ .int k n) ∧ (∀ k n, x.conc E ≠ .float k n) ∧ (∀ k n m, x.conc E ≠ .complex k n m) ∧ (∀ s, x.conc E ≠ .string s) := by
  unfold nilCmp at h
  split at h <;> first | (simp [AV.conc]; done) | cases h

theorem cmpA_sound {P : Program} {E : Env} {t : TypeId} {x y : AV} {b : Bool} (h : cmpA P t x y = some b) (op : BinOp) (ox oy : Operand) (w : World) :
    (eqGuard op t ox oy (x.conc E) (y.conc E)).run P w = .ok () w ∧ (binOp .eql t (x.conc E) (y.conc E)).run P w = .ok (.bool b) w ∧ (binOp .neq t (x.conc E) (y.conc E)).run P w = .ok (.bool (!b)) w := by
  unfold cmpA at h
  cases hn : nilCmp P t x y with
  | true =>
    rw [hn] at h
    simp only [cond_true, Option.some.injEq] at h
    subst h
    obtain ⟨k1, k2, k3, k4⟩ := nilCmp_kinds (E := E) hn
    exact ⟨eqGuard_nil hn w, run_binop_eql k1 k2 k3 k4 (nilCmp_sound hn w)⟩
  | false =>
    rw [hn] at h
    simp only [cond_false] at h
    cases hg : P.eqGuardType P.depth t with
    | true => rw [hg] at h; cases h
    | false =>
      rw [hg] at h
      simp only [cond_false] at h
      rw [← AV.asAgg_conc E x, ← AV.asAgg_conc E y]
      split at h
      · rename_i xs ys hx hy
        have := eqA_sound (E := E) 30 t _ _ _ h 10000 (by omega) w
        rw [hx, hy]
        refine ⟨run_eqGuard_agg op t ox oy _ _ hg w, run_binop_eql ?_ ?_ ?_ ?_ this⟩ <;> simp [AV.conc]
      · cases h

theorem binK_sound {R : Type} {P : Program} {op : BinOp} {t : TypeId} {ox oy : Operand} {x y : AV} {k : AV → Option R} {r : R} (h : binK P op t ox oy x y k = some r) :
    ∃ v : Value, k (.lit v) = some r ∧ ∀ (E : Env) w, (do eqGuard op t ox oy (x.conc E) (y.conc E); binOp op t (x.conc E) (y.conc E) : Sem Value).run P w = .ok v w := by
  unfold binK at h
  split at h
  · rename_i ka a kb b
    have fin : ∀ v, (∀ w, (binOp op t (.int ka a) (.int kb b)).run P w = .ok v w) → ∀ (E : Env) w, (do eqGuard op t ox oy ((AV.lit (.int ka a)).conc E) ((AV.lit (.int kb b)).conc E); binOp op t ((AV.lit (.int ka a)).conc E) ((AV.lit (.int kb b)).conc E) : Sem Value).run P w = .ok v w := by
      intro v hv E w
      simp only [AV.conc, Sem.run_bind, run_eqGuard_int, Result.andThen_ok]
      exact hv w
    split at h
    · simp only [cond_eq_ite, decide_eq_true_eq] at h
      split at h
      · rename_i hk
        split at h
        · cases h
        · rename_i hb
          exact ⟨_, h, fin _ (fun w => by simp [binOp, hk, Op.intDiv, hb])⟩
      · cases h
    · simp only [cond_eq_ite, decide_eq_true_eq] at h
      split at h
      · rename_i hk
        split at h
        · cases h
        · rename_i hb
          exact ⟨_, h, fin _ (fun w => by simp [binOp, hk, Op.intDiv, hb])⟩
      · cases h
    · split at h
      · cases h
      · rename_i hb
        exact ⟨_, h, fin _ (fun w => by simp [binOp, Op.shift, hb])⟩
    · split at h
      · cases h
      · rename_i hb
        exact ⟨_, h, fin _ (fun w => by simp [binOp, Op.shift, hb])⟩
    · split at h
      · rename_i v hv
        exact ⟨_, h, fin _ (fun w => pureRun_run _ w hv)⟩
      · cases h
  · rename_i a b
    have fin : ∀ v, (∀ w, (binOp op t (.bool a) (.bool b)).run P w = .ok v w) → ∀ (E : Env) w, (do eqGuard op t ox oy ((AV.lit (.bool a)).conc E) ((AV.lit (.bool b)).conc E); binOp op t ((AV.lit (.bool a)).conc E) ((AV.lit (.bool b)).conc E) : Sem Value).run P w = .ok v w := by
      intro v hv E w
      simp only [AV.conc, Sem.run_bind, run_eqGuard_bool, Result.andThen_ok]
      exact hv w
    split at h
    · cases hu : P.underlying t with
      | none => rw [hu] at h; cases h
      | some d =>
        rw [hu] at h
        cases d <;> first | cases h | skip
        exact ⟨_, h, fin _ (fun w => (run_binop_eql (by simp) (by simp) (by simp) (by simp) (run_equal_bool w t a b hu)).1)⟩
    · cases hu : P.underlying t with
      | none => rw [hu] at h; cases h
      | some d =>
        rw [hu] at h
        cases d <;> first | cases h | skip
        exact ⟨_, h, fin _ (fun w => (run_binop_eql (by simp) (by simp) (by simp) (by simp) (run_equal_bool w t a b hu)).2)⟩
    · cases h
  · rename_i a b
    split at h
    · rename_i v hv
      refine ⟨_, h, fun E w => ?_⟩
      simp only [AV.conc, Sem.run_bind, run_eqGuard_string, Result.andThen_ok]
      exact pureRun_run _ w hv
    · cases h
  · have eg : ∀ w, (eqGuard op t ox oy (.pointer none) (.pointer none)).run P w = .ok () w := fun w => by cases op <;> simp [eqGuard]
    split at h
    · rename_i hu
      refine ⟨_, h, fun E w => ?_⟩
      simp only [AV.conc, Sem.run_bind, eg, Result.andThen_ok]
      exact (run_binop_eql (by simp) (by simp) (by simp) (by simp) (show (Op.equalIn (9999 + 1) t _ _).run P w = _ from by
        generalize 9999 = d; simp [Op.equalIn, run_underlying hu])).1
    · rename_i hu
      refine ⟨_, h, fun E w => ?_⟩
      simp only [AV.conc, Sem.run_bind, eg, Result.andThen_ok]
      exact (run_binop_eql (r := true) (by simp) (by simp) (by simp) (by simp) (show (Op.equalIn (9999 + 1) t _ _).run P w = _ from by
        generalize 9999 = d; simp [Op.equalIn, run_underlying hu])).2
    · cases h
  · have eg : ∀ a b c d w, (eqGuard op t ox oy (.slice none a b) (.slice none c d)).run P w = .ok () w := fun a b c d w => by cases op <;> simp [eqGuard]
    split at h
    · rename_i hu
      refine ⟨_, h, fun E w => ?_⟩
      simp only [AV.conc, Sem.run_bind, eg, Result.andThen_ok]
      exact (run_binop_eql (by simp) (by simp) (by simp) (by simp) (show (Op.equalIn (9999 + 1) t _ _).run P w = _ from by
        generalize 9999 = d; simp [Op.equalIn, run_underlying hu])).1
    · rename_i hu
      refine ⟨_, h, fun E w => ?_⟩
      simp only [AV.conc, Sem.run_bind, eg, Result.andThen_ok]
      exact (run_binop_eql (r := true) (by simp) (by simp) (by simp) (by simp) (show (Op.equalIn (9999 + 1) t _ _).run P w = _ from by
        generalize 9999 = d; simp [Op.equalIn, run_underlying hu])).2
    · cases h
  · split at h
    · split at h
      · rename_i b hb
        refine ⟨_, h, fun E w => ?_⟩
        obtain ⟨h1, h2, _⟩ := cmpA_sound (E := E) hb .eql ox oy w
        simp only [Sem.run_bind, h1, Result.andThen_ok, h2]
      · cases h
    · split at h
      · rename_i b hb
        refine ⟨_, h, fun E w => ?_⟩
        obtain ⟨h1, _, h2⟩ := cmpA_sound (E := E) hb .neq ox oy w
        simp only [Sem.run_bind, h1, Result.andThen_ok, h2]
      · cases h
    · cases h

end Go.Sx

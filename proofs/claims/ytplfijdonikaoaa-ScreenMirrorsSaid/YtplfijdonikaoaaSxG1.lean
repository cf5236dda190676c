import Derived.Test.YtplfijdonikaoaaSxG
import Derived.Laws.BytesString
set_option linter.unusedVariables false
set_option linter.unusedSimpArgs false
namespace Go.Sx
open Go Go.RowKit

/-! The cells that a slice shows, one after another. -/

def flatC : List AV → List AV
  | [] => []
  | x :: l => x.cells ++ flatC l

theorem flatC_len {z : Nat} : ∀ (l : List AV), (∀ x, x ∈ l → x.cells.length = z) → (flatC l).length = l.length * z
  | [], _ => by simp [flatC]
  | x :: l, h => by
    simp only [flatC, List.length_append, List.length_cons, flatC_len l (fun y hy => h y (List.mem_cons_of_mem _ hy)), h x List.mem_cons_self]
    rw [Nat.add_mul]; omega
theorem flatC_get {z : Nat} : ∀ (l : List AV), (∀ x, x ∈ l → x.cells.length = z) → ∀ (q : Nat) (c : AV), (flatC l)[q]? = some c → ∃ i j x, l[i]? = some x ∧ x.cells[j]? = some c ∧ q = i * z + j
  | [], _, q, c, h => by simp [flatC] at h
  | x :: l, h, q, c, hq => by
    have hx := h x List.mem_cons_self
    simp only [flatC] at hq
    rcases Nat.lt_or_ge q z with hl | hl
    · rw [List.getElem?_append_left (by omega)] at hq
      exact ⟨0, q, x, rfl, hq, by omega⟩
    · rw [List.getElem?_append_right (by omega), hx] at hq
      obtain ⟨i, j, y, h1, h2, h3⟩ := flatC_get l (fun y hy => h y (List.mem_cons_of_mem _ hy)) (q - z) c hq
      exact ⟨i + 1, j, y, by simpa using h1, h2, by rw [Nat.add_mul]; omega⟩
theorem flatC_of {z : Nat} : ∀ (l : List AV), (∀ x, x ∈ l → x.cells.length = z) → ∀ (i j : Nat) (x c : AV), l[i]? = some x → x.cells[j]? = some c → (flatC l)[i * z + j]? = some c
  | [], _, i, j, x, c, h, _ => by simp at h
  | y :: l, h, i, j, x, c, hi, hj => by
    have hy := h y List.mem_cons_self
    simp only [flatC]
    cases i with
    | zero =>
      simp only [List.getElem?_cons_zero, Option.some.injEq] at hi
      subst hi
      rw [List.getElem?_append_left (by have := lt_of_get hj; omega), Nat.zero_mul, Nat.zero_add]
      exact hj
    | succ i =>
      rw [List.getElem?_append_right (by rw [hy, Nat.add_mul]; omega), hy]
      have := flatC_of l (fun y hy => h y (List.mem_cons_of_mem _ hy)) i j x c (by simpa using hi) hj
      rw [← this]
      congr 1
      rw [Nat.add_mul]; omega
theorem flatC_append (l m : List AV) : flatC (l ++ m) = flatC l ++ flatC m := by
  induction l with
  | nil => rfl
  | cons x l ih => simp [flatC, ih]

theorem fitsAll_ln : ∀ {ks : List CK} {l : List AV}, fitsAll ks l = true → ks.length = l.length
  | [], [], _ => rfl
  | [], _ :: _, h => by simp [fitsAll] at h
  | _ :: _, [], h => by simp [fitsAll] at h
  | k :: ks, a :: l, h => by
    simp only [fitsAll, Bool.and_eq_true] at h
    simp [fitsAll_ln h.2]
theorem fits_cells {k : CK} {a : AV} (h : k.fits a = true) : a.cells = [a] := by
  cases k <;> cases a <;> first | rfl | (simp [CK.fits] at h; done) | (rename_i v; cases v <;> first | rfl | (simp [CK.fits] at h; done))
theorem shape_len {isAgg : Bool} {sh : List CK} {x : AV} (h : x.shape isAgg sh = true) : x.cells.length = sh.length := by
  unfold AV.shape at h
  split at h
  · exact (fitsAll_ln h).symm
  · match sh, h with
    | [k], h =>
      simp only [fitsAll, Bool.and_true] at h
      rw [fits_cells h]; rfl
    | [], h => simp [fitsAll] at h
    | _ :: _ :: _, h => simp [fitsAll] at h
  · cases h

def srcA (M : Mem) (x : AV) (z : Nat) : Option (Nat × List AV) :=
  match x with
  | .sl b off len _ => match M.blks[b]? with
    | some (some X) => bif decide (off + len * z ≤ X.cells.length) then some (len, (X.cells.drop off).take (len * z)) else none
    | _ => none
  | .vec h => match M.vecs[h]? with
    | some (some e) => bif decide (e.sh.length = z) then some (e.cont.length, flatC e.cont) else none
    | _ => none
  | _ => none

theorem Addr.add_none (a : Addr) (h : a.spot = none) (j : Nat) : a.add j = ⟨a.block, a.off + j, none⟩ := by
  unfold Addr.add
  split
  · rename_i e; subst e; cases a; simp_all
  · cases a; simp_all

theorem srcA_sound {E : Env} {w0 : Bs} {w : World} {M : Mem} (hR : RepM E w0 M w) {x : AV} {z m : Nat} {cs : List AV} (h : srcA M x z = some (m, cs)) :
    (x.conc E = nilV ∧ m = 0 ∧ cs = []) ∨ ∃ a c news, x.conc E = .slice (some a) m c ∧ cs.length = m * z ∧ RelL E M cs news ∧ ∀ (j : Nat) (u : Value), news[j]? = some u → w.cell? (a.add j) = some u := by
  unfold srcA at h
  split at h
  · rename_i b off len cap
    split at h
    · rename_i X hX
      simp only [cond_eq_ite, decide_eq_true_eq] at h
      split at h
      · rename_i hle
        simp only [Option.some.injEq, Prod.mk.injEq] at h
        obtain ⟨rfl, rfl⟩ := h
        obtain ⟨_, arr, h2, h3⟩ := hR.blk b X hX
        refine .inr ⟨⟨E.ρ b, off, none⟩, cap, (arr.toList.drop off).take (len * z), rfl, by simp; omega, ⟨by simp [h3.len], fun i a v ha hv => ?_⟩, fun j u hj => ?_⟩
        · rw [List.getElem?_take] at ha hv
          split at ha
          · rename_i hi
            rw [if_pos hi] at hv
            rw [List.getElem?_drop] at ha hv
            exact h3.at_ _ a v ha hv
          · cases ha
        · rw [List.getElem?_take] at hj
          split at hj
          · rw [List.getElem?_drop] at hj
            rw [Addr.add_none _ rfl]
            simp only [World.cell?, h2]
            simpa using hj
          · cases hj
      · cases h
    · cases h
  · rename_i q
    split at h
    · rename_i e he
      simp only [cond_eq_ite, decide_eq_true_eq] at h
      split at h
      · rename_i hz
        subst hz
        simp only [Option.some.injEq, Prod.mk.injEq] at h
        obtain ⟨rfl, rfl⟩ := h
        rcases hR.vec q e he with ⟨hz, hz'⟩ | ⟨a, cap, arr, fz, hv⟩
        · exact .inl ⟨hz', by rw [hz]; rfl, by rw [hz]; rfl⟩
        have hcl : ∀ x, x ∈ e.cont → x.cells.length = e.sh.length := fun x hx => by
          obtain ⟨i, hi⟩ := List.mem_iff_getElem?.1 hx
          exact shape_len (hv.shape i x hi)
        have hfl := flatC_len e.cont hcl
        have hroom : e.cont.length * e.sh.length ≤ arr.size - a.off := by
          rcases hv.room with hr | hr
          · rw [hr]; simp
          · omega
        refine .inr ⟨a, cap, (arr.toList.drop a.off).take (e.cont.length * e.sh.length), hv.val, hfl, ⟨by simp [hfl]; omega, fun i c v hc hvv => ?_⟩, fun j u hj => ?_⟩
        · obtain ⟨i', j', x, h1, h2, rfl⟩ := flatC_get e.cont hcl i c hc
          obtain ⟨u, hu, hr⟩ := hv.cell i' x h1 j' c h2
          rw [List.getElem?_take] at hvv
          split at hvv
          · rw [List.getElem?_drop] at hvv
            have : arr[a.off + (i' * e.sh.length + j')]? = some v := by simpa using hvv
            rw [hu] at this
            simp only [Option.some.injEq] at this
            exact this ▸ hr
          · cases hvv
        · rw [List.getElem?_take] at hj
          split at hj
          · rw [List.getElem?_drop] at hj
            rw [Addr.add_none _ hv.spot]
            simp only [World.cell?, hv.blk]
            simpa using hj
          · cases hj
      · cases h
    · cases h
  · cases h

/-! a string of bytes -/
def bytesA : List AV → Option (List Int)
  | [] => some []
  | .lit (.int .u8 n) :: l => match bytesA l with
    | some ns => some (n :: ns)
    | none => none
  | _ => none
theorem bytesA_eq : ∀ {l : List AV} {ns : List Int}, bytesA l = some ns → l = ns.map fun n => AV.lit (.int .u8 n)
  | [], ns, h => by simp only [bytesA, Option.some.injEq] at h; subst h; rfl
  | a :: l, ns, h => by
    unfold bytesA at h
    split at h
    · rename_i hh; cases hh
    · rename_i n l' hh
      cases hh
      split at h
      · rename_i ms hms
        simp only [Option.some.injEq] at h
        subst h
        rw [bytesA_eq hms]; rfl
      · cases h
    · cases h
def strOf (ns : List Int) : ByteArray := ns.foldl (fun r n => r.push (UInt8.ofNat n.toNat)) ByteArray.empty
def convA {R : Type} (P : Program) (M : Mem) (s d : TypeId) (x : AV) (k : AV → Option R) : Option R :=
  match P.underlying s, P.underlying d with
  | some (.slice e), some .string => match P.underlying e with
    | some (.int .u8) => match x with
      | .vec h => match M.vecs[h]? with
        | some (some e) => bif decide (e.sh = [.int .u8]) && !e.isAgg then k (.lit (.string (strOf (e.cont.map AV.getInt)))) else none
        | _ => none
      | _ => match srcA M x 1 with
        | some (_, cs) => match bytesA cs with
          | some ns => k (.lit (.string (strOf ns)))
          | none => none
        | none => none
    | _ => none
  | _, _ => none

theorem run_conv_nil {P : Program} (w : World) (src dst e : TypeId) (hs : P.underlying src = some (.slice e)) (he : P.underlying e = some (.int .u8)) (hd : P.underlying dst = some .string) : (convert src dst nilV).run P w = .ok (.string (strOf [])) w := by
  unfold nilV
  rw [run_convert_bytes_string w src dst e none 0 0 hs he hd]
  rfl
theorem ints_of_shape {l : List AV} {k : IntKind} (h : ∀ x, x ∈ l → x.shape false [.int k] = true) : l = (l.map AV.getInt).map fun n => AV.lit (.int k n) := by
  induction l with
  | nil => rfl
  | cons a l ih =>
    simp only [List.map_cons]
    rw [← ih fun x hx => h x (List.mem_cons_of_mem _ hx)]
    congr 1
    have := h a List.mem_cons_self
    cases a with
    | lit v => cases v with
      | int k' n =>
        simp [AV.shape, fitsAll, CK.fits] at this
        subst this; rfl
      | _ => simp [AV.shape, fitsAll, CK.fits] at this
    | _ => simp [AV.shape, fitsAll, CK.fits] at this
theorem flatC_ints (l : List Int) (k : IntKind) : flatC (l.map fun n => AV.lit (.int k n)) = l.map fun n => AV.lit (.int k n) := by
  induction l with
  | nil => rfl
  | cons a l ih => simp only [List.map_cons, flatC, AV.cells, ih]; rfl
theorem run_conv_row {P : Program} {E : Env} {M : Mem} {w : World} {v : Value} {ns : List Int} {m : Nat} {s d e : TypeId} (hs : P.underlying s = some (.slice e)) (he : P.underlying e = some (.int .u8)) (hd : P.underlying d = some .string)
    (h : (v = nilV ∧ m = 0 ∧ (ns.map fun n => AV.lit (.int .u8 n)) = []) ∨ ∃ a c news, v = .slice (some a) m c ∧ (ns.map fun n => AV.lit (.int .u8 n)).length = m * 1 ∧ RelL E M (ns.map fun n => AV.lit (.int .u8 n)) news ∧ ∀ (j : Nat) (u : Value), news[j]? = some u → w.cell? (a.add j) = some u) :
    (convert s d v).run P w = .ok (.string (strOf ns)) w := by
  rcases h with ⟨rfl, _, h3⟩ | ⟨a, c, news, hx, hlen, hrel, hcell⟩
  · have : ns = [] := by simpa using h3
    subst this
    exact run_conv_nil w s d e hs he hd
  · have hnews : news = ns.map (Value.int .u8) := by
      apply List.ext_getElem?
      intro i
      cases hi : ns[i]? with
      | none =>
        have : ns.length ≤ i := by simpa using hi
        rw [List.getElem?_eq_none (by rw [← hrel.len]; simpa using this)]
        simp [hi]
      | some n =>
        have h1 : (ns.map fun n => AV.lit (.int .u8 n))[i]? = some (.lit (.int .u8 n)) := by simp [hi]
        obtain ⟨v, hv, hrv⟩ := hrel.get h1
        rw [hv, hrv.2 rfl]
        simp [hi, AV.conc]
    have hm : ns.length = m := by rw [Nat.mul_one] at hlen; rw [← hlen]; simp
    rw [hx, run_convert_bytes_string w s d e (some a) m c hs he hd]
    have hl := run_loadCells_list (P := P) w a news hcell
    rw [hnews] at hl
    simp only [List.length_map, hm] at hl
    rw [run_bytesToString w a m c ns hl]
    rfl

theorem convA_sound {R : Type} {P : Program} {M : Mem} {s d : TypeId} {x : AV} {k : AV → Option R} {r : R} (h : convA P M s d x k = some r) :
    ∃ u : Value, k (.lit u) = some r ∧ ∀ E w0 w, RepM E w0 M w → (convert s d (x.conc E)).run P w = .ok u w := by
  unfold convA at h
  split at h
  · rename_i e hs hd
    split at h
    · rename_i he
      split at h
      · rename_i q
        split at h
        · rename_i e' hq
          simp only [cond_eq_ite, Bool.and_eq_true, decide_eq_true_eq, Bool.not_eq_true'] at h
          split at h
          · rename_i hc
            refine ⟨_, h, fun E w0 w hR => ?_⟩
            have hl := ints_of_shape (l := e'.cont) (k := .u8) fun y hy => by
              obtain ⟨i, hi⟩ := List.mem_iff_getElem?.1 hy
              have := hR.shape hq hi
              rwa [hc.1, hc.2] at this
            have hsrc : srcA M (.vec q) 1 = some (e'.cont.length, flatC e'.cont) := by simp [srcA, hq, hc.1]
            have := srcA_sound hR hsrc
            have hf : flatC e'.cont = (e'.cont.map AV.getInt).map fun n => AV.lit (.int .u8 n) := by
              conv => lhs; rw [hl]
              exact flatC_ints _ _
            rw [hf] at this
            exact run_conv_row hs he hd this
          · cases h
        · cases h
      · split at h
        · rename_i m cs hsrc
          split at h
          · rename_i ns hns
            refine ⟨_, h, fun E w0 w hR => ?_⟩
            have := srcA_sound hR hsrc
            rw [bytesA_eq hns] at this
            exact run_conv_row hs he hd this
          · cases h
        · cases h
    · cases h
  · cases h

end Go.Sx

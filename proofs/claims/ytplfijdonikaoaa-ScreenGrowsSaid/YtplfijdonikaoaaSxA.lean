import Derived.WalkKit
import Derived.LoopN
import Derived.Deep.Quiet
import Derived.StillTail
import Derived.Laws.Cover3
import Derived.Laws.Panics
set_option linter.unusedVariables false
set_option linter.unusedSimpArgs false
namespace Go.Sx
open Go Go.RowKit

/-! Abstract values -/
inductive AV where
  | lit (v : Value)
  | agg (cs : List AV)
  | tup (vs : List AV)
  | ptr (b off : Nat)
  | sl (b off len cap : Nat)
  | fn (f : FuncId) (caps : List AV)
  | vec (h : Nat)
  | vptr (h i z j : Nat)
  | bad

structure Env where
  ρ : Nat → Nat
  σ : Nat → Value

def Env.va (E : Env) (h : Nat) : Addr := match E.σ h with | .slice (some a) _ _ => a | _ => default
/-- the block of a row, if it has one -/
def Env.bk (E : Env) (h : Nat) : Option Nat := match E.σ h with | .slice (some a) _ _ => some a.block | _ => none
def nilV : Value := .slice none 0 0

mutual
def AV.conc (E : Env) : AV → Value
  | .lit v => v
  | .agg cs => .agg (concL E cs).toArray
  | .tup vs => .tuple (concL E vs).toArray
  | .ptr b off => .pointer (some ⟨E.ρ b, off, none⟩)
  | .sl b off len cap => .slice (some ⟨E.ρ b, off, none⟩) len cap
  | .fn f caps => .func (.func f) #[] (concL E caps).toArray
  | .vec h => E.σ h
  | .vptr h i z j => .pointer (some ⟨(E.va h).block, (E.va h).off + (i * z + j), none⟩)
  | .bad => undef
def concL (E : Env) : List AV → List Value
  | [] => []
  | a :: l => a.conc E :: concL E l
end

mutual
/-- all names are below n (blocks) and m (handles) -/
def AV.sc (n m : Nat) : AV → Bool
  | .lit _ => true
  | .agg cs => scL n m cs
  | .tup vs => scL n m vs
  | .ptr b _ => decide (b < n)
  | .sl b _ _ _ => decide (b < n)
  | .fn _ caps => scL n m caps
  | .vec h => decide (h < m)
  | .vptr h _ _ _ => decide (h < m)
  | .bad => true
def scL (n m : Nat) : List AV → Bool
  | [] => true
  | a :: l => a.sc n m && scL n m l
end

mutual
/-- no dead name, nothing unknown (L: of blocks at even places, of handles at odd ones) -/
def AV.lv (L : Nat → Bool) : AV → Bool
  | .lit _ => true
  | .agg cs => lvL L cs
  | .tup vs => lvL L vs
  | .ptr b _ => L (2 * b)
  | .sl b _ _ _ => L (2 * b)
  | .fn _ caps => lvL L caps
  | .vec h => L (2 * h + 1)
  | .vptr h _ _ _ => L (2 * h + 1)
  | .bad => false
def lvL (L : Nat → Bool) : List AV → Bool
  | [] => true
  | a :: l => a.lv L && lvL L l
end

theorem concL_eq (E : Env) (l : List AV) : concL E l = l.map (AV.conc E) := by
  induction l with
  | nil => simp [concL]
  | cons a l ih => simp [concL, ih]
theorem scL_eq (n m : Nat) (l : List AV) : scL n m l = l.all (AV.sc n m) := by
  induction l with
  | nil => simp [scL]
  | cons a l ih => simp [scL, ih]
theorem lvL_eq (L : Nat → Bool) (l : List AV) : lvL L l = l.all (AV.lv L) := by
  induction l with
  | nil => simp [lvL]
  | cons a l ih => simp [lvL, ih]

theorem sc_mono {n m n' m' : Nat} (h : n ≤ n') (h' : m ≤ m') : ∀ a : AV, a.sc n m = true → a.sc n' m' = true := by
  intro a
  apply AV.rec (motive_1 := fun a => a.sc n m = true → a.sc n' m' = true) (motive_2 := fun l => scL n m l = true → scL n' m' l = true)
  case lit => intros; simp [AV.sc]
  case agg => intro cs ih h; simp only [AV.sc] at *; exact ih h
  case tup => intro cs ih h; simp only [AV.sc] at *; exact ih h
  case ptr => intro b off h; simp only [AV.sc, decide_eq_true_eq] at *; omega
  case sl => intro b off _ _ h; simp only [AV.sc, decide_eq_true_eq] at *; omega
  case fn => intro f cs ih h; simp only [AV.sc] at *; exact ih h
  case vec => intro b h; simp only [AV.sc, decide_eq_true_eq] at *; omega
  case vptr => intro b _ _ _ h; simp only [AV.sc, decide_eq_true_eq] at *; omega
  case bad => intro h; rfl
  case nil => intro h; rfl
  case cons => intro a l iha ihl h; simp only [scL, Bool.and_eq_true] at *; exact ⟨iha h.1, ihl h.2⟩

/-- what is alive in L' was alive in L, among the names that are known -/
theorem lv_mono {n m : Nat} {L L' : Nat → Bool} (h : ∀ i, i < n → L' (2 * i) = true → L (2 * i) = true) (h' : ∀ i, i < m → L' (2 * i + 1) = true → L (2 * i + 1) = true) : ∀ a : AV, a.sc n m = true → a.lv L' = true → a.lv L = true := by
  intro a
  apply AV.rec (motive_1 := fun a => a.sc n m = true → a.lv L' = true → a.lv L = true) (motive_2 := fun l => scL n m l = true → lvL L' l = true → lvL L l = true)
  case lit => intros; simp [AV.lv]
  case agg => intro cs ih h; simp only [AV.sc, AV.lv] at *; exact ih h
  case tup => intro cs ih h; simp only [AV.sc, AV.lv] at *; exact ih h
  case ptr => intro b _ hb h1; simp only [AV.sc, decide_eq_true_eq, AV.lv] at *; exact h _ hb h1
  case sl => intro b _ _ _ hb h1; simp only [AV.sc, decide_eq_true_eq, AV.lv] at *; exact h _ hb h1
  case fn => intro f cs ih h; simp only [AV.sc, AV.lv] at *; exact ih h
  case vec => intro b hb h1; simp only [AV.sc, decide_eq_true_eq, AV.lv] at *; exact h' _ hb h1
  case vptr => intro b _ _ _ hb h1; simp only [AV.sc, decide_eq_true_eq, AV.lv] at *; exact h' _ hb h1
  case bad => intro _ h; exact h
  case nil => intros; rfl
  case cons => intro a l iha ihl h h1; simp only [scL, lvL, Bool.and_eq_true] at *; exact ⟨iha h.1 h1.1, ihl h.2 h1.2⟩

structure Env.le (n m : Nat) (E E' : Env) : Prop where
  ρ : ∀ b, b < n → E'.ρ b = E.ρ b
  σ : ∀ b, b < m → E'.σ b = E.σ b
theorem Env.le.refl (n m : Nat) (E : Env) : Env.le n m E E := ⟨fun _ _ => rfl, fun _ _ => rfl⟩
theorem Env.le.trans {n m n' m' : Nat} {E E' E'' : Env} (h : Env.le n m E E') (h' : Env.le n' m' E' E'') (hn : n ≤ n') (hm : m ≤ m') : Env.le n m E E'' :=
  ⟨fun b hb => (h'.ρ b (by omega)).trans (h.ρ b hb), fun b hb => (h'.σ b (by omega)).trans (h.σ b hb)⟩

theorem conc_le {n m : Nat} {E E' : Env} (h : Env.le n m E E') : ∀ a : AV, a.sc n m = true → a.conc E' = a.conc E := by
  intro a
  apply AV.rec (motive_1 := fun a => a.sc n m = true → a.conc E' = a.conc E) (motive_2 := fun l => scL n m l = true → concL E' l = concL E l)
  case lit => intros; simp [AV.conc]
  case agg => intro cs ih h; simp only [AV.sc, AV.conc] at *; rw [ih h]
  case tup => intro cs ih h; simp only [AV.sc, AV.conc] at *; rw [ih h]
  case ptr => intro b off hb; simp only [AV.sc, decide_eq_true_eq, AV.conc] at *; rw [h.ρ b hb]
  case sl => intro b off _ _ hb; simp only [AV.sc, decide_eq_true_eq, AV.conc] at *; rw [h.ρ b hb]
  case fn => intro f cs ih h; simp only [AV.sc, AV.conc] at *; rw [ih h]
  case vec => intro b hb; simp only [AV.sc, decide_eq_true_eq, AV.conc] at *; rw [h.σ b hb]
  case vptr => intro b _ _ _ hb; simp only [AV.sc, decide_eq_true_eq, AV.conc, Env.va] at *; rw [h.σ b hb]
  case bad => intro h; rfl
  case nil => intro h; rfl
  case cons => intro a l iha ihl h; simp only [scL, Bool.and_eq_true, concL] at *; rw [iha h.1, ihl h.2]

/-! Memory -/
structure Blk where
  elem : TypeId
  own : Bool
  cells : List AV

inductive CK where
  | int (k : IntKind)
  | bool
  | str
  | any
  deriving DecidableEq

structure Ent where
  elem : TypeId
  isAgg : Bool
  sh : List CK
  terr : Nat
  own : Bool
  head : Bool
  cont : List AV

structure Mem where
  blks : List (Option Blk)
  vecs : List (Option Ent)

def aliveB (M : Mem) (b : Nat) : Bool := match M.blks[b]? with | some (some _) => true | _ => false
def aliveV (M : Mem) (h : Nat) : Bool := match M.vecs[h]? with | some (some _) => true | _ => false
def Mem.live (M : Mem) (i : Nat) : Bool := match i % 2 with | 0 => aliveB M (i / 2) | _ => aliveV M (i / 2)
theorem live_even (M : Mem) (b : Nat) : M.live (2 * b) = aliveB M b := by
  unfold Mem.live
  rw [show 2 * b % 2 = 0 from by omega, show 2 * b / 2 = b from by omega]
  rfl
theorem live_odd (M : Mem) (h : Nat) : M.live (2 * h + 1) = aliveV M h := by
  unfold Mem.live
  rw [show (2 * h + 1) % 2 = 1 from by omega, show (2 * h + 1) / 2 = h from by omega]
  rfl


structure St where
  tm : List AV
  M : Mem

def AV.cells : AV → List AV
  | .agg cs => cs
  | .lit (.agg cs) => cs.toList.map AV.lit
  | v => [v]

def AV.getInt : AV → Int
  | .lit (.int _ n) => n
  | _ => 0
def AV.getBool : AV → Bool
  | .lit (.bool b) => b
  | _ => false
def AV.getStr : AV → ByteArray
  | .lit (.string s) => s
  | _ => ByteArray.empty

def CK.norm : CK → AV → AV
  | .int k, a => .lit (.int k a.getInt)
  | .bool, a => .lit (.bool a.getBool)
  | .str, a => .lit (.string a.getStr)
  | .any, a => a
def CK.fits : CK → AV → Bool
  | .int k, .lit (.int k' _) => decide (k' = k)
  | .bool, .lit (.bool _) => true
  | .str, .lit (.string _) => true
  | .any, .agg _ => false
  | .any, .tup _ => false
  | .any, .lit (.agg _) => false
  | .any, .lit (.tuple _) => false
  | .any, _ => true
  | _, _ => false

def RelS (E : Env) (M : Mem) (a : AV) (v : Value) : Prop := a.sc M.blks.length M.vecs.length = true ∧ (a.lv M.live = true → v = a.conc E)

structure RelL (E : Env) (M : Mem) (l : List AV) (vs : List Value) : Prop where
  len : l.length = vs.length
  at_ : ∀ (i : Nat) (a : AV) (v : Value), l[i]? = some a → vs[i]? = some v → RelS E M a v

/-- fit of an element -/
def fitsAll : List CK → List AV → Bool
  | [], [] => true
  | k :: ks, a :: l => k.fits a && fitsAll ks l
  | _, _ => false
def AV.shape (isAgg : Bool) (sh : List CK) (a : AV) : Bool :=
  match isAgg, a with
  | true, .agg cs => fitsAll sh cs
  | false, a => fitsAll sh [a]
  | _, _ => false

/-- where a walk began, and which blocks it may turn: all new ones, and perhaps a few that it was lent -/
structure Bs where
  w0 : World
  Wr : Nat → Prop
  up : ∀ i, w0.heap.size ≤ i → Wr i
def Bs.of (w : World) : Bs := ⟨w, fun i => w.heap.size ≤ i, fun _ h => h⟩
theorem Bs.lt {B : Bs} {i : Nat} (h : ¬ B.Wr i) : i < B.w0.heap.size := Nat.lt_of_not_le fun hh => h (B.up i hh)
structure Keeps (B : Bs) (w : World) : Prop where
  os : w.os = B.w0.os
  tape : w.tape = B.w0.tape
  output : w.output = B.w0.output
  size : B.w0.heap.size ≤ w.heap.size
  block : ∀ k, ¬ B.Wr k → w.heap[k]? = B.w0.heap[k]?
theorem Keeps.refl (B : Bs) : Keeps B B.w0 := ⟨rfl, rfl, rfl, Nat.le_refl _, fun _ _ => rfl⟩
theorem Keeps.toBelow {w0 w : World} (h : Keeps (Bs.of w0) w) : Below w0.heap.size w0 w := ⟨h.os, h.tape, h.output, h.size, fun k hk => h.block k fun hh => Nat.lt_irrefl _ (Nat.lt_of_lt_of_le hk hh)⟩
theorem Keeps.later {B : Bs} {w w' : World} (h : Keeps B w) (hb : Below w.heap.size w w') : Keeps B w' :=
  ⟨hb.os.trans h.os, hb.tape.trans h.tape, hb.output.trans h.output, Nat.le_trans h.size hb.size, fun k hk => (hb.block k (Nat.lt_of_lt_of_le (Bs.lt hk) h.size)).trans (h.block k hk)⟩
theorem Keeps.drew {B : Bs} {w : World} (h : Keeps B w) : Keeps B w.drew := ⟨h.os, h.tape, h.output, h.size, h.block⟩
theorem Keeps.alloc {B : Bs} {w : World} (h : Keeps B w) (o : Obj) : Keeps B (w.alloc o) := h.later ((Below.refl _ _).alloc (Nat.le_refl _) o)
theorem Keeps.setCell {B : Bs} {w : World} (h : Keeps B w) {p : Addr} (hp : B.Wr p.block) (u : Value) : Keeps B (w.setCell p u) :=
  ⟨h.os, h.tape, h.output, by simpa [World.setCell] using h.size, fun k hk => (Below.heap_setCell w p u k fun e => hk (e ▸ hp)).trans (h.block k hk)⟩

structure VecOk (E : Env) (B : Nat → Prop) (M : Mem) (w : World) (h : Nat) (e : Ent) (a : Addr) (cap : Nat) (cs : Array Value) (fz : Nat × Nat) : Prop where
  val : E.σ h = .slice (some a) e.cont.length cap
  spot : a.spot = none
  le : e.cont.length ≤ cap
  blk : w.heap[a.block]? = some (.cells cs e.elem fz)
  room : e.cont.length = 0 ∨ a.off + e.cont.length * e.sh.length ≤ cs.size
  shape : ∀ (i : Nat) (x : AV), e.cont[i]? = some x → x.shape e.isAgg e.sh = true
  cell : ∀ (i : Nat) (x : AV), e.cont[i]? = some x → ∀ (j : Nat) (c : AV), x.cells[j]? = some c → ∃ u, cs[a.off + (i * e.sh.length + j)]? = some u ∧ RelS E M c u
  old : e.own = false → ¬ B a.block
  head : e.head = true → a.off = 0 ∧ cs.size = cap * e.sh.length ∧ cap ≤ maxLen
  mine : e.own = true → B a.block ∧ fz = (0, 0) ∧ ∀ (b : Nat) (x : Blk), M.blks[b]? = some (some x) → E.ρ b ≠ a.block

structure RepM (E : Env) (w0 : Bs) (M : Mem) (w : World) : Prop where
  below : Keeps w0 w
  blk : ∀ (b : Nat) (x : Blk), M.blks[b]? = some (some x) → ((x.own = true → w0.Wr (E.ρ b)) ∧ (x.own = false → ¬ w0.Wr (E.ρ b))) ∧ ∃ cs : Array Value, w.heap[E.ρ b]? = some (.cells cs x.elem (0, 0)) ∧ RelL E M x.cells cs.toList
  inj : ∀ (b b' : Nat) (x x' : Blk), M.blks[b]? = some (some x) → M.blks[b']? = some (some x') → E.ρ b = E.ρ b' → b = b'
  vec : ∀ (h : Nat) (e : Ent), M.vecs[h]? = some (some e) → (e.cont = [] ∧ E.σ h = nilV) ∨ ∃ a cap cs fz, VecOk E w0.Wr M w h e a cap cs fz
  terr : ∀ (h h' : Nat) (e e' : Ent), M.vecs[h]? = some (some e) → M.vecs[h']? = some (some e') → e.own = true → e'.own = true → ∀ g, E.bk h = some g → E.bk h' = some g → e.terr = e'.terr

theorem VecOk.va {E : Env} {B : Nat → Prop} {M : Mem} {w : World} {h : Nat} {e : Ent} {a : Addr} {cap : Nat} {cs : Array Value} {fz : Nat × Nat} (hv : VecOk E B M w h e a cap cs fz) : E.va h = a := by simp [Env.va, hv.val]
theorem VecOk.bk {E : Env} {B : Nat → Prop} {M : Mem} {w : World} {h : Nat} {e : Ent} {a : Addr} {cap : Nat} {cs : Array Value} {fz : Nat × Nat} (hv : VecOk E B M w h e a cap cs fz) : E.bk h = some a.block := by simp [Env.bk, hv.val]
theorem bk_nil {E : Env} {h : Nat} (hz : E.σ h = nilV) : E.bk h = none := by simp [Env.bk, hz, nilV]

structure Rep (E : Env) (w0 : Bs) (st : St) (a : Act) (w : World) : Prop where
  mem : RepM E w0 st.M w
  tm : RelL E st.M st.tm a.tmps.toList
  defers : a.defers = []

/-- M' is a later memory: more names, fewer alive among the old ones -/
structure Mem.le (M M' : Mem) : Prop where
  nb : M.blks.length ≤ M'.blks.length
  nh : M.vecs.length ≤ M'.vecs.length
  liveB : ∀ i, i < M.blks.length → aliveB M' i = true → aliveB M i = true
  liveV : ∀ i, i < M.vecs.length → aliveV M' i = true → aliveV M i = true
theorem Mem.le.refl (M : Mem) : Mem.le M M := ⟨Nat.le_refl _, Nat.le_refl _, fun _ _ h => h, fun _ _ h => h⟩
theorem Mem.le.trans {M M' M'' : Mem} (h : Mem.le M M') (h' : Mem.le M' M'') : Mem.le M M'' :=
  ⟨Nat.le_trans h.nb h'.nb, Nat.le_trans h.nh h'.nh, fun i hi hl => h.liveB i hi (h'.liveB i (Nat.lt_of_lt_of_le hi h.nb) hl), fun i hi hl => h.liveV i hi (h'.liveV i (Nat.lt_of_lt_of_le hi h.nh) hl)⟩
theorem Mem.le.live {M M' : Mem} (h : Mem.le M M') : (∀ i, i < M.blks.length → M'.live (2 * i) = true → M.live (2 * i) = true) ∧ (∀ i, i < M.vecs.length → M'.live (2 * i + 1) = true → M.live (2 * i + 1) = true) :=
  ⟨fun i hi => by rw [live_even, live_even]; exact h.liveB i hi, fun i hi => by rw [live_odd, live_odd]; exact h.liveV i hi⟩

/-- what a step does to names -/
structure Step (E : Env) (M : Mem) (E' : Env) (M' : Mem) : Prop where
  mem : Mem.le M M'
  env : Env.le M.blks.length M.vecs.length E E'
theorem Step.refl (E : Env) (M : Mem) : Step E M E M := ⟨Mem.le.refl M, Env.le.refl _ _ E⟩
theorem Step.trans {E E' E'' : Env} {M M' M'' : Mem} (h : Step E M E' M') (h' : Step E' M' E'' M'') : Step E M E'' M'' :=
  ⟨h.mem.trans h'.mem, h.env.trans h'.env h.mem.nb h.mem.nh⟩

theorem RelS.step {E E' : Env} {M M' : Mem} (h : Step E M E' M') {a : AV} {v : Value} (hr : RelS E M a v) : RelS E' M' a v :=
  ⟨sc_mono h.mem.nb h.mem.nh a hr.1, fun hl => (hr.2 (lv_mono h.mem.live.1 h.mem.live.2 a hr.1 hl)).trans (conc_le h.env a hr.1).symm⟩
theorem RelL.step {E E' : Env} {M M' : Mem} (h : Step E M E' M') {a : List AV} {v : List Value} (hr : RelL E M a v) : RelL E' M' a v :=
  ⟨hr.len, fun i x y hx hy => (hr.at_ i x y hx hy).step h⟩

def ev (tm : List AV) : Operand → AV
  | .tmp t => tm.getD t .bad
  | .const v => .lit v
  | .global _ => .bad
  | .func f => .lit (.func (.func f) #[] #[])

theorem RelS.bad (E : Env) (M : Mem) (v : Value) : RelS E M .bad v := ⟨rfl, fun h => by cases h⟩
theorem RelS.lit (E : Env) (M : Mem) (v : Value) : RelS E M (.lit v) v := ⟨rfl, fun _ => rfl⟩

theorem RelL.ev {E : Env} {M : Mem} {tm : List AV} {a : Act} (h : RelL E M tm a.tmps.toList) (x : Operand) : RelS E M (Sx.ev tm x) (a.eval x) := by
  cases x with
  | tmp t =>
    simp only [Sx.ev, Act.eval]
    by_cases ht : t < tm.length
    · have h1 : tm[t]? = some tm[t] := List.getElem?_eq_getElem ht
      have ht2 : t < a.tmps.toList.length := h.len ▸ ht
      have h2 : a.tmps.toList[t]? = some a.tmps.toList[t] := List.getElem?_eq_getElem ht2
      have h3 := h.at_ t _ _ h1 h2
      have e1 : tm.getD t .bad = tm[t] := by simp [List.getD, h1]
      have e2 : a.tmps.getD t undef = a.tmps.toList[t] := by
        have : t < a.tmps.size := by simpa using ht2
        simp [Array.getD, this]
      rw [e1, e2]; exact h3
    · have e1 : tm.getD t .bad = .bad := by simp [List.getD, List.getElem?_eq_none (Nat.le_of_not_lt ht)]
      rw [e1]; exact RelS.bad _ _ _
  | const v => exact RelS.lit _ _ _
  | global g => exact RelS.bad _ _ _
  | func f => exact RelS.lit _ _ _

theorem RelL.set {E : Env} {M : Mem} {l : List AV} {vs : List Value} (h : RelL E M l vs) (i : Nat) {a : AV} {v : Value} (hr : RelS E M a v) : RelL E M (l.set i a) (vs.set i v) := by
  refine ⟨by simp [h.len], fun j x y hx hy => ?_⟩
  rw [List.getElem?_set] at hx hy
  by_cases e : i = j
  · subst e
    simp only [if_true] at hx hy
    split at hx
    · split at hy
      · simp only [Option.some.injEq] at hx hy; subst hx; subst hy; exact hr
      · cases hy
    · cases hx
  · rw [if_neg e] at hx hy; exact h.at_ j x y hx hy

def putT (tm : List AV) (dst : Option Tmp) (v : AV) : List AV :=
  match dst with
  | some d => tm.set d v
  | none => tm

theorem RelL.put {E : Env} {M : Mem} {tm : List AV} {a : Act} (h : RelL E M tm a.tmps.toList) (dst : Option Tmp) {x : AV} {v : Value} (hr : RelS E M x v) :
    RelL E M (putT tm dst x) (a.put dst v).tmps.toList := by
  cases dst with
  | none => exact h
  | some d => simp only [putT, Act.put, Array.toList_setIfInBounds]; exact h.set d hr

theorem put_defers (a : Act) (dst : Option Tmp) (v : Value) : (a.put dst v).defers = a.defers := by cases dst <;> rfl

theorem RelL.get {E : Env} {M : Mem} {l : List AV} {vs : List Value} (h : RelL E M l vs) {i : Nat} {a : AV} (ha : l[i]? = some a) : ∃ v, vs[i]? = some v ∧ RelS E M a v := by
  have hi : i < l.length := by
    rcases Nat.lt_or_ge i l.length with hl | hl
    · exact hl
    · rw [List.getElem?_eq_none hl] at ha; cases ha
  have hi' : i < vs.length := h.len ▸ hi
  have hv : vs[i]? = some vs[i] := List.getElem?_eq_getElem hi'
  exact ⟨_, hv, h.at_ i a _ ha hv⟩

theorem RepM.drew {E : Env} {w0 : Bs} {M : Mem} {w : World} (h : RepM E w0 M w) : RepM E w0 M w.drew :=
  ⟨h.below.drew, h.blk, h.inj, fun i e he => (h.vec i e he).elim .inl fun ⟨a, cap, cs, fz, hv⟩ => .inr ⟨a, cap, cs, fz, { hv with blk := hv.blk }⟩, h.terr⟩

theorem lt_of_get {α : Type} {l : List α} {i : Nat} {a : α} (h : l[i]? = some a) : i < l.length := by
  rcases Nat.lt_or_ge i l.length with hl | hl
  · exact hl
  · rw [List.getElem?_eq_none hl] at h; cases h

theorem heap_lt {w : World} {i : Nat} {o : Obj} (h : w.heap[i]? = some o) : i < w.heap.size := by
  rcases Nat.lt_or_ge i w.heap.size with hl | hl
  · exact hl
  · rw [Array.getElem?_eq_none hl] at h; cases h

/-- whatever keeps what was there keeps the representation -/
theorem RepM.later {E : Env} {w0 : Bs} {M : Mem} {w w' : World} (h : RepM E w0 M w) (hb : Below w.heap.size w w') : RepM E w0 M w' := by
  refine ⟨h.below.later hb, fun b x hx => ?_, h.inj, fun i e he => ?_, h.terr⟩
  · obtain ⟨h1, cs, h2, h3⟩ := h.blk b x hx
    exact ⟨h1, cs, (hb.block _ (heap_lt h2)).trans h2, h3⟩
  · rcases h.vec i e he with hz | ⟨a, cap, cs, fz, hv⟩
    · exact .inl hz
    exact .inr ⟨a, cap, cs, fz, { hv with blk := (hb.block _ (heap_lt hv.blk)).trans hv.blk }⟩

def Env.setB (E : Env) (n r : Nat) : Env := { E with ρ := fun b => if b = n then r else E.ρ b }
theorem Env.setB_le (E : Env) (n r m : Nat) : Env.le n m E (E.setB n r) := ⟨fun b hb => by simp [Env.setB]; omega, fun _ _ => rfl⟩

def Mem.addB (M : Mem) (x : Blk) : Mem := { M with blks := M.blks ++ [some x] }
theorem aliveB_addB (M : Mem) (x : Blk) (i : Nat) (hi : i < M.blks.length) : aliveB (M.addB x) i = aliveB M i := by
  unfold aliveB Mem.addB
  simp only [List.getElem?_append_left hi]
theorem Mem.addB_le (M : Mem) (x : Blk) : Mem.le M (M.addB x) :=
  ⟨by simp [Mem.addB], Nat.le_refl _, fun i hi h => by rwa [aliveB_addB M x i hi] at h, fun _ _ h => h⟩

theorem addB_cases {M : Mem} {x : Blk} {b : Nat} {y : Blk} (h : (M.addB x).blks[b]? = some (some y)) : (b < M.blks.length ∧ M.blks[b]? = some (some y)) ∨ (b = M.blks.length ∧ y = x) := by
  simp only [Mem.addB] at h
  rcases Nat.lt_or_ge b M.blks.length with hi | hi
  · rw [List.getElem?_append_left hi] at h; exact .inl ⟨hi, h⟩
  · have hl := lt_of_get h
    simp at hl
    have : b = M.blks.length := by omega
    subst this
    simp at h
    exact .inr ⟨rfl, h.symm⟩

theorem RepM.lt {E : Env} {w0 : Bs} {M : Mem} {w : World} (h : RepM E w0 M w) {b : Nat} {x : Blk} (hx : M.blks[b]? = some (some x)) : E.ρ b < w.heap.size := by
  obtain ⟨_, cs, h2, _⟩ := h.blk b x hx
  exact heap_lt h2

theorem RepM.alloc {E : Env} {w0 : Bs} {M : Mem} {w : World} (h : RepM E w0 M w) (x : Blk) (hown : x.own = true) (cs : Array Value) (hc : RelL E M x.cells cs.toList) :
    RepM (E.setB M.blks.length w.heap.size) w0 (M.addB x) (w.alloc (.cells cs x.elem)) ∧ Step E M (E.setB M.blks.length w.heap.size) (M.addB x) := by
  have hs : w0.Wr w.heap.size := w0.up _ h.below.size
  have hst : Step E M (E.setB M.blks.length w.heap.size) (M.addB x) := ⟨M.addB_le x, E.setB_le _ _ _⟩
  have hρ : ∀ b, b < M.blks.length → (E.setB M.blks.length w.heap.size).ρ b = E.ρ b := fun b hb => by simp [Env.setB]; omega
  have hρn : (E.setB M.blks.length w.heap.size).ρ M.blks.length = w.heap.size := by simp [Env.setB]
  refine ⟨⟨h.below.alloc _, fun b y hy => ?_, fun b b' y y' hy hy' he => ?_, fun i e he => ?_, h.terr⟩, hst⟩
  · rcases addB_cases hy with ⟨hb, hy⟩ | ⟨rfl, rfl⟩
    · obtain ⟨h1, ds, h2, h3⟩ := h.blk b y hy
      refine ⟨by rw [hρ b hb]; exact h1, ds, ?_, h3.step hst⟩
      rw [hρ b hb, Below.heap_alloc _ _ _ (heap_lt h2)]; exact h2
    · refine ⟨⟨fun _ => by rw [hρn]; exact hs, fun ho => by rw [hown] at ho; cases ho⟩, cs, ?_, hc.step hst⟩
      rw [hρn]; show (w.heap.push _)[w.heap.size]? = _; simp
  · rcases addB_cases hy with ⟨hb, hy⟩ | ⟨rfl, _⟩ <;> rcases addB_cases hy' with ⟨hb', hy'⟩ | ⟨rfl, _⟩
    · rw [hρ b hb, hρ b' hb'] at he; exact h.inj b b' y y' hy hy' he
    · rw [hρ b hb, hρn] at he; have := h.lt hy; omega
    · rw [hρ b' hb', hρn] at he; have := h.lt hy'; omega
    · rfl
  · rcases h.vec i e he with hz | ⟨a, cap, ds, fz, hv⟩
    · exact .inl hz
    refine .inr ⟨a, cap, ds, fz, { hv with blk := (Below.heap_alloc _ _ _ (heap_lt hv.blk)).trans hv.blk, cell := ?_, mine := ?_ }⟩
    · intro j y hy k c hc'
      obtain ⟨u, h1, h2⟩ := hv.cell j y hy k c hc'
      exact ⟨u, h1, h2.step hst⟩
    · intro ho
      obtain ⟨h1, h2, h3⟩ := hv.mine ho
      refine ⟨h1, h2, fun b y hy => ?_⟩
      rcases addB_cases hy with ⟨hb, hy⟩ | ⟨rfl, rfl⟩
      · rw [hρ b hb]; exact h3 b y hy
      · rw [hρn]; have := heap_lt hv.blk; omega

theorem RepM.cell {E : Env} {w0 : Bs} {M : Mem} {w : World} (h : RepM E w0 M w) {b : Nat} {x : Blk} (hx : M.blks[b]? = some (some x)) {o : Nat} {c : AV} (hc : x.cells[o]? = some c) :
    ∃ v, w.cell? ⟨E.ρ b, o, none⟩ = some v ∧ RelS E M c v := by
  obtain ⟨_, cs, h2, h3⟩ := h.blk b x hx
  obtain ⟨v, hv, hr⟩ := h3.get hc
  exact ⟨v, by simp [World.cell?, h2]; simpa using hv, hr⟩

def Mem.setB (M : Mem) (b : Nat) (x : Blk) : Mem := { M with blks := M.blks.set b (some x) }
theorem setB_cases {M : Mem} {b : Nat} {x : Blk} {c : Nat} {y : Blk} (h : (M.setB b x).blks[c]? = some (some y)) : (c ≠ b ∧ M.blks[c]? = some (some y)) ∨ (c = b ∧ y = x) := by
  simp only [Mem.setB, List.getElem?_set] at h
  split at h
  · rename_i e
    subst e
    split at h
    · simp only [Option.some.injEq] at h; exact .inr ⟨rfl, h.symm⟩
    · cases h
  · rename_i e
    exact .inl ⟨fun hh => e hh.symm, h⟩
theorem aliveB_setB {M : Mem} {b : Nat} {x y : Blk} (hy : M.blks[b]? = some (some y)) (i : Nat) : aliveB (M.setB b x) i = aliveB M i := by
  unfold aliveB Mem.setB
  by_cases e : b = i
  · subst e
    rw [List.getElem?_set_self (lt_of_get hy), hy]
  · rw [List.getElem?_set_ne e]
theorem Mem.setB_le {M : Mem} {b : Nat} {y : Blk} (hy : M.blks[b]? = some (some y)) (x : Blk) : Mem.le M (M.setB b x) :=
  ⟨by simp [Mem.setB], Nat.le_refl _, fun i _ h => by rwa [aliveB_setB hy] at h, fun _ _ h => h⟩

theorem RepM.setCell {E : Env} {w0 : Bs} {M : Mem} {w : World} (h : RepM E w0 M w) {b : Nat} {x : Blk} (hx : M.blks[b]? = some (some x)) (hown : x.own = true) {o : Nat} (ho : o < x.cells.length) {c : AV} {v : Value} (hc : RelS E M c v) :
    RepM E w0 (M.setB b { x with cells := x.cells.set o c }) (w.setCell ⟨E.ρ b, o, none⟩ v) ∧ Step E M E (M.setB b { x with cells := x.cells.set o c }) ∧
      (∃ u, w.cell? ⟨E.ρ b, o, none⟩ = some u) ∧ w.frozen? ⟨E.ρ b, o, none⟩ = false := by
  have hst : Step E M E (M.setB b { x with cells := x.cells.set o c }) := ⟨Mem.setB_le hx _, Env.le.refl _ _ _⟩
  obtain ⟨hgg, cs, h2, h3⟩ := h.blk b x hx
  have hge := hgg.1 hown
  refine ⟨⟨h.below.setCell hge v, fun b' y hy => ?_, fun c1 c2 y1 y2 hy1 hy2 he => ?_, fun i e he => ?_, h.terr⟩, hst, ?_, ?_⟩
  · rcases setB_cases hy with ⟨hne, hy⟩ | ⟨rfl, rfl⟩
    · obtain ⟨h1', ds, h2', h3'⟩ := h.blk b' y hy
      refine ⟨h1', ds, ?_, h3'.step hst⟩
      rw [Below.heap_setCell _ _ _ _ (fun hh => hne (h.inj b' b y x hy hx hh))]; exact h2'
    · refine ⟨hgg, cs.setIfInBounds o v, ?_, ?_⟩
      · simp [World.setCell, Array.getElem?_modify, h2]
      · rw [Array.toList_setIfInBounds]; exact (h3.set o hc).step hst
  · have k : ∀ (c : Nat) (y : Blk), (M.setB b { x with cells := x.cells.set o ‹AV› }).blks[c]? = some (some y) → ∃ z, M.blks[c]? = some (some z) := fun c y hy => by
      rcases setB_cases hy with ⟨_, hy⟩ | ⟨rfl, _⟩
      · exact ⟨_, hy⟩
      · exact ⟨_, hx⟩
    obtain ⟨z1, hz1⟩ := k c1 y1 hy1
    obtain ⟨z2, hz2⟩ := k c2 y2 hy2
    exact h.inj c1 c2 z1 z2 hz1 hz2 he
  · rcases h.vec i e he with hz | ⟨a, cap, ds, fz, hv⟩
    · exact .inl hz
    have hne : a.block ≠ E.ρ b := by
      cases hw : e.own with
      | true => exact fun hh => (hv.mine hw).2.2 b x hx hh.symm
      | false => exact fun hh => hv.old hw (hh ▸ hge)
    refine .inr ⟨a, cap, ds, fz, { hv with blk := (Below.heap_setCell _ _ _ _ hne).trans hv.blk, cell := ?_, mine := ?_ }⟩
    · intro j y hy k c' hc'
      obtain ⟨u, h1, h2⟩ := hv.cell j y hy k c' hc'
      exact ⟨u, h1, h2.step hst⟩
    · intro how
      obtain ⟨h1, h2, h3⟩ := hv.mine how
      refine ⟨h1, h2, fun c' y hy => ?_⟩
      rcases setB_cases hy with ⟨_, hy⟩ | ⟨rfl, _⟩
      · exact h3 c' y hy
      · exact h3 c' x hx
  · obtain ⟨u, hu, _⟩ := h.cell hx (List.getElem?_eq_getElem ho)
    exact ⟨u, hu⟩
  · simp [World.frozen?, h2]

end Go.Sx

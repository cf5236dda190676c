/- Several texts in one. -/
import Derived.WalkKit
import Derived.LoopN
import Derived.Deep.Quiet
import Derived.StillTail
import Derived.Laws.Cover3
import Derived.Laws.Panics
import Derived.Laws.BytesString
set_option linter.unusedVariables false
set_option linter.unusedSimpArgs false
namespace Go.Sx
open Go Go.RowKit

/-! Abstract values -/
inductive AV where
  | lit (v : Value)
  | agg (cs : List AV)
  | tup (vs : List AV)
  | ptr (b off : Nat)
  | sl (b off len cap : Nat)
  | fn (f : FuncId) (caps : List AV)
  | vec (h : Nat)
  | vptr (h i z j : Nat)
  | vsl (h lo z : Nat)
  | bad

structure Env where
  ρ : Nat → Nat
  σ : Nat → Value

def Env.va (E : Env) (h : Nat) : Addr := match E.σ h with | .slice (some a) _ _ => a | _ => default
/-- the block of a row, if it has one -/
def Env.bk (E : Env) (h : Nat) : Option Nat := match E.σ h with | .slice (some a) _ _ => some a.block | _ => none
def nilV : Value := .slice none 0 0
/-- a row from a place on -/
def fromV (v : Value) (lo z : Nat) : Value := match v with
  | .slice (some a) len cap => .slice (some (if cap = lo then a else a.add (lo * z))) (len - lo) (cap - lo)
  | v => v

mutual
def AV.conc (E : Env) : AV → Value
  | .lit v => v
  | .agg cs => .agg (concL E cs).toArray
  | .tup vs => .tuple (concL E vs).toArray
  | .ptr b off => .pointer (some ⟨E.ρ b, off, none⟩)
  | .sl b off len cap => .slice (some ⟨E.ρ b, off, none⟩) len cap
  | .fn f caps => .func (.func f) #[] (concL E caps).toArray
  | .vec h => E.σ h
  | .vptr h i z j => .pointer (some ⟨(E.va h).block, (E.va h).off + (i * z + j), none⟩)
  | .vsl h lo z => fromV (E.σ h) lo z
  | .bad => undef
def concL (E : Env) : List AV → List Value
  | [] => []
  | a :: l => a.conc E :: concL E l
end

mutual
/-- all names are below n (blocks) and m (handles) -/
def AV.sc (n m : Nat) : AV → Bool
  | .lit _ => true
  | .agg cs => scL n m cs
  | .tup vs => scL n m vs
  | .ptr b _ => decide (b < n)
  | .sl b _ _ _ => decide (b < n)
  | .fn _ caps => scL n m caps
  | .vec h => decide (h < m)
  | .vptr h _ _ _ => decide (h < m)
  | .vsl h _ _ => decide (h < m)
  | .bad => true
def scL (n m : Nat) : List AV → Bool
  | [] => true
  | a :: l => a.sc n m && scL n m l
end

mutual
/-- no dead name, nothing unknown (L: of blocks at even places, of handles at odd ones) -/
def AV.lv (L : Nat → Bool) : AV → Bool
  | .lit _ => true
  | .agg cs => lvL L cs
  | .tup vs => lvL L vs
  | .ptr b _ => L (2 * b)
  | .sl b _ _ _ => L (2 * b)
  | .fn _ caps => lvL L caps
  | .vec h => L (2 * h + 1)
  | .vptr h _ _ _ => L (2 * h + 1)
  | .vsl h _ _ => L (2 * h + 1)
  | .bad => false
def lvL (L : Nat → Bool) : List AV → Bool
  | [] => true
  | a :: l => a.lv L && lvL L l
end

theorem concL_eq (E : Env) (l : List AV) : concL E l = l.map (AV.conc E) := by
  induction l with
  | nil => simp [concL]
  | cons a l ih => simp [concL, ih]
theorem scL_eq (n m : Nat) (l : List AV) : scL n m l = l.all (AV.sc n m) := by
  induction l with
  | nil => simp [scL]
  | cons a l ih => simp [scL, ih]
theorem lvL_eq (L : Nat → Bool) (l : List AV) : lvL L l = l.all (AV.lv L) := by
  induction l with
  | nil => simp [lvL]
  | cons a l ih => simp [lvL, ih]

theorem sc_mono {n m n' m' : Nat} (h : n ≤ n') (h' : m ≤ m') : ∀ a : AV, a.sc n m = true → a.sc n' m' = true := by
  intro a
  apply AV.rec (motive_1 := fun a => a.sc n m = true → a.sc n' m' = true) (motive_2 := fun l => scL n m l = true → scL n' m' l = true)
  case lit => intros; simp [AV.sc]
  case agg => intro cs ih h; simp only [AV.sc] at *; exact ih h
  case tup => intro cs ih h; simp only [AV.sc] at *; exact ih h
  case ptr => intro b off h; simp only [AV.sc, decide_eq_true_eq] at *; omega
  case sl => intro b off _ _ h; simp only [AV.sc, decide_eq_true_eq] at *; omega
  case fn => intro f cs ih h; simp only [AV.sc] at *; exact ih h
  case vec => intro b h; simp only [AV.sc, decide_eq_true_eq] at *; omega
  case vptr => intro b _ _ _ h; simp only [AV.sc, decide_eq_true_eq] at *; omega
  case vsl => intro b _ _ h; simp only [AV.sc, decide_eq_true_eq] at *; omega
  case bad => intro h; rfl
  case nil => intro h; rfl
  case cons => intro a l iha ihl h; simp only [scL, Bool.and_eq_true] at *; exact ⟨iha h.1, ihl h.2⟩

/-- what is alive in L' was alive in L, among the names that are known -/
theorem lv_mono {n m : Nat} {L L' : Nat → Bool} (h : ∀ i, i < n → L' (2 * i) = true → L (2 * i) = true) (h' : ∀ i, i < m → L' (2 * i + 1) = true → L (2 * i + 1) = true) : ∀ a : AV, a.sc n m = true → a.lv L' = true → a.lv L = true := by
  intro a
  apply AV.rec (motive_1 := fun a => a.sc n m = true → a.lv L' = true → a.lv L = true) (motive_2 := fun l => scL n m l = true → lvL L' l = true → lvL L l = true)
  case lit => intros; simp [AV.lv]
  case agg => intro cs ih h; simp only [AV.sc, AV.lv] at *; exact ih h
  case tup => intro cs ih h; simp only [AV.sc, AV.lv] at *; exact ih h
  case ptr => intro b _ hb h1; simp only [AV.sc, decide_eq_true_eq, AV.lv] at *; exact h _ hb h1
  case sl => intro b _ _ _ hb h1; simp only [AV.sc, decide_eq_true_eq, AV.lv] at *; exact h _ hb h1
  case fn => intro f cs ih h; simp only [AV.sc, AV.lv] at *; exact ih h
  case vec => intro b hb h1; simp only [AV.sc, decide_eq_true_eq, AV.lv] at *; exact h' _ hb h1
  case vptr => intro b _ _ _ hb h1; simp only [AV.sc, decide_eq_true_eq, AV.lv] at *; exact h' _ hb h1
  case vsl => intro b _ _ hb h1; simp only [AV.sc, decide_eq_true_eq, AV.lv] at *; exact h' _ hb h1
  case bad => intro _ h; exact h
  case nil => intros; rfl
  case cons => intro a l iha ihl h h1; simp only [scL, lvL, Bool.and_eq_true] at *; exact ⟨iha h.1 h1.1, ihl h.2 h1.2⟩

structure Env.le (n m : Nat) (E E' : Env) : Prop where
  ρ : ∀ b, b < n → E'.ρ b = E.ρ b
  σ : ∀ b, b < m → E'.σ b = E.σ b
theorem Env.le.refl (n m : Nat) (E : Env) : Env.le n m E E := ⟨fun _ _ => rfl, fun _ _ => rfl⟩
theorem Env.le.trans {n m n' m' : Nat} {E E' E'' : Env} (h : Env.le n m E E') (h' : Env.le n' m' E' E'') (hn : n ≤ n') (hm : m ≤ m') : Env.le n m E E'' :=
  ⟨fun b hb => (h'.ρ b (by omega)).trans (h.ρ b hb), fun b hb => (h'.σ b (by omega)).trans (h.σ b hb)⟩

theorem conc_le {n m : Nat} {E E' : Env} (h : Env.le n m E E') : ∀ a : AV, a.sc n m = true → a.conc E' = a.conc E := by
  intro a
  apply AV.rec (motive_1 := fun a => a.sc n m = true → a.conc E' = a.conc E) (motive_2 := fun l => scL n m l = true → concL E' l = concL E l)
  case lit => intros; simp [AV.conc]
  case agg => intro cs ih h; simp only [AV.sc, AV.conc] at *; rw [ih h]
  case tup => intro cs ih h; simp only [AV.sc, AV.conc] at *; rw [ih h]
  case ptr => intro b off hb; simp only [AV.sc, decide_eq_true_eq, AV.conc] at *; rw [h.ρ b hb]
  case sl => intro b off _ _ hb; simp only [AV.sc, decide_eq_true_eq, AV.conc] at *; rw [h.ρ b hb]
  case fn => intro f cs ih h; simp only [AV.sc, AV.conc] at *; rw [ih h]
  case vec => intro b hb; simp only [AV.sc, decide_eq_true_eq, AV.conc] at *; rw [h.σ b hb]
  case vptr => intro b _ _ _ hb; simp only [AV.sc, decide_eq_true_eq, AV.conc, Env.va] at *; rw [h.σ b hb]
  case vsl => intro b _ _ hb; simp only [AV.sc, decide_eq_true_eq, AV.conc] at *; rw [h.σ b hb]
  case bad => intro h; rfl
  case nil => intro h; rfl
  case cons => intro a l iha ihl h; simp only [scL, Bool.and_eq_true, concL] at *; rw [iha h.1, ihl h.2]

/-! Memory -/
structure Blk where
  elem : TypeId
  own : Bool
  cells : List AV

inductive CK where
  | int (k : IntKind)
  | bool
  | str
  | any
  deriving DecidableEq

structure Ent where
  elem : TypeId
  isAgg : Bool
  sh : List CK
  terr : Nat
  own : Bool
  head : Bool
  cont : List AV

structure Mem where
  blks : List (Option Blk)
  vecs : List (Option Ent)

def aliveB (M : Mem) (b : Nat) : Bool := match M.blks[b]? with | some (some _) => true | _ => false
def aliveV (M : Mem) (h : Nat) : Bool := match M.vecs[h]? with | some (some _) => true | _ => false
def Mem.live (M : Mem) (i : Nat) : Bool := match i % 2 with | 0 => aliveB M (i / 2) | _ => aliveV M (i / 2)
theorem live_even (M : Mem) (b : Nat) : M.live (2 * b) = aliveB M b := by
  unfold Mem.live
  rw [show 2 * b % 2 = 0 from by omega, show 2 * b / 2 = b from by omega]
  rfl
theorem live_odd (M : Mem) (h : Nat) : M.live (2 * h + 1) = aliveV M h := by
  unfold Mem.live
  rw [show (2 * h + 1) % 2 = 1 from by omega, show (2 * h + 1) / 2 = h from by omega]
  rfl


structure St where
  tm : List AV
  M : Mem

def AV.cells : AV → List AV
  | .agg cs => cs
  | .lit (.agg cs) => cs.toList.map AV.lit
  | v => [v]

def AV.getInt : AV → Int
  | .lit (.int _ n) => n
  | _ => 0
def AV.getBool : AV → Bool
  | .lit (.bool b) => b
  | _ => false
def AV.getStr : AV → ByteArray
  | .lit (.string s) => s
  | _ => ByteArray.empty

def CK.norm : CK → AV → AV
  | .int k, a => .lit (.int k a.getInt)
  | .bool, a => .lit (.bool a.getBool)
  | .str, a => .lit (.string a.getStr)
  | .any, a => a
def CK.fits : CK → AV → Bool
  | .int k, .lit (.int k' _) => decide (k' = k)
  | .bool, .lit (.bool _) => true
  | .str, .lit (.string _) => true
  | .any, .agg _ => false
  | .any, .tup _ => false
  | .any, .lit (.agg _) => false
  | .any, .lit (.tuple _) => false
  | .any, _ => true
  | _, _ => false

def RelS (E : Env) (M : Mem) (a : AV) (v : Value) : Prop := a.sc M.blks.length M.vecs.length = true ∧ (a.lv M.live = true → v = a.conc E)

structure RelL (E : Env) (M : Mem) (l : List AV) (vs : List Value) : Prop where
  len : l.length = vs.length
  at_ : ∀ (i : Nat) (a : AV) (v : Value), l[i]? = some a → vs[i]? = some v → RelS E M a v

/-- fit of an element -/
def fitsAll : List CK → List AV → Bool
  | [], [] => true
  | k :: ks, a :: l => k.fits a && fitsAll ks l
  | _, _ => false
def AV.shape (isAgg : Bool) (sh : List CK) (a : AV) : Bool :=
  match isAgg, a with
  | true, .agg cs => fitsAll sh cs
  | false, a => fitsAll sh [a]
  | _, _ => false

/-- where a walk began, and which blocks it may turn: all new ones, and perhaps a few that it was lent -/
structure Bs where
  w0 : World
  Wr : Nat → Prop
  up : ∀ i, w0.heap.size ≤ i → Wr i
def Bs.of (w : World) : Bs := ⟨w, fun i => w.heap.size ≤ i, fun _ h => h⟩
theorem Bs.lt {B : Bs} {i : Nat} (h : ¬ B.Wr i) : i < B.w0.heap.size := Nat.lt_of_not_le fun hh => h (B.up i hh)
structure Keeps (B : Bs) (w : World) : Prop where
  os : w.os = B.w0.os
  tape : w.tape = B.w0.tape
  output : w.output = B.w0.output
  size : B.w0.heap.size ≤ w.heap.size
  block : ∀ k, ¬ B.Wr k → w.heap[k]? = B.w0.heap[k]?
theorem Keeps.refl (B : Bs) : Keeps B B.w0 := ⟨rfl, rfl, rfl, Nat.le_refl _, fun _ _ => rfl⟩
theorem Keeps.toBelow {w0 w : World} (h : Keeps (Bs.of w0) w) : Below w0.heap.size w0 w := ⟨h.os, h.tape, h.output, h.size, fun k hk => h.block k fun hh => Nat.lt_irrefl _ (Nat.lt_of_lt_of_le hk hh)⟩
theorem Keeps.later {B : Bs} {w w' : World} (h : Keeps B w) (hb : Below w.heap.size w w') : Keeps B w' :=
  ⟨hb.os.trans h.os, hb.tape.trans h.tape, hb.output.trans h.output, Nat.le_trans h.size hb.size, fun k hk => (hb.block k (Nat.lt_of_lt_of_le (Bs.lt hk) h.size)).trans (h.block k hk)⟩
theorem Keeps.drew {B : Bs} {w : World} (h : Keeps B w) : Keeps B w.drew := ⟨h.os, h.tape, h.output, h.size, h.block⟩
theorem Keeps.alloc {B : Bs} {w : World} (h : Keeps B w) (o : Obj) : Keeps B (w.alloc o) := h.later ((Below.refl _ _).alloc (Nat.le_refl _) o)
theorem Keeps.setCell {B : Bs} {w : World} (h : Keeps B w) {p : Addr} (hp : B.Wr p.block) (u : Value) : Keeps B (w.setCell p u) :=
  ⟨h.os, h.tape, h.output, by simpa [World.setCell] using h.size, fun k hk => (Below.heap_setCell w p u k fun e => hk (e ▸ hp)).trans (h.block k hk)⟩

structure VecOk (E : Env) (B : Nat → Prop) (M : Mem) (w : World) (h : Nat) (e : Ent) (a : Addr) (cap : Nat) (cs : Array Value) (fz : Nat × Nat) : Prop where
  val : E.σ h = .slice (some a) e.cont.length cap
  spot : a.spot = none
  le : e.cont.length ≤ cap
  blk : w.heap[a.block]? = some (.cells cs e.elem fz)
  room : e.cont.length = 0 ∨ a.off + e.cont.length * e.sh.length ≤ cs.size
  shape : ∀ (i : Nat) (x : AV), e.cont[i]? = some x → x.shape e.isAgg e.sh = true
  cell : ∀ (i : Nat) (x : AV), e.cont[i]? = some x → ∀ (j : Nat) (c : AV), x.cells[j]? = some c → ∃ u, cs[a.off + (i * e.sh.length + j)]? = some u ∧ RelS E M c u
  old : e.own = false → ¬ B a.block
  head : e.head = true → a.off = 0 ∧ cs.size = cap * e.sh.length ∧ cap ≤ maxLen
  mine : e.own = true → B a.block ∧ fz = (0, 0) ∧ ∀ (b : Nat) (x : Blk), M.blks[b]? = some (some x) → E.ρ b ≠ a.block

structure RepM (E : Env) (w0 : Bs) (M : Mem) (w : World) : Prop where
  below : Keeps w0 w
  blk : ∀ (b : Nat) (x : Blk), M.blks[b]? = some (some x) → ((x.own = true → w0.Wr (E.ρ b)) ∧ (x.own = false → ¬ w0.Wr (E.ρ b))) ∧ ∃ cs : Array Value, w.heap[E.ρ b]? = some (.cells cs x.elem (0, 0)) ∧ RelL E M x.cells cs.toList
  inj : ∀ (b b' : Nat) (x x' : Blk), M.blks[b]? = some (some x) → M.blks[b']? = some (some x') → E.ρ b = E.ρ b' → b = b'
  vec : ∀ (h : Nat) (e : Ent), M.vecs[h]? = some (some e) → (e.cont = [] ∧ E.σ h = nilV) ∨ ∃ a cap cs fz, VecOk E w0.Wr M w h e a cap cs fz
  terr : ∀ (h h' : Nat) (e e' : Ent), M.vecs[h]? = some (some e) → M.vecs[h']? = some (some e') → e.own = true → e'.own = true → ∀ g, E.bk h = some g → E.bk h' = some g → e.terr = e'.terr

theorem VecOk.va {E : Env} {B : Nat → Prop} {M : Mem} {w : World} {h : Nat} {e : Ent} {a : Addr} {cap : Nat} {cs : Array Value} {fz : Nat × Nat} (hv : VecOk E B M w h e a cap cs fz) : E.va h = a := by simp [Env.va, hv.val]
theorem VecOk.bk {E : Env} {B : Nat → Prop} {M : Mem} {w : World} {h : Nat} {e : Ent} {a : Addr} {cap : Nat} {cs : Array Value} {fz : Nat × Nat} (hv : VecOk E B M w h e a cap cs fz) : E.bk h = some a.block := by simp [Env.bk, hv.val]
theorem bk_nil {E : Env} {h : Nat} (hz : E.σ h = nilV) : E.bk h = none := by simp [Env.bk, hz, nilV]

structure Rep (E : Env) (w0 : Bs) (st : St) (a : Act) (w : World) : Prop where
  mem : RepM E w0 st.M w
  tm : RelL E st.M st.tm a.tmps.toList
  defers : a.defers = []

/-- M' is a later memory: more names, fewer alive among the old ones -/
structure Mem.le (M M' : Mem) : Prop where
  nb : M.blks.length ≤ M'.blks.length
  nh : M.vecs.length ≤ M'.vecs.length
  liveB : ∀ i, i < M.blks.length → aliveB M' i = true → aliveB M i = true
  liveV : ∀ i, i < M.vecs.length → aliveV M' i = true → aliveV M i = true
theorem Mem.le.refl (M : Mem) : Mem.le M M := ⟨Nat.le_refl _, Nat.le_refl _, fun _ _ h => h, fun _ _ h => h⟩
theorem Mem.le.trans {M M' M'' : Mem} (h : Mem.le M M') (h' : Mem.le M' M'') : Mem.le M M'' :=
  ⟨Nat.le_trans h.nb h'.nb, Nat.le_trans h.nh h'.nh, fun i hi hl => h.liveB i hi (h'.liveB i (Nat.lt_of_lt_of_le hi h.nb) hl), fun i hi hl => h.liveV i hi (h'.liveV i (Nat.lt_of_lt_of_le hi h.nh) hl)⟩
theorem Mem.le.live {M M' : Mem} (h : Mem.le M M') : (∀ i, i < M.blks.length → M'.live (2 * i) = true → M.live (2 * i) = true) ∧ (∀ i, i < M.vecs.length → M'.live (2 * i + 1) = true → M.live (2 * i + 1) = true) :=
  ⟨fun i hi => by rw [live_even, live_even]; exact h.liveB i hi, fun i hi => by rw [live_odd, live_odd]; exact h.liveV i hi⟩

/-- what a step does to names -/
structure Step (E : Env) (M : Mem) (E' : Env) (M' : Mem) : Prop where
  mem : Mem.le M M'
  env : Env.le M.blks.length M.vecs.length E E'
theorem Step.refl (E : Env) (M : Mem) : Step E M E M := ⟨Mem.le.refl M, Env.le.refl _ _ E⟩
theorem Step.trans {E E' E'' : Env} {M M' M'' : Mem} (h : Step E M E' M') (h' : Step E' M' E'' M'') : Step E M E'' M'' :=
  ⟨h.mem.trans h'.mem, h.env.trans h'.env h.mem.nb h.mem.nh⟩

theorem RelS.step {E E' : Env} {M M' : Mem} (h : Step E M E' M') {a : AV} {v : Value} (hr : RelS E M a v) : RelS E' M' a v :=
  ⟨sc_mono h.mem.nb h.mem.nh a hr.1, fun hl => (hr.2 (lv_mono h.mem.live.1 h.mem.live.2 a hr.1 hl)).trans (conc_le h.env a hr.1).symm⟩
theorem RelL.step {E E' : Env} {M M' : Mem} (h : Step E M E' M') {a : List AV} {v : List Value} (hr : RelL E M a v) : RelL E' M' a v :=
  ⟨hr.len, fun i x y hx hy => (hr.at_ i x y hx hy).step h⟩

def ev (tm : List AV) : Operand → AV
  | .tmp t => tm.getD t .bad
  | .const v => .lit v
  | .global _ => .bad
  | .func f => .lit (.func (.func f) #[] #[])

theorem RelS.bad (E : Env) (M : Mem) (v : Value) : RelS E M .bad v := ⟨rfl, fun h => by cases h⟩
theorem RelS.lit (E : Env) (M : Mem) (v : Value) : RelS E M (.lit v) v := ⟨rfl, fun _ => rfl⟩

theorem RelL.ev {E : Env} {M : Mem} {tm : List AV} {a : Act} (h : RelL E M tm a.tmps.toList) (x : Operand) : RelS E M (Sx.ev tm x) (a.eval x) := by
  cases x with
  | tmp t =>
    simp only [Sx.ev, Act.eval]
    by_cases ht : t < tm.length
    · have h1 : tm[t]? = some tm[t] := List.getElem?_eq_getElem ht
      have ht2 : t < a.tmps.toList.length := h.len ▸ ht
      have h2 : a.tmps.toList[t]? = some a.tmps.toList[t] := List.getElem?_eq_getElem ht2
      have h3 := h.at_ t _ _ h1 h2
      have e1 : tm.getD t .bad = tm[t] := by simp [List.getD, h1]
      have e2 : a.tmps.getD t undef = a.tmps.toList[t] := by
        have : t < a.tmps.size := by simpa using ht2
        simp [Array.getD, this]
      rw [e1, e2]; exact h3
    · have e1 : tm.getD t .bad = .bad := by simp [List.getD, List.getElem?_eq_none (Nat.le_of_not_lt ht)]
      rw [e1]; exact RelS.bad _ _ _
  | const v => exact RelS.lit _ _ _
  | global g => exact RelS.bad _ _ _
  | func f => exact RelS.lit _ _ _

theorem RelL.set {E : Env} {M : Mem} {l : List AV} {vs : List Value} (h : RelL E M l vs) (i : Nat) {a : AV} {v : Value} (hr : RelS E M a v) : RelL E M (l.set i a) (vs.set i v) := by
  refine ⟨by simp [h.len], fun j x y hx hy => ?_⟩
  rw [List.getElem?_set] at hx hy
  by_cases e : i = j
  · subst e
    simp only [if_true] at hx hy
    split at hx
    · split at hy
      · simp only [Option.some.injEq] at hx hy; subst hx; subst hy; exact hr
      · cases hy
    · cases hx
  · rw [if_neg e] at hx hy; exact h.at_ j x y hx hy

def putT (tm : List AV) (dst : Option Tmp) (v : AV) : List AV :=
  match dst with
  | some d => tm.set d v
  | none => tm

theorem RelL.put {E : Env} {M : Mem} {tm : List AV} {a : Act} (h : RelL E M tm a.tmps.toList) (dst : Option Tmp) {x : AV} {v : Value} (hr : RelS E M x v) :
    RelL E M (putT tm dst x) (a.put dst v).tmps.toList := by
  cases dst with
  | none => exact h
  | some d => simp only [putT, Act.put, Array.toList_setIfInBounds]; exact h.set d hr

theorem put_defers (a : Act) (dst : Option Tmp) (v : Value) : (a.put dst v).defers = a.defers := by cases dst <;> rfl

theorem RelL.get {E : Env} {M : Mem} {l : List AV} {vs : List Value} (h : RelL E M l vs) {i : Nat} {a : AV} (ha : l[i]? = some a) : ∃ v, vs[i]? = some v ∧ RelS E M a v := by
  have hi : i < l.length := by
    rcases Nat.lt_or_ge i l.length with hl | hl
    · exact hl
    · rw [List.getElem?_eq_none hl] at ha; cases ha
  have hi' : i < vs.length := h.len ▸ hi
  have hv : vs[i]? = some vs[i] := List.getElem?_eq_getElem hi'
  exact ⟨_, hv, h.at_ i a _ ha hv⟩

theorem RepM.drew {E : Env} {w0 : Bs} {M : Mem} {w : World} (h : RepM E w0 M w) : RepM E w0 M w.drew :=
  ⟨h.below.drew, h.blk, h.inj, fun i e he => (h.vec i e he).elim .inl fun ⟨a, cap, cs, fz, hv⟩ => .inr ⟨a, cap, cs, fz, { hv with blk := hv.blk }⟩, h.terr⟩

theorem lt_of_get {α : Type} {l : List α} {i : Nat} {a : α} (h : l[i]? = some a) : i < l.length := by
  rcases Nat.lt_or_ge i l.length with hl | hl
  · exact hl
  · rw [List.getElem?_eq_none hl] at h; cases h

theorem heap_lt {w : World} {i : Nat} {o : Obj} (h : w.heap[i]? = some o) : i < w.heap.size := by
  rcases Nat.lt_or_ge i w.heap.size with hl | hl
  · exact hl
  · rw [Array.getElem?_eq_none hl] at h; cases h

/-- whatever keeps what was there keeps the representation -/
theorem RepM.later {E : Env} {w0 : Bs} {M : Mem} {w w' : World} (h : RepM E w0 M w) (hb : Below w.heap.size w w') : RepM E w0 M w' := by
  refine ⟨h.below.later hb, fun b x hx => ?_, h.inj, fun i e he => ?_, h.terr⟩
  · obtain ⟨h1, cs, h2, h3⟩ := h.blk b x hx
    exact ⟨h1, cs, (hb.block _ (heap_lt h2)).trans h2, h3⟩
  · rcases h.vec i e he with hz | ⟨a, cap, cs, fz, hv⟩
    · exact .inl hz
    exact .inr ⟨a, cap, cs, fz, { hv with blk := (hb.block _ (heap_lt hv.blk)).trans hv.blk }⟩

def Env.setB (E : Env) (n r : Nat) : Env := { E with ρ := fun b => if b = n then r else E.ρ b }
theorem Env.setB_le (E : Env) (n r m : Nat) : Env.le n m E (E.setB n r) := ⟨fun b hb => by simp [Env.setB]; omega, fun _ _ => rfl⟩

def Mem.addB (M : Mem) (x : Blk) : Mem := { M with blks := M.blks ++ [some x] }
theorem aliveB_addB (M : Mem) (x : Blk) (i : Nat) (hi : i < M.blks.length) : aliveB (M.addB x) i = aliveB M i := by
  unfold aliveB Mem.addB
  simp only [List.getElem?_append_left hi]
theorem Mem.addB_le (M : Mem) (x : Blk) : Mem.le M (M.addB x) :=
  ⟨by simp [Mem.addB], Nat.le_refl _, fun i hi h => by rwa [aliveB_addB M x i hi] at h, fun _ _ h => h⟩

theorem addB_cases {M : Mem} {x : Blk} {b : Nat} {y : Blk} (h : (M.addB x).blks[b]? = some (some y)) : (b < M.blks.length ∧ M.blks[b]? = some (some y)) ∨ (b = M.blks.length ∧ y = x) := by
  simp only [Mem.addB] at h
  rcases Nat.lt_or_ge b M.blks.length with hi | hi
  · rw [List.getElem?_append_left hi] at h; exact .inl ⟨hi, h⟩
  · have hl := lt_of_get h
    simp at hl
    have : b = M.blks.length := by omega
    subst this
    simp at h
    exact .inr ⟨rfl, h.symm⟩

theorem RepM.lt {E : Env} {w0 : Bs} {M : Mem} {w : World} (h : RepM E w0 M w) {b : Nat} {x : Blk} (hx : M.blks[b]? = some (some x)) : E.ρ b < w.heap.size := by
  obtain ⟨_, cs, h2, _⟩ := h.blk b x hx
  exact heap_lt h2

theorem RepM.alloc {E : Env} {w0 : Bs} {M : Mem} {w : World} (h : RepM E w0 M w) (x : Blk) (hown : x.own = true) (cs : Array Value) (hc : RelL E M x.cells cs.toList) :
    RepM (E.setB M.blks.length w.heap.size) w0 (M.addB x) (w.alloc (.cells cs x.elem)) ∧ Step E M (E.setB M.blks.length w.heap.size) (M.addB x) := by
  have hs : w0.Wr w.heap.size := w0.up _ h.below.size
  have hst : Step E M (E.setB M.blks.length w.heap.size) (M.addB x) := ⟨M.addB_le x, E.setB_le _ _ _⟩
  have hρ : ∀ b, b < M.blks.length → (E.setB M.blks.length w.heap.size).ρ b = E.ρ b := fun b hb => by simp [Env.setB]; omega
  have hρn : (E.setB M.blks.length w.heap.size).ρ M.blks.length = w.heap.size := by simp [Env.setB]
  refine ⟨⟨h.below.alloc _, fun b y hy => ?_, fun b b' y y' hy hy' he => ?_, fun i e he => ?_, h.terr⟩, hst⟩
  · rcases addB_cases hy with ⟨hb, hy⟩ | ⟨rfl, rfl⟩
    · obtain ⟨h1, ds, h2, h3⟩ := h.blk b y hy
      refine ⟨by rw [hρ b hb]; exact h1, ds, ?_, h3.step hst⟩
      rw [hρ b hb, Below.heap_alloc _ _ _ (heap_lt h2)]; exact h2
    · refine ⟨⟨fun _ => by rw [hρn]; exact hs, fun ho => by rw [hown] at ho; cases ho⟩, cs, ?_, hc.step hst⟩
      rw [hρn]; show (w.heap.push _)[w.heap.size]? = _; simp
  · rcases addB_cases hy with ⟨hb, hy⟩ | ⟨rfl, _⟩ <;> rcases addB_cases hy' with ⟨hb', hy'⟩ | ⟨rfl, _⟩
    · rw [hρ b hb, hρ b' hb'] at he; exact h.inj b b' y y' hy hy' he
    · rw [hρ b hb, hρn] at he; have := h.lt hy; omega
    · rw [hρ b' hb', hρn] at he; have := h.lt hy'; omega
    · rfl
  · rcases h.vec i e he with hz | ⟨a, cap, ds, fz, hv⟩
    · exact .inl hz
    refine .inr ⟨a, cap, ds, fz, { hv with blk := (Below.heap_alloc _ _ _ (heap_lt hv.blk)).trans hv.blk, cell := ?_, mine := ?_ }⟩
    · intro j y hy k c hc'
      obtain ⟨u, h1, h2⟩ := hv.cell j y hy k c hc'
      exact ⟨u, h1, h2.step hst⟩
    · intro ho
      obtain ⟨h1, h2, h3⟩ := hv.mine ho
      refine ⟨h1, h2, fun b y hy => ?_⟩
      rcases addB_cases hy with ⟨hb, hy⟩ | ⟨rfl, rfl⟩
      · rw [hρ b hb]; exact h3 b y hy
      · rw [hρn]; have := heap_lt hv.blk; omega

theorem RepM.cell {E : Env} {w0 : Bs} {M : Mem} {w : World} (h : RepM E w0 M w) {b : Nat} {x : Blk} (hx : M.blks[b]? = some (some x)) {o : Nat} {c : AV} (hc : x.cells[o]? = some c) :
    ∃ v, w.cell? ⟨E.ρ b, o, none⟩ = some v ∧ RelS E M c v := by
  obtain ⟨_, cs, h2, h3⟩ := h.blk b x hx
  obtain ⟨v, hv, hr⟩ := h3.get hc
  exact ⟨v, by simp [World.cell?, h2]; simpa using hv, hr⟩

def Mem.setB (M : Mem) (b : Nat) (x : Blk) : Mem := { M with blks := M.blks.set b (some x) }
theorem setB_cases {M : Mem} {b : Nat} {x : Blk} {c : Nat} {y : Blk} (h : (M.setB b x).blks[c]? = some (some y)) : (c ≠ b ∧ M.blks[c]? = some (some y)) ∨ (c = b ∧ y = x) := by
  simp only [Mem.setB, List.getElem?_set] at h
  split at h
  · rename_i e
    subst e
    split at h
    · simp only [Option.some.injEq] at h; exact .inr ⟨rfl, h.symm⟩
    · cases h
  · rename_i e
    exact .inl ⟨fun hh => e hh.symm, h⟩
theorem aliveB_setB {M : Mem} {b : Nat} {x y : Blk} (hy : M.blks[b]? = some (some y)) (i : Nat) : aliveB (M.setB b x) i = aliveB M i := by
  unfold aliveB Mem.setB
  by_cases e : b = i
  · subst e
    rw [List.getElem?_set_self (lt_of_get hy), hy]
  · rw [List.getElem?_set_ne e]
theorem Mem.setB_le {M : Mem} {b : Nat} {y : Blk} (hy : M.blks[b]? = some (some y)) (x : Blk) : Mem.le M (M.setB b x) :=
  ⟨by simp [Mem.setB], Nat.le_refl _, fun i _ h => by rwa [aliveB_setB hy] at h, fun _ _ h => h⟩

theorem RepM.setCell {E : Env} {w0 : Bs} {M : Mem} {w : World} (h : RepM E w0 M w) {b : Nat} {x : Blk} (hx : M.blks[b]? = some (some x)) (hown : x.own = true) {o : Nat} (ho : o < x.cells.length) {c : AV} {v : Value} (hc : RelS E M c v) :
    RepM E w0 (M.setB b { x with cells := x.cells.set o c }) (w.setCell ⟨E.ρ b, o, none⟩ v) ∧ Step E M E (M.setB b { x with cells := x.cells.set o c }) ∧
      (∃ u, w.cell? ⟨E.ρ b, o, none⟩ = some u) ∧ w.frozen? ⟨E.ρ b, o, none⟩ = false := by
  have hst : Step E M E (M.setB b { x with cells := x.cells.set o c }) := ⟨Mem.setB_le hx _, Env.le.refl _ _ _⟩
  obtain ⟨hgg, cs, h2, h3⟩ := h.blk b x hx
  have hge := hgg.1 hown
  refine ⟨⟨h.below.setCell hge v, fun b' y hy => ?_, fun c1 c2 y1 y2 hy1 hy2 he => ?_, fun i e he => ?_, h.terr⟩, hst, ?_, ?_⟩
  · rcases setB_cases hy with ⟨hne, hy⟩ | ⟨rfl, rfl⟩
    · obtain ⟨h1', ds, h2', h3'⟩ := h.blk b' y hy
      refine ⟨h1', ds, ?_, h3'.step hst⟩
      rw [Below.heap_setCell _ _ _ _ (fun hh => hne (h.inj b' b y x hy hx hh))]; exact h2'
    · refine ⟨hgg, cs.setIfInBounds o v, ?_, ?_⟩
      · simp [World.setCell, Array.getElem?_modify, h2]
      · rw [Array.toList_setIfInBounds]; exact (h3.set o hc).step hst
  · have k : ∀ (c : Nat) (y : Blk), (M.setB b { x with cells := x.cells.set o ‹AV› }).blks[c]? = some (some y) → ∃ z, M.blks[c]? = some (some z) := fun c y hy => by
      rcases setB_cases hy with ⟨_, hy⟩ | ⟨rfl, _⟩
      · exact ⟨_, hy⟩
      · exact ⟨_, hx⟩
    obtain ⟨z1, hz1⟩ := k c1 y1 hy1
    obtain ⟨z2, hz2⟩ := k c2 y2 hy2
    exact h.inj c1 c2 z1 z2 hz1 hz2 he
  · rcases h.vec i e he with hz | ⟨a, cap, ds, fz, hv⟩
    · exact .inl hz
    have hne : a.block ≠ E.ρ b := by
      cases hw : e.own with
      | true => exact fun hh => (hv.mine hw).2.2 b x hx hh.symm
      | false => exact fun hh => hv.old hw (hh ▸ hge)
    refine .inr ⟨a, cap, ds, fz, { hv with blk := (Below.heap_setCell _ _ _ _ hne).trans hv.blk, cell := ?_, mine := ?_ }⟩
    · intro j y hy k c' hc'
      obtain ⟨u, h1, h2⟩ := hv.cell j y hy k c' hc'
      exact ⟨u, h1, h2.step hst⟩
    · intro how
      obtain ⟨h1, h2, h3⟩ := hv.mine how
      refine ⟨h1, h2, fun c' y hy => ?_⟩
      rcases setB_cases hy with ⟨_, hy⟩ | ⟨rfl, _⟩
      · exact h3 c' y hy
      · exact h3 c' x hx
  · obtain ⟨u, hu, _⟩ := h.cell hx (List.getElem?_eq_getElem ho)
    exact ⟨u, hu⟩
  · simp [World.frozen?, h2]

end Go.Sx

namespace Go.Sx
open Go Go.RowKit

/-! running what touches no memory -/
def pureRun (P : Program) {α : Type} : Sem α → Option α
  | .pure a => some a
  | .program k => pureRun P (k P)
  | _ => none

theorem pureRun_run {P : Program} {α : Type} (s : Sem α) {a : α} (w : World) : pureRun P s = some a → s.run P w = .ok a w := by
  induction s with
  | pure b => intro h; simp only [pureRun, Option.some.injEq] at h; subst h; rfl
  | program k ih => intro h; simp only [pureRun] at h; exact ih P h
  | _ => intro h; simp [pureRun] at h

def sizeT (P : Program) (t : TypeId) : Option Nat := (P.info? t).map (·.size)
def aggT (P : Program) (t : TypeId) : Option Bool :=
  match P.underlying t with
  | some (.struct _) | some (.array _ _) => some true
  | some _ => some false
  | none => none

theorem run_sizeOf {P : Program} {t : TypeId} {n : Nat} (h : sizeT P t = some n) (w : World) : (sizeOf t).run P w = .ok n w := by
  unfold sizeT at h
  cases hi : P.info? t with
  | none => rw [hi] at h; cases h
  | some i => rw [hi] at h; simp at h; subst h; simp [sizeOf, typeInfo, hi]

theorem run_isAgg {P : Program} {t : TypeId} {b : Bool} (h : aggT P t = some b) (w : World) : (isAgg t).run P w = .ok b w := by
  unfold aggT at h
  cases hu : P.underlying t with
  | none => rw [hu] at h; cases h
  | some d =>
    rw [hu] at h
    have := run_underlying (P := P) hu w
    unfold isAgg
    simp only [Sem.run_bind, this, Result.andThen]
    cases d <;> simp_all

/-- the part of an aggregate -/
def partA (P : Program) (t : TypeId) (cs : List AV) (off : Nat) : Option AV :=
  match aggT P t with
  | some true => match sizeT P t with
    | some n => bif decide (off + n ≤ cs.length) then some (.agg ((cs.drop off).take n)) else none
    | none => none
  | some false => cs[off]?
  | none => none

theorem run_part {P : Program} {E : Env} {t : TypeId} {cs : List AV} {off : Nat} {x : AV} (h : partA P t cs off = some x) (w : World) :
    (part t (concL E cs).toArray off).run P w = .ok (x.conc E) w := by
  unfold partA at h
  cases ha : aggT P t with
  | none => rw [ha] at h; cases h
  | some b =>
    rw [ha] at h
    unfold part
    simp only [Sem.run_bind, run_isAgg ha w, Result.andThen]
    cases b with
    | true =>
      simp only at h
      cases hs : sizeT P t with
      | none => rw [hs] at h; cases h
      | some n =>
        rw [hs] at h
        simp only [cond_eq_ite, decide_eq_true_eq] at h
        split at h
        · rename_i hle
          simp only [Option.some.injEq] at h
          subst h
          simp only [if_true, Sem.run_bind, run_sizeOf hs w, Result.andThen, Sem.run_pure, AV.conc]
          congr 2
          apply Array.ext'
          simp [concL_eq, List.map_take, List.map_drop]
        · cases h
    | false =>
      simp only at h
      simp only [Bool.false_eq_true, if_false]
      have : ((concL E cs).toArray)[off]? = some (x.conc E) := by simp [concL_eq, h]
      rw [this]; rfl

/-! equality -/
def eqA (P : Program) : Nat → TypeId → AV → AV → Option Bool
  | 0, _, _, _ => none
  | d + 1, t, x, y =>
    match P.underlying t, x, y with
    | some .bool, .lit (.bool a), .lit (.bool b) => some (a == b)
    | some (.int _), .lit (.int k a), .lit (.int k' b) => bif decide (k = k') then some (a == b) else none
    | some .string, .lit (.string a), .lit (.string b) => some (a == b)
    | some (.struct fs), .agg xs, .agg ys =>
      bif P.stoodInHeld t then none else
      fs.toList.foldr (fun f r => match r with
        | none => none
        | some q => bif decide (f.name = "_") then some q else
          match partA P f.type xs f.offset, partA P f.type ys f.offset with
          | some a, some b => match eqA P d f.type a b with
            | some p => some (p && q)
            | none => none
          | _, _ => none) (some true)
    | some (.array len el), .agg xs, .agg ys =>
      match sizeT P el with
      | none => none
      | some n => (List.range len).foldr (fun i r => match r with
        | none => none
        | some q =>
          match partA P el xs (i * n), partA P el ys (i * n) with
          | some a, some b => match eqA P d el a b with
            | some p => some (p && q)
            | none => none
          | _, _ => none) (some true)
    | _, _, _ => none

theorem run_equalIn_array {P : Program} (d : Nat) (t el : TypeId) (len n : Nat) (xs ys : Array Value) (ht : P.underlying t = some (.array len el)) (hn : sizeT P el = some n) (w : World)
    (F : Nat → Bool) (hF : ∀ i, i < len → ∃ a b, (part el xs (i * n)).run P w = .ok a w ∧ (part el ys (i * n)).run P w = .ok b w ∧ (Op.equalIn d el a b).run P w = .ok (F i) w) :
    (Op.equalIn (d + 1) t (.agg xs) (.agg ys)).run P w = .ok ((List.range len).all F) w := by
  simp only [Op.equalIn, Sem.run_bind, run_underlying ht, Result.andThen_ok, run_sizeOf hn]
  rw [Std.Legacy.Range.forIn_eq_forIn_range']
  have key : ∀ (k i : Nat), i + k ≤ len → ((forIn (List.range' i k) (none, PUnit.unit) fun i x => do
      let a ← part el xs (i * n)
      let b ← part el ys (i * n)
      let r ← Op.equalIn d el a b
      if (!r) = true then pure (ForInStep.done (some false, PUnit.unit)) else pure (ForInStep.yield (none, PUnit.unit)) : Sem (Option Bool × PUnit))).run P w = .ok (if (List.range' i k).all F then none else some false, PUnit.unit) w := by
    intro k
    induction k with
    | zero => intro i _; simp
    | succ k ih =>
      intro i hi
      obtain ⟨a, b, h1, h2, h3⟩ := hF i (by omega)
      simp only [List.range'_succ, List.forIn_cons, Sem.run_bind, h1, h2, h3, Result.andThen_ok]
      cases hb : F i with
      | true => simp only [Bool.not_true, Bool.false_eq_true, if_false, Sem.run_pure, Result.andThen_ok, List.all_cons, hb, Bool.true_and]; exact ih (i + 1) (by omega)
      | false => simp [hb]
  have := key len 0 (by omega)
  simp only [Std.Legacy.Range.size, Nat.sub_zero, Nat.add_one_sub_one, Nat.div_one]
  rw [this]
  rw [List.range_eq_range']
  cases (List.range' 0 len).all F <;> simp

theorem eqA_sound {P : Program} {E : Env} : ∀ (d : Nat) (t : TypeId) (x y : AV) (b : Bool), eqA P d t x y = some b → ∀ m, d ≤ m → ∀ w, (Op.equalIn m t (x.conc E) (y.conc E)).run P w = .ok b w := by
  intro d
  induction d with
  | zero => intro t x y b h; simp [eqA] at h
  | succ d ih =>
    intro t x y b h m hm w
    obtain ⟨m, rfl⟩ : ∃ k, m = k + 1 := ⟨m - 1, by omega⟩
    unfold eqA at h
    split at h
    · rename_i a b' hu; simp only [Option.some.injEq] at h; subst h; simp [Op.equalIn, run_underlying hu, AV.conc]
    · rename_i k0 k a k' b' hu
      simp only [cond_eq_ite, decide_eq_true_eq] at h
      split at h
      · rename_i hk; simp only [Option.some.injEq] at h; subst h; simp [Op.equalIn, run_underlying hu, AV.conc, hk]
      · cases h
    · rename_i a b' hu; simp only [Option.some.injEq] at h; subst h; simp [Op.equalIn, run_underlying hu, AV.conc]
    · rename_i fs xs ys hu
      cases hst : P.stoodInHeld t with
      | true => rw [hst] at h; cases h
      | false =>
        rw [hst] at h
        simp only [cond_false] at h
        have hf : P.fieldsOf t = fs := by simp [Program.fieldsOf, hu]
        simp only [AV.conc]
        rw [run_equalIn_struct w m t _ _ (by rw [hf]; exact hu) hst, hf]
        generalize fs.toList = l at h
        clear hu hf
        induction l generalizing b with
        | nil => simp only [List.foldr_nil, Option.some.injEq] at h; subst h; simp [Op.eqFields]
        | cons f l ihl =>
          simp only [List.foldr_cons] at h
          split at h
          · cases h
          · rename_i q hq
            have ihq := ihl q hq
            simp only [cond_eq_ite, decide_eq_true_eq] at h
            split at h
            · rename_i hn
              simp only [Option.some.injEq] at h
              subst h
              simp only [Op.eqFields, hn, ne_eq, not_true_eq_false, if_false]
              exact ihq
            · rename_i hn
              split at h
              · rename_i a b' h1 h2
                split at h
                · rename_i p hp
                  simp only [Option.some.injEq] at h
                  subst h
                  simp only [Op.eqFields, ne_eq, hn, not_false_eq_true, if_true, Sem.run_bind, run_part h1 w, run_part h2 w, Result.andThen_ok, ih _ _ _ _ hp m (by omega) w]
                  cases p with
                  | true => simpa using ihq
                  | false => simp
                · cases h
              · cases h
    · rename_i len el xs ys hu
      split at h
      · cases h
      · rename_i n hn
        simp only [AV.conc]
        have key : ∀ (l : List Nat) (b : Bool), l.foldr (fun i r => match r with
            | none => none
            | some q =>
              match partA P el xs (i * n), partA P el ys (i * n) with
              | some a, some b => match eqA P d el a b with
                | some p => some (p && q)
                | none => none
              | _, _ => none) (some true) = some b →
            ∃ F : Nat → Bool, b = l.all F ∧ ∀ i, i ∈ l → ∃ a b, (part el (concL E xs).toArray (i * n)).run P w = .ok a w ∧ (part el (concL E ys).toArray (i * n)).run P w = .ok b w ∧ (Op.equalIn m el a b).run P w = .ok (F i) w := by
          intro l
          induction l with
          | nil => intro b h; simp only [List.foldr_nil, Option.some.injEq] at h; subst h; exact ⟨fun _ => true, rfl, fun i hi => by cases hi⟩
          | cons i l ihl =>
            intro b h
            simp only [List.foldr_cons] at h
            split at h
            · cases h
            · rename_i q hq
              obtain ⟨F, hF1, hF2⟩ := ihl q hq
              split at h
              · rename_i a b' h1 h2
                split at h
                · rename_i p hp
                  simp only [Option.some.injEq] at h
                  subst h
                  have e3 := ih _ _ _ _ hp m (by omega) w
                  by_cases hil : i ∈ l
                  · -- the same index again: the same answer
                    obtain ⟨a2, b2, g1, g2, g3⟩ := hF2 i hil
                    rw [run_part h1 w] at g1; rw [run_part h2 w] at g2
                    simp only [Result.ok.injEq, and_true] at g1 g2
                    subst g1; subst g2
                    rw [e3] at g3
                    simp only [Result.ok.injEq, and_true] at g3
                    refine ⟨F, by simp [hF1, g3], fun j hj => ?_⟩
                    rcases List.mem_cons.1 hj with rfl | hj
                    · exact ⟨_, _, run_part h1 w, run_part h2 w, by rw [e3, g3]⟩
                    · exact hF2 j hj
                  · refine ⟨fun j => if j = i then p else F j, ?_, fun j hj => ?_⟩
                    · simp only [List.all_cons, if_true, hF1]
                      congr 1
                      rw [Bool.eq_iff_iff, List.all_eq_true, List.all_eq_true]
                      have hne : ∀ j, j ∈ l → ¬ j = i := fun j hj e => hil (e ▸ hj)
                      constructor
                      · intro hh j hj
                        have h7 := hh j hj
                        simp only [if_neg (hne j hj)]
                        exact h7
                      · intro hh j hj
                        have h7 := hh j hj
                        simp only [if_neg (hne j hj)] at h7
                        exact h7
                    · rcases List.mem_cons.1 hj with rfl | hj
                      · exact ⟨_, _, run_part h1 w, run_part h2 w, by rw [e3]; simp⟩
                      · obtain ⟨a2, b2, g1, g2, g3⟩ := hF2 j hj
                        have hne : ¬ j = i := fun e => hil (e ▸ hj)
                        exact ⟨a2, b2, g1, g2, by rw [g3]; simp [hne]⟩
                · cases h
              · cases h
        obtain ⟨F, hF1, hF2⟩ := key (List.range len) b h
        rw [run_equalIn_array m t el len n _ _ hu hn w F (fun i hi => hF2 i (List.mem_range.2 hi)), hF1]
    · cases h

/-- the aggregates' cells, whichever way they are held -/
def AV.asAgg : AV → AV
  | .lit (.agg cs) => .agg (cs.toList.map AV.lit)
  | a => a
theorem concL_lits (E : Env) (l : List Value) : concL E (l.map AV.lit) = l := by
  induction l with
  | nil => rfl
  | cons a l ih => simp [concL, AV.conc, ih]
theorem AV.asAgg_conc (E : Env) (a : AV) : a.asAgg.conc E = a.conc E := by
  unfold AV.asAgg
  split
  · simp [AV.conc, concL_lits]
  · rfl

def nilish : Value → Bool
  | .pointer none | .slice none _ _ | .nilFunc => true
  | _ => false

/-- is this a name against nil? -/
def nilCmp (P : Program) (t : TypeId) (x y : AV) : Bool :=
  match P.underlying t, x, y with
  | some (.pointer _), .ptr _ _, .lit (.pointer none) => true
  | some (.pointer _), .lit (.pointer none), .ptr _ _ => true
  | some (.slice _), .sl _ _ _ _, .lit (.slice none _ _) => true
  | some (.slice _), .lit (.slice none _ _), .sl _ _ _ _ => true
  | some (.func _ _ _), .fn _ _, .lit .nilFunc => true
  | some (.func _ _ _), .lit .nilFunc, .fn _ _ => true
  | _, _, _ => false

theorem nilCmp_in {P : Program} {E : Env} {t : TypeId} {x y : AV} (h : nilCmp P t x y = true) (d : Nat) (w : World) : (Op.equalIn (d + 1) t (x.conc E) (y.conc E)).run P w = .ok false w := by
  unfold nilCmp at h
  split at h <;> first | (rename_i hu; simp [Op.equalIn, run_underlying hu, AV.conc]; done) | cases h
theorem nilCmp_sound {P : Program} {E : Env} {t : TypeId} {x y : AV} (h : nilCmp P t x y = true) (w : World) : (Op.equal t (x.conc E) (y.conc E)).run P w = .ok false w :=
  nilCmp_in h 9999 w

def cmpA (P : Program) (t : TypeId) (x y : AV) : Option Bool :=
  bif nilCmp P t x y then some false
  else bif P.eqGuardType P.depth t then none
  else match x.asAgg, y.asAgg with
    | .agg xs, .agg ys => eqA P 30 t (.agg xs) (.agg ys)
    | _, _ => none

/-- one operation that hands back a value and touches no memory: a binary one -/
def binK {R : Type} (P : Program) (op : BinOp) (t : TypeId) (ox oy : Operand) (x y : AV) (k : AV → Option R) : Option R :=
  match x, y with
  | .lit (.int ka a), .lit (.int kb b) =>
    match op with
    | .quo => bif decide (ka = kb) then (if b = 0 then none else k (.lit (.int ka (ka.wrap (a.tdiv b))))) else none
    | .rem => bif decide (ka = kb) then (if b = 0 then none else k (.lit (.int ka (a.tmod b)))) else none
    | .shl => if b < 0 then none else k (.lit (.int ka (ka.wrap (a * 2 ^ (min b.toNat ka.bits)))))
    | .shr => if b < 0 then none else k (.lit (.int ka (a.fdiv (2 ^ (min b.toNat ka.bits)))))
    | op => match pureRun P (binOp op t (.int ka a) (.int kb b)) with
      | some v => k (.lit v)
      | none => none
  | .lit (.bool a), .lit (.bool b) =>
    match op with
    | .eql => bif (P.underlying t matches some .bool) then k (.lit (.bool (a == b))) else none
    | .neq => bif (P.underlying t matches some .bool) then k (.lit (.bool (!(a == b)))) else none
    | _ => none
  | .lit (.string a), .lit (.string b) =>
    match pureRun P (binOp op t (.string a) (.string b)) with
      | some v => k (.lit v)
      | none => none
  | .lit (.pointer none), .lit (.pointer none) =>
    match op, P.underlying t with
    | .eql, some (.pointer _) => k (.lit (.bool true))
    | .neq, some (.pointer _) => k (.lit (.bool false))
    | _, _ => none
  | .lit (.slice none _ _), .lit (.slice none _ _) =>
    match op, P.underlying t with
    | .eql, some (.slice _) => k (.lit (.bool true))
    | .neq, some (.slice _) => k (.lit (.bool false))
    | _, _ => none
  | x, y =>
    match op with
    | .eql => match cmpA P t x y with
      | some b => k (.lit (.bool b))
      | none => none
    | .neq => match cmpA P t x y with
      | some b => k (.lit (.bool (!b)))
      | none => none
    | _ => none

theorem run_eqGuard_int {P : Program} (op : BinOp) (t : TypeId) (ox oy : Operand) (ka kb : IntKind) (a b : Int) (w : World) : (eqGuard op t ox oy (.int ka a) (.int kb b)).run P w = .ok () w := by
  cases op <;> simp [eqGuard]
theorem run_eqGuard_bool {P : Program} (op : BinOp) (t : TypeId) (ox oy : Operand) (a b : Bool) (w : World) : (eqGuard op t ox oy (.bool a) (.bool b)).run P w = .ok () w := by
  cases op <;> simp [eqGuard]
theorem run_eqGuard_string {P : Program} (op : BinOp) (t : TypeId) (ox oy : Operand) (a b : ByteArray) (w : World) : (eqGuard op t ox oy (.string a) (.string b)).run P w = .ok () w := by
  cases op <;> simp [eqGuard]

theorem run_eqGuard_agg {P : Program} (op : BinOp) (t : TypeId) (ox oy : Operand) (a b : Array Value) (h : P.eqGuardType P.depth t = false) (w : World) : (eqGuard op t ox oy (.agg a) (.agg b)).run P w = .ok () w := by
  cases op <;> simp [eqGuard, h]

theorem run_binop_eql {P : Program} {t : TypeId} {x y : Value} {r : Bool} {w : World} (hx : ∀ k n, x ≠ .int k n) (hf : ∀ k n, x ≠ .float k n) (hc : ∀ k n m, x ≠ .complex k n m) (hs : ∀ s, x ≠ .string s)
    (h : (Op.equal t x y).run P w = .ok r w) :
    (binOp .eql t x y).run P w = .ok (.bool r) w ∧ (binOp .neq t x y).run P w = .ok (.bool (!r)) w := by
  cases x with
  | int k n => exact absurd rfl (hx k n)
  | float k n => exact absurd rfl (hf k n)
  | complex k n m => exact absurd rfl (hc k n m)
  | string s => exact absurd rfl (hs s)
  | _ => cases y <;> (simp only [binOp, Sem.run_bind, h, Result.andThen_ok, Sem.run_pure, and_self])

theorem eqGuard_nil {P : Program} {E : Env} {op : BinOp} {t : TypeId} {ox oy : Operand} {x y : AV} (h : nilCmp P t x y = true) (w : World) : (eqGuard op t ox oy (x.conc E) (y.conc E)).run P w = .ok () w := by
  unfold nilCmp at h
  split at h <;> first | (cases op <;> simp [eqGuard, AV.conc]; done) | cases h

theorem nilCmp_kinds {P : Program} {E : Env} {t : TypeId} {x y : AV} (h : nilCmp P t x y = true) :
    (∀ k n, x.conc E ≠ .int k n) ∧ (∀ k n, x.conc E ≠ .float k n) ∧ (∀ k n m, x.conc E ≠ .complex k n m) ∧ (∀ s, x.conc E ≠ .string s) := by
  unfold nilCmp at h
  split at h <;> first | (simp [AV.conc]; done) | cases h

theorem cmpA_sound {P : Program} {E : Env} {t : TypeId} {x y : AV} {b : Bool} (h : cmpA P t x y = some b) (op : BinOp) (ox oy : Operand) (w : World) :
    (eqGuard op t ox oy (x.conc E) (y.conc E)).run P w = .ok () w ∧ (binOp .eql t (x.conc E) (y.conc E)).run P w = .ok (.bool b) w ∧ (binOp .neq t (x.conc E) (y.conc E)).run P w = .ok (.bool (!b)) w := by
  unfold cmpA at h
  cases hn : nilCmp P t x y with
  | true =>
    rw [hn] at h
    simp only [cond_true, Option.some.injEq] at h
    subst h
    obtain ⟨k1, k2, k3, k4⟩ := nilCmp_kinds (E := E) hn
    exact ⟨eqGuard_nil hn w, run_binop_eql k1 k2 k3 k4 (nilCmp_sound hn w)⟩
  | false =>
    rw [hn] at h
    simp only [cond_false] at h
    cases hg : P.eqGuardType P.depth t with
    | true => rw [hg] at h; cases h
    | false =>
      rw [hg] at h
      simp only [cond_false] at h
      rw [← AV.asAgg_conc E x, ← AV.asAgg_conc E y]
      split at h
      · rename_i xs ys hx hy
        have := eqA_sound (E := E) 30 t _ _ _ h 10000 (by omega) w
        rw [hx, hy]
        refine ⟨run_eqGuard_agg op t ox oy _ _ hg w, run_binop_eql ?_ ?_ ?_ ?_ this⟩ <;> simp [AV.conc]
      · cases h

theorem binK_sound {R : Type} {P : Program} {op : BinOp} {t : TypeId} {ox oy : Operand} {x y : AV} {k : AV → Option R} {r : R} (h : binK P op t ox oy x y k = some r) :
    ∃ v : Value, k (.lit v) = some r ∧ ∀ (E : Env) w, (do eqGuard op t ox oy (x.conc E) (y.conc E); binOp op t (x.conc E) (y.conc E) : Sem Value).run P w = .ok v w := by
  unfold binK at h
  split at h
  · rename_i ka a kb b
    have fin : ∀ v, (∀ w, (binOp op t (.int ka a) (.int kb b)).run P w = .ok v w) → ∀ (E : Env) w, (do eqGuard op t ox oy ((AV.lit (.int ka a)).conc E) ((AV.lit (.int kb b)).conc E); binOp op t ((AV.lit (.int ka a)).conc E) ((AV.lit (.int kb b)).conc E) : Sem Value).run P w = .ok v w := by
      intro v hv E w
      simp only [AV.conc, Sem.run_bind, run_eqGuard_int, Result.andThen_ok]
      exact hv w
    split at h
    · simp only [cond_eq_ite, decide_eq_true_eq] at h
      split at h
      · rename_i hk
        split at h
        · cases h
        · rename_i hb
          exact ⟨_, h, fin _ (fun w => by simp [binOp, hk, Op.intDiv, hb])⟩
      · cases h
    · simp only [cond_eq_ite, decide_eq_true_eq] at h
      split at h
      · rename_i hk
        split at h
        · cases h
        · rename_i hb
          exact ⟨_, h, fin _ (fun w => by simp [binOp, hk, Op.intDiv, hb])⟩
      · cases h
    · split at h
      · cases h
      · rename_i hb
        exact ⟨_, h, fin _ (fun w => by simp [binOp, Op.shift, hb])⟩
    · split at h
      · cases h
      · rename_i hb
        exact ⟨_, h, fin _ (fun w => by simp [binOp, Op.shift, hb])⟩
    · split at h
      · rename_i v hv
        exact ⟨_, h, fin _ (fun w => pureRun_run _ w hv)⟩
      · cases h
  · rename_i a b
    have fin : ∀ v, (∀ w, (binOp op t (.bool a) (.bool b)).run P w = .ok v w) → ∀ (E : Env) w, (do eqGuard op t ox oy ((AV.lit (.bool a)).conc E) ((AV.lit (.bool b)).conc E); binOp op t ((AV.lit (.bool a)).conc E) ((AV.lit (.bool b)).conc E) : Sem Value).run P w = .ok v w := by
      intro v hv E w
      simp only [AV.conc, Sem.run_bind, run_eqGuard_bool, Result.andThen_ok]
      exact hv w
    split at h
    · cases hu : P.underlying t with
      | none => rw [hu] at h; cases h
      | some d =>
        rw [hu] at h
        cases d <;> first | cases h | skip
        exact ⟨_, h, fin _ (fun w => (run_binop_eql (by simp) (by simp) (by simp) (by simp) (run_equal_bool w t a b hu)).1)⟩
    · cases hu : P.underlying t with
      | none => rw [hu] at h; cases h
      | some d =>
        rw [hu] at h
        cases d <;> first | cases h | skip
        exact ⟨_, h, fin _ (fun w => (run_binop_eql (by simp) (by simp) (by simp) (by simp) (run_equal_bool w t a b hu)).2)⟩
    · cases h
  · rename_i a b
    split at h
    · rename_i v hv
      refine ⟨_, h, fun E w => ?_⟩
      simp only [AV.conc, Sem.run_bind, run_eqGuard_string, Result.andThen_ok]
      exact pureRun_run _ w hv
    · cases h
  · have eg : ∀ w, (eqGuard op t ox oy (.pointer none) (.pointer none)).run P w = .ok () w := fun w => by cases op <;> simp [eqGuard]
    split at h
    · rename_i hu
      refine ⟨_, h, fun E w => ?_⟩
      simp only [AV.conc, Sem.run_bind, eg, Result.andThen_ok]
      exact (run_binop_eql (by simp) (by simp) (by simp) (by simp) (show (Op.equalIn (9999 + 1) t _ _).run P w = _ from by
        generalize 9999 = d; simp [Op.equalIn, run_underlying hu])).1
    · rename_i hu
      refine ⟨_, h, fun E w => ?_⟩
      simp only [AV.conc, Sem.run_bind, eg, Result.andThen_ok]
      exact (run_binop_eql (r := true) (by simp) (by simp) (by simp) (by simp) (show (Op.equalIn (9999 + 1) t _ _).run P w = _ from by
        generalize 9999 = d; simp [Op.equalIn, run_underlying hu])).2
    · cases h
  · have eg : ∀ a b c d w, (eqGuard op t ox oy (.slice none a b) (.slice none c d)).run P w = .ok () w := fun a b c d w => by cases op <;> simp [eqGuard]
    split at h
    · rename_i hu
      refine ⟨_, h, fun E w => ?_⟩
      simp only [AV.conc, Sem.run_bind, eg, Result.andThen_ok]
      exact (run_binop_eql (by simp) (by simp) (by simp) (by simp) (show (Op.equalIn (9999 + 1) t _ _).run P w = _ from by
        generalize 9999 = d; simp [Op.equalIn, run_underlying hu])).1
    · rename_i hu
      refine ⟨_, h, fun E w => ?_⟩
      simp only [AV.conc, Sem.run_bind, eg, Result.andThen_ok]
      exact (run_binop_eql (r := true) (by simp) (by simp) (by simp) (by simp) (show (Op.equalIn (9999 + 1) t _ _).run P w = _ from by
        generalize 9999 = d; simp [Op.equalIn, run_underlying hu])).2
    · cases h
  · split at h
    · split at h
      · rename_i b hb
        refine ⟨_, h, fun E w => ?_⟩
        obtain ⟨h1, h2, _⟩ := cmpA_sound (E := E) hb .eql ox oy w
        simp only [Sem.run_bind, h1, Result.andThen_ok, h2]
      · cases h
    · split at h
      · rename_i b hb
        refine ⟨_, h, fun E w => ?_⟩
        obtain ⟨h1, _, h2⟩ := cmpA_sound (E := E) hb .neq ox oy w
        simp only [Sem.run_bind, h1, Result.andThen_ok, h2]
      · cases h
    · cases h

end Go.Sx

namespace Go.Sx
open Go Go.RowKit

/-! elements of slices that are known as lists -/
def AV.cellD (a : AV) (p : Nat) : AV := match a with | .agg cs => cs.getD p .bad | _ => .bad
def normL (a : AV) : List CK → Nat → List AV
  | [], _ => []
  | c :: cs, p => c.norm (a.cellD p) :: normL a cs (p + 1)
def normE (isAgg : Bool) (sh : List CK) (a : AV) : AV :=
  match isAgg with
  | true => .agg (normL a sh 0)
  | false => match sh with
    | [c] => c.norm a
    | _ => .bad

theorem CK.norm_fits (c : CK) (a : AV) (h : c.fits a = true) : c.norm a = a := by
  unfold CK.fits at h
  split at h <;> simp_all [CK.norm, AV.getInt, AV.getBool, AV.getStr]

theorem fitsAll_len : ∀ (sh : List CK) (l : List AV), fitsAll sh l = true → l.length = sh.length
  | [], [], _ => rfl
  | _ :: ks, _ :: l, h => by
    simp only [fitsAll, Bool.and_eq_true] at h
    simp [fitsAll_len ks l h.2]
  | [], _ :: _, h => by simp [fitsAll] at h
  | _ :: _, [], h => by simp [fitsAll] at h

theorem normL_fits (cs : List AV) : ∀ (sh : List CK) (p : Nat) (l : List AV), cs.drop p = l → fitsAll sh l = true → normL (.agg cs) sh p = l := by
  intro sh
  induction sh with
  | nil => intro p l hl h; cases l with
    | nil => rfl
    | cons a l => simp [fitsAll] at h
  | cons c sh ih =>
    intro p l hl h
    cases l with
    | nil => simp [fitsAll] at h
    | cons a l =>
      simp only [fitsAll, Bool.and_eq_true] at h
      have hp : cs[p]? = some a := by
        have : (cs.drop p)[0]? = some a := by rw [hl]; rfl
        simpa using this
      have e1 : AV.cellD (.agg cs) p = a := by simp [AV.cellD, List.getD, hp]
      simp only [normL, e1, CK.norm_fits c a h.1]
      rw [ih (p + 1) l (by rw [← List.drop_drop, hl]; rfl) h.2]

theorem normE_shape {isAgg : Bool} {sh : List CK} {a : AV} (h : a.shape isAgg sh = true) : normE isAgg sh a = a := by
  unfold AV.shape at h
  split at h
  · simp only [normE]
    rw [normL_fits _ sh 0 _ List.drop_zero h]
  · have := fitsAll_len _ _ h
    match sh, this with
    | [c], _ =>
      simp only [fitsAll, Bool.and_eq_true] at h
      simp only [normE]
      exact CK.norm_fits c a h.1
  · cases h

theorem shape_cells {isAgg : Bool} {sh : List CK} {a : AV} (h : a.shape isAgg sh = true) : a.cells.length = sh.length := by
  unfold AV.shape at h
  split at h
  · exact fitsAll_len _ _ h
  · have h1 := fitsAll_len _ _ h
    match sh, h1 with
    | [c], _ =>
      simp only [fitsAll, Bool.and_eq_true] at h
      have h2 := h.1
      cases a with
      | agg cs => cases c <;> simp [CK.fits] at h2
      | lit v => cases v <;> first | rfl | (cases c <;> simp [CK.fits] at h2)
      | _ => rfl
  · cases h

def Ent.elem_ (e : Ent) (i : Nat) : AV := normE e.isAgg e.sh (e.cont.getD i .bad)

theorem Ent.elem_eq {e : Ent} {i : Nat} {x : AV} (hx : e.cont[i]? = some x) (h : x.shape e.isAgg e.sh = true) : e.elem_ i = x := by
  unfold Ent.elem_
  rw [show e.cont.getD i .bad = x from by simp [List.getD, hx]]
  exact normE_shape h

/-! loading -/
def loadA {R : Type} (P : Program) (M : Mem) (t : TypeId) (x : AV) (k : AV → Option R) : Option R :=
  match x with
  | .ptr b off =>
    match M.blks[b]?, aggT P t, sizeT P t with
    | some (some X), some true, some n => bif decide (off + n ≤ X.cells.length) && lvL M.live ((X.cells.drop off).take n) then k (.agg ((X.cells.drop off).take n)) else none
    | some (some X), some false, _ =>
      match X.cells[off]? with
      | some c => bif c.lv M.live then k c else none
      | none => none
    | _, _, _ => none
  | .vptr h i z j =>
    match M.vecs[h]?, aggT P t, sizeT P t with
    | some (some e), some true, some n =>
      bif decide (z = e.sh.length) then
        bif decide (j + n ≤ z) then
          if i < e.cont.length then (bif lvL M.live (((e.elem_ i).cells.drop j).take n) then k (.agg (((e.elem_ i).cells.drop j).take n)) else none) else none
        else bif decide (z = 1) && decide (j = 0) && !e.isAgg then
          if i + n ≤ e.cont.length then (bif lvL M.live ((List.range n).map fun p => e.elem_ (i + p)) then k (.agg ((List.range n).map fun p => e.elem_ (i + p))) else none) else none
        else none
      else none
    | some (some e), some false, _ =>
      bif decide (z = e.sh.length) then
        if i < e.cont.length then
          match (e.elem_ i).cells[j]? with
          | some c => bif c.lv M.live then k c else none
          | none => none
        else none
      else none
    | _, _, _ => none
  | _ => none

theorem addr_add (b o n : Nat) : Addr.add ⟨b, o, none⟩ n = ⟨b, o + n, none⟩ := by
  unfold Addr.add; split
  · rename_i h; subst h; rfl
  · rfl

theorem lvL_at {L : Nat → Bool} {l : List AV} (h : lvL L l = true) {i : Nat} {a : AV} (ha : l[i]? = some a) : a.lv L = true := by
  rw [lvL_eq, List.all_eq_true] at h
  exact h a (List.mem_of_getElem? ha)
theorem scL_at {n m : Nat} {l : List AV} (h : scL n m l = true) {i : Nat} {a : AV} (ha : l[i]? = some a) : a.sc n m = true := by
  rw [scL_eq, List.all_eq_true] at h
  exact h a (List.mem_of_getElem? ha)
theorem scL_of {n m : Nat} {l : List AV} (h : ∀ (i : Nat) (a : AV), l[i]? = some a → a.sc n m = true) : scL n m l = true := by
  rw [scL_eq, List.all_eq_true]
  intro a ha
  obtain ⟨i, hi⟩ := List.getElem?_of_mem ha
  exact h i a hi
theorem lvL_of {L : Nat → Bool} {l : List AV} (h : ∀ (i : Nat) (a : AV), l[i]? = some a → a.lv L = true) : lvL L l = true := by
  rw [lvL_eq, List.all_eq_true]
  intro a ha
  obtain ⟨i, hi⟩ := List.getElem?_of_mem ha
  exact h i a hi

/-- a row of cells that are all alive -/
theorem run_loadVar_agg {P : Program} {E : Env} {t : TypeId} {n : Nat} {b o : Nat} {cs : List AV} {w : World} (ha : aggT P t = some true) (hs : sizeT P t = some n) (hl : cs.length = n)
    (hc : ∀ (p : Nat) (c : AV), cs[p]? = some c → w.cell? ⟨b, o + p, none⟩ = some (c.conc E)) : (loadVar t ⟨b, o, none⟩).run P w = .ok ((AV.agg cs).conc E) w := by
  unfold loadVar
  simp only [Sem.run_bind, run_isAgg ha w, Result.andThen_ok, if_true, run_sizeOf hs w]
  have := run_loadCells_list (P := P) w ⟨b, o, none⟩ (concL E cs) (fun j v hv => by
    rw [concL_eq, List.getElem?_map] at hv
    cases hcj : cs[j]? with
    | none => rw [hcj] at hv; cases hv
    | some c =>
      rw [hcj] at hv
      simp only [Option.map_some, Option.some.injEq] at hv
      subst hv
      rw [addr_add]; exact hc j c hcj)
  rw [show (concL E cs).length = n from by rw [concL_eq, List.length_map, hl]] at this
  simp only [this, Result.andThen_ok, Sem.run_pure, AV.conc]

theorem run_loadVar_one {P : Program} {t : TypeId} {b o : Nat} {v : Value} {w : World} (ha : aggT P t = some false) (hc : w.cell? ⟨b, o, none⟩ = some v) : (loadVar t ⟨b, o, none⟩).run P w = .ok v w := by
  unfold loadVar
  simp only [Sem.run_bind, run_isAgg ha w, Result.andThen_ok, Bool.false_eq_true, if_false]
  simp [hc]

theorem RepM.vcell {E : Env} {w0 : Bs} {M : Mem} {w : World} (h : RepM E w0 M w) {i : Nat} {e : Ent} (he : M.vecs[i]? = some (some e)) {q : Nat} {x : AV} (hx : e.cont[q]? = some x) {j : Nat} {c : AV} (hc : x.cells[j]? = some c) :
    ∃ u, w.cell? ⟨(E.va i).block, (E.va i).off + (q * e.sh.length + j), none⟩ = some u ∧ RelS E M c u := by
  rcases h.vec i e he with ⟨hz, _⟩ | ⟨a, cap, cs, fz, hv⟩
  · rw [hz] at hx; simp at hx
  obtain ⟨u, h1, h2⟩ := hv.cell q x hx j c hc
  have : E.va i = a := by simp [Env.va, hv.val]
  exact ⟨u, by rw [this]; simp [World.cell?, hv.blk, h1], h2⟩

/-- the shape of what stands in a row -/
theorem RepM.shape {E : Env} {w0 : Bs} {M : Mem} {w : World} (h : RepM E w0 M w) {i : Nat} {e : Ent} (he : M.vecs[i]? = some (some e)) {q : Nat} {x : AV} (hx : e.cont[q]? = some x) : x.shape e.isAgg e.sh = true := by
  rcases h.vec i e he with ⟨hz, _⟩ | ⟨a, cap, cs, fz, hv⟩
  · rw [hz] at hx; simp at hx
  · exact hv.shape q x hx

theorem loadA_sound {R : Type} {P : Program} {M : Mem} {t : TypeId} {x : AV} {k : AV → Option R} {r : R} (h : loadA P M t x k = some r) :
    ∃ z, k z = some r ∧ z.lv M.live = true ∧ ∀ E w0 w, RepM E w0 M w → z.sc M.blks.length M.vecs.length = true ∧ (Instr.loadAt t (x.conc E)).run P w = .ok (z.conc E) w := by
  unfold loadA at h
  split at h
  · rename_i b off
    split at h
    · rename_i X n hX ha hs
      simp only [cond_eq_ite, Bool.and_eq_true, decide_eq_true_eq] at h
      split at h
      · rename_i hle
        refine ⟨_, h, by simp only [AV.lv]; exact hle.2, fun E w0 w hR => ?_⟩
        obtain ⟨_, ds, hd, hr⟩ := hR.blk b X hX
        refine ⟨?_, ?_⟩
        · simp only [AV.sc]
          refine scL_of fun i a hi => ?_
          have : X.cells[off + i]? = some a := by
            rw [List.getElem?_take] at hi
            split at hi
            · simpa using hi
            · cases hi
          obtain ⟨v, _, hv⟩ := hr.get this
          exact hv.1
        · simp only [Instr.loadAt, AV.conc, Instr.sureAddr, Sem.run_bind, Sem.run_pure, Result.andThen_ok]
          refine run_loadVar_agg ha hs (by simp; omega) (fun p c hc => ?_)
          have hc' : X.cells[off + p]? = some c := by
            rw [List.getElem?_take] at hc
            split at hc
            · simpa using hc
            · cases hc
          obtain ⟨v, hv, hrel⟩ := hR.cell hX hc'
          rw [hv, hrel.2 (lvL_at hle.2 hc)]
      · cases h
    · rename_i X hX ha
      split at h
      · rename_i c hc
        simp only [cond_eq_ite] at h
        split at h
        · rename_i hl
          refine ⟨_, h, hl, fun E w0 w hR => ?_⟩
          obtain ⟨v, hv, hrel⟩ := hR.cell hX hc
          refine ⟨hrel.1, ?_⟩
          simp only [Instr.loadAt, AV.conc, Instr.sureAddr, Sem.run_bind, Sem.run_pure, Result.andThen_ok]
          rw [run_loadVar_one ha hv, hrel.2 hl]
        · cases h
      · cases h
    · cases h
  · rename_i hh i z j
    split at h
    · rename_i e n he ha hs
      simp only [cond_eq_ite, Bool.and_eq_true, decide_eq_true_eq, Bool.not_eq_true', Bool.not_eq_eq_eq_not, Bool.not_true] at h
      split at h
      · rename_i hz
        subst hz
        split at h
        · rename_i hjn
          split at h
          · rename_i hi
            split at h
            · rename_i hl
              refine ⟨_, h, by simp only [AV.lv]; exact hl, fun E w0 w hR => ?_⟩
              have hx : e.cont[i]? = some e.cont[i] := List.getElem?_eq_getElem hi
              have hel := Ent.elem_eq hx (hR.shape he hx)
              have hlen := shape_cells (hR.shape he hx)
              rw [hel] at hl ⊢
              refine ⟨?_, ?_⟩
              · simp only [AV.sc]
                refine scL_of fun p a hp => ?_
                have : (e.cont[i]).cells[j + p]? = some a := by
                  rw [List.getElem?_take] at hp
                  split at hp
                  · simpa using hp
                  · cases hp
                obtain ⟨u, _, hu⟩ := hR.vcell he hx this
                exact hu.1
              · simp only [Instr.loadAt, AV.conc, Instr.sureAddr, Sem.run_bind, Sem.run_pure, Result.andThen_ok]
                refine run_loadVar_agg ha hs (by simp; omega) (fun p c hc => ?_)
                have hc' : (e.cont[i]).cells[j + p]? = some c := by
                  rw [List.getElem?_take] at hc
                  split at hc
                  · simpa using hc
                  · cases hc
                obtain ⟨u, hu, hrel⟩ := hR.vcell he hx hc'
                rw [show (E.va hh).off + (i * e.sh.length + j) + p = (E.va hh).off + (i * e.sh.length + (j + p)) from by omega, hu, hrel.2 (lvL_at hl hc)]
            · cases h
          · cases h
        · split at h
          · rename_i h1
            obtain ⟨⟨hz1, hj0⟩, hna⟩ := h1
            split at h
            · rename_i hi
              split at h
              · rename_i hl
                refine ⟨_, h, by simp only [AV.lv]; exact hl, fun E w0 w hR => ?_⟩
                have hx : ∀ p, p < n → ∃ x, e.cont[i + p]? = some x ∧ e.elem_ (i + p) = x ∧ x.cells[0]? = some x := by
                  intro p hp
                  have hx : e.cont[i + p]? = some e.cont[i + p] := List.getElem?_eq_getElem (by omega)
                  refine ⟨_, hx, Ent.elem_eq hx (hR.shape he hx), ?_⟩
                  have hsh := hR.shape he hx
                  generalize e.cont[i + p] = y at hsh
                  unfold AV.shape at hsh
                  rw [hna] at hsh
                  have h1 := fitsAll_len _ _ hsh
                  match hsh' : e.sh, h1 with
                  | [c], _ =>
                    rw [hsh'] at hsh
                    simp only [fitsAll, Bool.and_eq_true] at hsh
                    have h2 := hsh.1
                    cases y with
                    | agg cs => cases c <;> simp [CK.fits] at h2
                    | lit v => cases v <;> first | rfl | (cases c <;> simp [CK.fits] at h2)
                    | _ => rfl
                refine ⟨?_, ?_⟩
                · simp only [AV.sc]
                  refine scL_of fun p a hp => ?_
                  rw [List.getElem?_map] at hp
                  by_cases hpn : p < n
                  · obtain ⟨x, h1, h2, h3⟩ := hx p hpn
                    simp [hpn] at hp
                    rw [h2] at hp
                    subst hp
                    obtain ⟨u, _, hu⟩ := hR.vcell he h1 h3
                    exact hu.1
                  · simp [hpn] at hp
                · simp only [Instr.loadAt, AV.conc, Instr.sureAddr, Sem.run_bind, Sem.run_pure, Result.andThen_ok]
                  refine run_loadVar_agg ha hs (by simp) (fun p c hc => ?_)
                  have hc0 := hc
                  rw [List.getElem?_map] at hc
                  by_cases hpn : p < n
                  · obtain ⟨x, h1, h2, h3⟩ := hx p hpn
                    simp [hpn] at hc
                    rw [h2] at hc
                    subst hc
                    obtain ⟨u, hu, hrel⟩ := hR.vcell he h1 h3
                    rw [hz1] at hu ⊢
                    rw [hj0, show (E.va hh).off + (i * 1 + 0) + p = (E.va hh).off + ((i + p) * 1 + 0) from by omega, hu, hrel.2 (lvL_at hl hc0)]
                  · simp [hpn] at hc
              · cases h
            · cases h
          · cases h
      · cases h
    · rename_i e he ha
      simp only [cond_eq_ite, decide_eq_true_eq] at h
      split at h
      · rename_i hz
        subst hz
        split at h
        · rename_i hi
          split at h
          · rename_i c hc
            split at h
            · rename_i hl
              refine ⟨_, h, hl, fun E w0 w hR => ?_⟩
              have hx : e.cont[i]? = some e.cont[i] := List.getElem?_eq_getElem hi
              have hel := Ent.elem_eq hx (hR.shape he hx)
              rw [hel] at hc
              obtain ⟨u, hu, hrel⟩ := hR.vcell he hx hc
              refine ⟨hrel.1, ?_⟩
              simp only [Instr.loadAt, AV.conc, Instr.sureAddr, Sem.run_bind, Sem.run_pure, Result.andThen_ok]
              rw [run_loadVar_one ha hu, hrel.2 hl]
            · cases h
          · cases h
        · cases h
      · cases h
    · cases h
  · cases h

end Go.Sx

namespace Go.Sx
open Go Go.RowKit

/-- a name more for a slice of a slice that is known as a list: nothing in the world turns -/
def Mem.addV (M : Mem) (e : Ent) : Mem := { M with vecs := M.vecs ++ [some e] }
/-- the same blocks; more handles, perhaps -/
structure Grow (M M' : Mem) : Prop where
  blk : M'.blks = M.blks
  vec : ∀ (h : Nat) (e : Ent), M.vecs[h]? = some (some e) → M'.vecs[h]? = some (some e)
  nh : M.vecs.length ≤ M'.vecs.length
theorem Grow.refl (M : Mem) : Grow M M := ⟨rfl, fun _ _ h => h, Nat.le_refl _⟩
theorem Grow.trans {M M' M'' : Mem} (h : Grow M M') (h' : Grow M' M'') : Grow M M'' := ⟨h'.blk.trans h.blk, fun i e hi => h'.vec i e (h.vec i e hi), Nat.le_trans h.nh h'.nh⟩
theorem Grow.addV (M : Mem) (e : Ent) : Grow M (M.addV e) := ⟨rfl, fun h e' hh => by
  simp only [Mem.addV]
  rw [List.getElem?_append_left (by
    rcases Nat.lt_or_ge h M.vecs.length with hl | hl
    · exact hl
    · rw [List.getElem?_eq_none hl] at hh; cases hh)]
  exact hh, by simp [Mem.addV]⟩
def Env.addV (E : Env) (n : Nat) (v : Value) : Env := { E with σ := fun h => if h = n then v else E.σ h }

theorem aliveV_addV (M : Mem) (e : Ent) (i : Nat) (hi : i < M.vecs.length) : aliveV (M.addV e) i = aliveV M i := by
  unfold aliveV Mem.addV
  simp only [List.getElem?_append_left hi]
theorem Mem.addV_le (M : Mem) (e : Ent) : Mem.le M (M.addV e) :=
  ⟨Nat.le_refl _, by simp [Mem.addV], fun _ _ h => h, fun i hi h => by rwa [aliveV_addV M e i hi] at h⟩
theorem Env.addV_le (E : Env) (n m : Nat) (v : Value) : Env.le m n E (E.addV n v) := ⟨fun _ _ => rfl, fun b hb => by simp [Env.addV]; omega⟩
theorem Step.addV (E : Env) (M : Mem) (e : Ent) (v : Value) : Step E M (E.addV M.vecs.length v) (M.addV e) := ⟨M.addV_le e, E.addV_le _ _ _⟩

theorem VecOk.step {E E' : Env} {B : Nat → Prop} {M M' : Mem} {w : World} {h : Nat} {e : Ent} {a : Addr} {cap : Nat} {cs : Array Value} {fz : Nat × Nat} (hs : Step E M E' M') (hb : M'.blks = M.blks) (hh : h < M.vecs.length)
    (hv : VecOk E B M w h e a cap cs fz) : VecOk E' B M' w h e a cap cs fz :=
  { hv with
    val := (hs.env.σ h hh).trans hv.val
    cell := fun i x hx j c hc => let ⟨u, h1, h2⟩ := hv.cell i x hx j c hc; ⟨u, h1, h2.step hs⟩
    mine := fun ho => let ⟨h1, h2, h3⟩ := hv.mine ho; ⟨h1, h2, fun b y hy => by rw [hb] at hy; rw [hs.env.ρ b (lt_of_get hy)]; exact h3 b y hy⟩ }

theorem va_addV_old (E : Env) (n h : Nat) (v : Value) (hh : h ≠ n) : (E.addV n v).va h = E.va h := by simp [Env.va, Env.addV, hh]
theorem bk_addV_old (E : Env) (n h : Nat) (v : Value) (hh : h ≠ n) : (E.addV n v).bk h = E.bk h := by simp [Env.bk, Env.addV, hh]

theorem RepM.addV {E : Env} {w0 : Bs} {M : Mem} {w : World} (h : RepM E w0 M w) (e : Ent) (v : Value)
    (hv : (e.cont = [] ∧ v = nilV) ∨ ∃ a cap cs fz, VecOk (E.addV M.vecs.length v) w0.Wr (M.addV e) w M.vecs.length e a cap cs fz)
    (ht : e.own = true → ∀ (h' : Nat) (e' : Ent), M.vecs[h']? = some (some e') → e'.own = true → ∀ g, (E.addV M.vecs.length v).bk M.vecs.length = some g → E.bk h' = some g → e.terr = e'.terr) :
    RepM (E.addV M.vecs.length v) w0 (M.addV e) w := by
  have hs := Step.addV E M e v
  have cases_ : ∀ (i : Nat) (e' : Ent), (M.addV e).vecs[i]? = some (some e') → (i < M.vecs.length ∧ M.vecs[i]? = some (some e')) ∨ (i = M.vecs.length ∧ e' = e) := by
    intro i e' he'
    simp only [Mem.addV] at he'
    rcases Nat.lt_or_ge i M.vecs.length with hi | hi
    · rw [List.getElem?_append_left hi] at he'; exact .inl ⟨hi, he'⟩
    · have hl := lt_of_get he'
      simp at hl
      have : i = M.vecs.length := by omega
      subst this
      simp at he'
      exact .inr ⟨rfl, he'.symm⟩
  refine ⟨h.below, fun b x hx => ?_, h.inj, fun i e' he' => ?_, fun i i' e1 e2 h1 h2 o1 o2 g hb hb' => ?_⟩
  · obtain ⟨h1, cs, h2, h3⟩ := h.blk b x hx
    exact ⟨h1, cs, h2, h3.step hs⟩
  · rcases cases_ i e' he' with ⟨hi, he⟩ | ⟨rfl, rfl⟩
    · rcases h.vec i e' he with ⟨hz, hz'⟩ | ⟨a, cap, cs, fz, hv'⟩
      · exact .inl ⟨hz, by simp only [Env.addV]; rw [if_neg (by omega)]; exact hz'⟩
      exact .inr ⟨a, cap, cs, fz, hv'.step hs rfl hi⟩
    · exact hv.imp (fun ⟨h1, h2⟩ => ⟨h1, by simp [Env.addV, h2]⟩) id
  · rcases cases_ i e1 h1 with ⟨hi, he⟩ | ⟨rfl, rfl⟩ <;> rcases cases_ i' e2 h2 with ⟨hi', he'⟩ | ⟨rfl, rfl⟩
    · rw [bk_addV_old E _ i v (by omega)] at hb
      rw [bk_addV_old E _ i' v (by omega)] at hb'
      exact h.terr i i' e1 e2 he he' o1 o2 g hb hb'
    · rw [bk_addV_old E _ i v (by omega)] at hb
      exact (ht o2 i e1 he o1 g hb' hb).symm
    · rw [bk_addV_old E _ i' v (by omega)] at hb'
      exact ht o1 i' e2 he' o2 g hb hb'
    · rfl

/-! addresses -/
def fieldA {R : Type} (P : Program) (s : TypeId) (x : AV) (f : Nat) (k : AV → Option R) : Option R :=
  match P.underlying s with
  | some (.struct fs) =>
    match fs[f]? with
    | some fd =>
      match sizeT P fd.type with
      | some n =>
        bif decide (n = 0) then none else
        match x with
        | .ptr b off => k (.ptr b (off + fd.offset))
        | .vptr h i z j => k (.vptr h i z (j + fd.offset))
        | _ => none
      | none => none
    | none => none
  | _ => none

theorem fieldA_sound {R : Type} {P : Program} {s : TypeId} {x : AV} {f : Nat} {k : AV → Option R} {r : R} (h : fieldA P s x f k = some r) :
    ∃ z, k z = some r ∧ (∀ n m, x.sc n m = true → z.sc n m = true) ∧ ∀ E w, (Instr.fieldAt s (x.conc E) f).run P w = .ok (z.conc E) w := by
  unfold fieldA at h
  split at h
  · rename_i fs hu
    split at h
    · rename_i fd hf
      split at h
      · rename_i n hn
        simp only [cond_eq_ite, decide_eq_true_eq] at h
        split at h
        · cases h
        · rename_i hn0
          have hfp : ∀ b o w, (fieldPlace ⟨b, o, none⟩ fd).run P w = .ok ⟨b, o + fd.offset, none⟩ w := by
            intro b o w
            unfold fieldPlace
            simp only [Sem.run_bind, run_sizeOf hn, Result.andThen_ok, hn0, if_false, Sem.run_pure, addr_add]
          split at h
          · refine ⟨_, h, fun n m hs => hs, fun E w => ?_⟩
            simp only [Instr.fieldAt, Sem.run_bind, run_underlying hu, Result.andThen_ok, hf, AV.conc, Instr.sureAddr, Sem.run_pure, hfp]
          · refine ⟨_, h, fun n m hs => hs, fun E w => ?_⟩
            simp only [Instr.fieldAt, Sem.run_bind, run_underlying hu, Result.andThen_ok, hf, AV.conc, Instr.sureAddr, Sem.run_pure, hfp, Nat.add_assoc]
          · cases h
      · cases h
    · cases h
  · cases h

def indexA {R : Type} (P : Program) (M : Mem) (t : TypeId) (x ix : AV) (k : AV → Option R) : Option R :=
  match ix with
  | .lit (.int _ i) =>
    match P.underlying t with
    | some (.array len el) =>
      match sizeT P el with
      | some n =>
        match x with
        | .ptr b off => if 0 ≤ i ∧ i < (len : Int) then k (.ptr b (off + i.toNat * n)) else none
        | .vptr h q z j => if 0 ≤ i ∧ i < (len : Int) then k (.vptr h q z (j + i.toNat * n)) else none
        | _ => none
      | none => none
    | some (.slice el) =>
      match sizeT P el with
      | some n =>
        match x with
        | .sl b off len _ => if 0 ≤ i ∧ i < (len : Int) then k (.ptr b (off + i.toNat * n)) else none
        | .vec h =>
          match M.vecs[h]? with
          | some (some e) => if 0 ≤ i ∧ i < (e.cont.length : Int) then k (.vptr h i.toNat n 0) else none
          | _ => none
        | _ => none
      | none => none
    | _ => none
  | _ => none

theorem RepM.slc {E : Env} {w0 : Bs} {M : Mem} {w : World} (h : RepM E w0 M w) {i : Nat} {e : Ent} (he : M.vecs[i]? = some (some e)) : ∃ p l c, E.σ i = .slice p l c := by
  rcases h.vec i e he with ⟨_, hz⟩ | ⟨a, cap, cs, fz, hv⟩
  · exact ⟨_, _, _, hz⟩
  · exact ⟨_, _, _, hv.val⟩
theorem RepM.val {E : Env} {w0 : Bs} {M : Mem} {w : World} (h : RepM E w0 M w) {i : Nat} {e : Ent} (he : M.vecs[i]? = some (some e)) (hne : 0 < e.cont.length) :
    ∃ cap, E.σ i = .slice (some ⟨(E.va i).block, (E.va i).off, none⟩) e.cont.length cap ∧ e.cont.length ≤ cap := by
  rcases h.vec i e he with ⟨hz, _⟩ | ⟨a, cap, cs, fz, hv⟩
  · rw [hz] at hne; simp at hne
  have h1 : E.va i = a := by simp [Env.va, hv.val]
  refine ⟨cap, ?_, hv.le⟩
  rw [hv.val, h1]
  obtain ⟨b, o, s⟩ := a
  have := hv.spot
  simp only at this
  subst this
  rfl

theorem indexA_sound {R : Type} {P : Program} {M : Mem} {t : TypeId} {x ix : AV} {k : AV → Option R} {r : R} (h : indexA P M t x ix k = some r) :
    ∃ z, k z = some r ∧ (∀ n m, x.sc n m = true → z.sc n m = true) ∧ ∀ E w0 w, RepM E w0 M w → (Instr.indexAt t (x.conc E) (ix.conc E)).run P w = .ok (z.conc E) w := by
  unfold indexA at h
  split at h
  · rename_i kk i
    split at h
    · rename_i len el hu
      split at h
      · rename_i n hn
        split at h
        · rename_i b off
          split at h
          · rename_i hi
            refine ⟨_, h, fun n m hs => hs, fun E w0 w hR => ?_⟩
            simp only [Instr.indexAt, AV.conc, asIntOf, Sem.run_bind, Sem.run_pure, Result.andThen_ok, run_underlying hu, Instr.sureAddr, if_pos hi, run_sizeOf hn, addr_add]
          · cases h
        · rename_i hh q z j
          split at h
          · rename_i hi
            refine ⟨_, h, fun n m hs => hs, fun E w0 w hR => ?_⟩
            simp only [Instr.indexAt, AV.conc, asIntOf, Sem.run_bind, Sem.run_pure, Result.andThen_ok, run_underlying hu, Instr.sureAddr, if_pos hi, run_sizeOf hn, addr_add, Nat.add_assoc]
          · cases h
        · cases h
      · cases h
    · rename_i el hu
      split at h
      · rename_i n hn
        split at h
        · rename_i b off len cap
          split at h
          · rename_i hi
            refine ⟨_, h, fun n m hs => hs, fun E w0 w hR => ?_⟩
            simp only [Instr.indexAt, AV.conc, asIntOf, Sem.run_bind, Sem.run_pure, Result.andThen_ok, run_underlying hu, if_pos hi, run_sizeOf hn, addr_add]
          · cases h
        · rename_i hh
          split at h
          · rename_i e he
            split at h
            · rename_i hi
              refine ⟨_, h, fun n m hs => hs, fun E w0 w hR => ?_⟩
              obtain ⟨cap, hv, _⟩ := hR.val he (by omega)
              simp only [Instr.indexAt, AV.conc, asIntOf, Sem.run_bind, Sem.run_pure, Result.andThen_ok, run_underlying hu, hv, if_pos hi, run_sizeOf hn, addr_add, Nat.add_zero]
            · cases h
          · cases h
        · cases h
      · cases h
    · cases h
  · cases h

end Go.Sx

namespace Go.Sx
open Go Go.RowKit

def boundA {R : Type} (v : Option AV) (d y : Nat) (k : Nat → Option R) : Option R :=
  match v with
  | none => k d
  | some (.lit (.int _ i)) => if 0 ≤ i ∧ i ≤ (y : Int) then k i.toNat else none
  | _ => none

theorem boundA_sound {R : Type} {v : Option AV} {d y : Nat} {k : Nat → Option R} {r : R} (h : boundA v d y k = some r) :
    ∃ n, k n = some r ∧ ((v = none ∧ n = d) ∨ ∃ x, v = some x ∧ n ≤ y ∧ ∀ (P : Program) (E : Env) (code : BoundsCode) (w : World), (Instr.sliceBound (x.conc E) y code).run P w = .ok n w) := by
  unfold boundA at h
  split at h
  · exact ⟨_, h, .inl ⟨rfl, rfl⟩⟩
  · rename_i kk i
    split at h
    · rename_i hi
      refine ⟨_, h, .inr ⟨_, rfl, by omega, fun P E code w => ?_⟩⟩
      simp only [Instr.sliceBound, AV.conc, asIntOf, Sem.run_bind, Sem.run_pure, Result.andThen_ok, if_pos hi]
    · cases h
  · cases h

theorem run_sliceBounds {P : Program} {E : Env} (isSlice : Bool) (len cap : Nat) (lo hi : Option AV) (l hh : Nat) (w : World)
    (hhi : (hi = none ∧ hh = len) ∨ ∃ x, hi = some x ∧ ∀ code w, (Instr.sliceBound (x.conc E) cap code).run P w = .ok hh w)
    (hlo : (lo = none ∧ l = 0) ∨ ∃ x, lo = some x ∧ ∀ code w, (Instr.sliceBound (x.conc E) hh code).run P w = .ok l w) :
    (Instr.sliceBounds isSlice len cap (lo.map (AV.conc E)) (hi.map (AV.conc E)) none).run P w = .ok (l, hh, cap) w := by
  unfold Instr.sliceBounds
  rcases hhi with ⟨rfl, rfl⟩ | ⟨x, rfl, hx⟩ <;> rcases hlo with ⟨rfl, rfl⟩ | ⟨y, rfl, hy⟩ <;>
    simp only [Option.map_none, Option.map_some, Option.isSome_none, Sem.run_bind, Sem.run_pure, Result.andThen_ok] <;> simp [*]

theorem sliceBound_le {P : Program} {x : Value} {y y' n : Nat} {c : BoundsCode} {w : World} (h : (Instr.sliceBound x y c).run P w = .ok n w) (hy : y ≤ y') : (Instr.sliceBound x y' c).run P w = .ok n w := by
  unfold Instr.sliceBound at h ⊢
  cases x with
  | int kk i =>
    simp only [asIntOf, Sem.run_bind, Sem.run_pure, Result.andThen_ok, Sem.run_ite] at h ⊢
    split at h
    · rename_i hi
      rw [if_pos (by omega)]; exact h
    · exfalso
      obtain ⟨s, w2, hbp⟩ := run_boundsPanic (P := P) (α := Nat) (w := w) kk i y c
      rw [hbp] at h
      unfold boundsValue at h
      cases h
  | pointer a => cases a <;> simp [asIntOf] at h
  | _ => simp [asIntOf] at h

def sliceV (s : Value) (l hh n : Nat) : Value :=
  match s with
  | .slice (some a) _ cap => .slice (some (if cap = l then a else a.add (l * n))) (hh - l) (cap - l)
  | v => v

def cutC (hi : Option AV) (hh l : Nat) (c : List AV) : List AV := match hi with
  | none => c.drop l
  | some _ => (c.take hh).drop l
theorem cutC_eq {hi : Option AV} {hh l : Nat} {c : List AV} (h : hi = none → hh = c.length) : cutC hi hh l c = (c.take hh).drop l := by
  cases hi with
  | none => rw [h rfl, List.take_length]; rfl
  | some _ => rfl

def allU8 : List CK → Bool
  | [] => true
  | .int .u8 :: l => allU8 l
  | _ => false
/-- a row of colours, cut from a place on: what 'copy' writes through -/
def viewOk (hi : Option AV) (e : Ent) : Bool := match hi with
  | none => e.isAgg && allU8 e.sh && e.own
  | some _ => false
def sliceA {R : Type} (P : Program) (M : Mem) (t : TypeId) (x : AV) (lo hi : Option AV) (k : AV → Mem → Option R) : Option R :=
  match P.underlying t with
  | some (.array len el) =>
    match sizeT P el with
    | some n =>
      match x with
      | .ptr b off => boundA hi len len fun hh => boundA lo 0 hh fun l => k (.sl b (bif decide (len = l) then off else off + l * n) (hh - l) (len - l)) M
      | _ => none
    | none => none
  | some (.slice el) =>
    match sizeT P el with
    | some n =>
      match x with
      | .sl b off len cap => boundA hi len cap fun hh => boundA lo 0 hh fun l => k (.sl b (bif decide (cap = l) then off else off + l * n) (hh - l) (cap - l)) M
      | .vec h =>
        match M.vecs[h]? with
        | some (some e) =>
          bif decide (n = e.sh.length) then
            bif viewOk hi e then boundA lo 0 e.cont.length fun l => k (.vsl h l n) M else
            boundA hi e.cont.length e.cont.length fun hh => boundA lo 0 hh fun l => k (.vec M.vecs.length) (M.addV { e with head := decide (l = 0) && e.head, cont := cutC hi hh l e.cont })
          else none
        | _ => none
      | .lit (.slice none 0 0) => boundA hi 0 0 fun hh => boundA lo 0 hh fun l => k (.lit (.slice none 0 0)) M
      | _ => none
    | none => none
  | _ => none

theorem sliceA_sound {R : Type} {P : Program} {M : Mem} {t : TypeId} {x : AV} {lo hi : Option AV} {k : AV → Mem → Option R} {r : R} (h : sliceA P M t x lo hi k = some r) :
    ∃ z M', k z M' = some r ∧ Grow M M' ∧ ∀ E, ∃ E', Step E M E' M' ∧ (x.sc M.blks.length M.vecs.length = true → z.sc M'.blks.length M'.vecs.length = true) ∧
      ∀ w0 w, RepM E w0 M w → RepM E' w0 M' w ∧ (Instr.sliceAt t (x.conc E) (lo.map (AV.conc E)) (hi.map (AV.conc E)) none).run P w = .ok (z.conc E') w := by
  unfold sliceA at h
  split at h
  · rename_i len el hu
    split at h
    · rename_i n hn
      split at h
      · rename_i b off
        obtain ⟨hh, h, hhi⟩ := boundA_sound h
        obtain ⟨l, h, hlo⟩ := boundA_sound h
        refine ⟨_, _, h, Grow.refl _, fun E => ⟨E, Step.refl E M, fun hs => hs, fun w0 w hR => ⟨hR, ?_⟩⟩⟩
        have hb := run_sliceBounds (P := P) (E := E) false len len lo hi l hh w (hhi.imp id fun ⟨x, hx, _, hr⟩ => ⟨x, hx, fun c w => hr P E c w⟩) (hlo.imp id fun ⟨x, hx, _, hr⟩ => ⟨x, hx, fun c w => hr P E c w⟩)
        simp only [Instr.sliceAt, AV.conc, Sem.run_bind, run_underlying hu, Result.andThen_ok, Instr.sureAddr, Sem.run_pure, hb, run_sizeOf hn]
        congr 2
        by_cases e : len = l <;> simp [e, addr_add]
      · cases h
    · cases h
  · rename_i el hu
    split at h
    · rename_i n hn
      split at h
      · rename_i b off len cap
        obtain ⟨hh, h, hhi⟩ := boundA_sound h
        obtain ⟨l, h, hlo⟩ := boundA_sound h
        refine ⟨_, _, h, Grow.refl _, fun E => ⟨E, Step.refl E M, fun hs => hs, fun w0 w hR => ⟨hR, ?_⟩⟩⟩
        have hb := run_sliceBounds (P := P) (E := E) true len cap lo hi l hh w (hhi.imp id fun ⟨x, hx, _, hr⟩ => ⟨x, hx, fun c w => hr P E c w⟩) (hlo.imp id fun ⟨x, hx, _, hr⟩ => ⟨x, hx, fun c w => hr P E c w⟩)
        simp only [Instr.sliceAt, Instr.slice, AV.conc, Sem.run_bind, run_underlying hu, Result.andThen_ok, Sem.run_pure, hb, run_sizeOf hn]
        congr 2
        by_cases e : cap = l <;> simp [e, addr_add]
      · rename_i q
        split at h
        · rename_i e he
          simp only [cond_eq_ite, decide_eq_true_eq] at h
          split at h
          · rename_i hne
            subst hne
            split at h
            · rename_i hvw
              have hi0 : hi = none := by
                unfold viewOk at hvw
                split at hvw
                · rfl
                · cases hvw
              subst hi0
              obtain ⟨l, h, hlo⟩ := boundA_sound h
              refine ⟨_, _, h, Grow.refl _, fun E => ⟨E, Step.refl E M, fun hs => hs, fun w0 w hR => ⟨hR, ?_⟩⟩⟩
              rcases hR.vec q e he with ⟨hz, hz'⟩ | ⟨a, cap, cs, fz, hv⟩
              · have hc0 : e.cont.length = 0 := by rw [hz]; rfl
                have hl0 : l = 0 := by
                  rcases hlo with ⟨_, rfl⟩ | ⟨_, _, hl, _⟩ <;> omega
                subst hl0
                have hb := run_sliceBounds (P := P) (E := E) true 0 0 lo none 0 0 w (.inl ⟨rfl, rfl⟩) (hlo.imp id fun ⟨x, hx, _, hr⟩ => ⟨x, hx, fun c w => by have := hr P E c w; rw [hc0] at this; exact this⟩)
                simp only [Instr.sliceAt, Instr.slice, AV.conc, Sem.run_bind, run_underlying hu, Result.andThen_ok, hz', nilV, Sem.run_pure, hb, run_sizeOf hn, fromV]
                simp
              · have hb := run_sliceBounds (P := P) (E := E) true e.cont.length cap lo none l e.cont.length w (.inl ⟨rfl, rfl⟩) (hlo.imp id fun ⟨x, hx, _, hr⟩ => ⟨x, hx, fun c w => hr P E c w⟩)
                simp only [Instr.sliceAt, Instr.slice, AV.conc, Sem.run_bind, run_underlying hu, Result.andThen_ok, hv.val, Sem.run_pure, hb, run_sizeOf hn, fromV]
                by_cases hcl : cap = l <;> simp [hcl]
            obtain ⟨hh, h, hhi⟩ := boundA_sound h
            obtain ⟨l, h, hlo⟩ := boundA_sound h
            rw [cutC_eq (hi := hi) (hh := hh) (l := l) (c := e.cont) (by
              rcases hhi with ⟨_, h1⟩ | ⟨x, h1, _⟩
              · exact fun _ => h1
              · exact fun h2 => by rw [h2] at h1; cases h1)] at h
            have hhl : hh ≤ e.cont.length := by
              rcases hhi with ⟨_, rfl⟩ | ⟨_, _, hl, _⟩
              · exact Nat.le_refl _
              · exact hl
            have hlh : l ≤ hh := by
              rcases hlo with ⟨_, rfl⟩ | ⟨_, _, hl, _⟩
              · exact Nat.zero_le _
              · exact hl
            refine ⟨_, _, h, Grow.addV _ _, fun E => ⟨E.addV M.vecs.length (sliceV (E.σ q) l hh e.sh.length), Step.addV E M _ _, fun _ => by simp [AV.sc, Mem.addV], fun w0 w hR => ?_⟩⟩
            rcases hR.vec q e he with ⟨hz, hz'⟩ | ⟨a, cap, cs, fz, hv⟩
            · have hc0 : e.cont.length = 0 := by rw [hz]; rfl
              have hl0 : l = 0 := by omega
              have hh0 : hh = 0 := by omega
              subst hl0; subst hh0
              have hsv : sliceV (E.σ q) 0 0 e.sh.length = nilV := by rw [hz']; rfl
              refine ⟨hR.addV _ _ (.inl ⟨by simp, hsv⟩) (fun _ h' e' _ _ g hg => ?_), ?_⟩
              · rw [bk_nil (by simp [Env.addV, hsv])] at hg; cases hg
              · have hb := run_sliceBounds (P := P) (E := E) true 0 0 lo hi 0 0 w (hhi.imp (fun ⟨h1, h2⟩ => ⟨h1, rfl⟩) fun ⟨x, hx, _, hr⟩ => ⟨x, hx, fun c w => by have := hr P E c w; rw [hc0] at this; exact this⟩) (hlo.imp id fun ⟨x, hx, _, hr⟩ => ⟨x, hx, fun c w => hr P E c w⟩)
                simp only [Instr.sliceAt, Instr.slice, AV.conc, Sem.run_bind, run_underlying hu, Result.andThen_ok, hz', nilV, Sem.run_pure, hb, run_sizeOf hn, Env.addV, if_true, sliceV]
            have hva : E.va q = a := by simp [Env.va, hv.val]
            have hq : q < M.vecs.length := lt_of_get he
            have hs := Step.addV E M { e with head := decide (l = 0) && e.head, cont := (e.cont.take hh).drop l } (sliceV (E.σ q) l hh e.sh.length)
            have hsv : sliceV (E.σ q) l hh e.sh.length = .slice (some (if cap = l then a else a.add (l * e.sh.length))) (hh - l) (cap - l) := by rw [hv.val]; rfl
            have hclen : ((e.cont.take hh).drop l).length = hh - l := by simp; omega
            have hle := hv.le
            have hblock : (if cap = l then a else a.add (l * e.sh.length)).block = a.block := by
              split
              · rfl
              · unfold Addr.add; split <;> rfl
            have hspot : (if cap = l then a else a.add (l * e.sh.length)).spot = none := by
              split
              · exact hv.spot
              · unfold Addr.add; split
                · exact hv.spot
                · rfl
            have hoff : (if cap = l then a else a.add (l * e.sh.length)).off = if cap = l then a.off else a.off + l * e.sh.length := by
              split
              · rfl
              · unfold Addr.add; split
                · rename_i h0; rw [h0]; rfl
                · rfl
            have helem : ∀ (i : Nat) (y : AV), ((e.cont.take hh).drop l)[i]? = some y → e.cont[l + i]? = some y ∧ i < hh - l := by
              intro i y hy
              have hi := lt_of_get hy
              rw [hclen] at hi
              rw [List.getElem?_drop, List.getElem?_take] at hy
              split at hy
              · exact ⟨hy, hi⟩
              · cases hy
            refine ⟨hR.addV _ _ (.inr ⟨if cap = l then a else a.add (l * e.sh.length), cap - l, cs, fz, ?_⟩) ?_, ?_⟩
            · exact
                { val := by simp only [Env.addV, if_true, hsv, hclen]
                  spot := hspot
                  le := by rw [hclen]; omega
                  blk := by rw [hblock]; exact hv.blk
                  room := by
                    rw [hclen]
                    rcases Nat.eq_zero_or_pos (hh - l) with h0 | h0
                    · exact .inl h0
                    · refine .inr ?_
                      rcases hv.room with hr | hr
                      · omega
                      · have h1 := Nat.mul_le_mul_right e.sh.length (show l + (hh - l) ≤ e.cont.length by omega)
                        rw [Nat.add_mul] at h1
                        rw [hoff, if_neg (by omega)]
                        show a.off + l * e.sh.length + (hh - l) * e.sh.length ≤ cs.size
                        omega
                  shape := fun i y hy => hv.shape _ y (helem i y hy).1
                  cell := fun i y hy j c hc => by
                    obtain ⟨hy1, hi⟩ := helem i y hy
                    obtain ⟨u, h1, h2⟩ := hv.cell _ y hy1 j c hc
                    refine ⟨u, ?_, h2.step hs⟩
                    rw [hoff, if_neg (by omega)]
                    rw [← h1, Nat.add_mul]
                    congr 1
                    simp only
                    omega
                  old := fun ho => by rw [hblock]; exact hv.old ho
                  head := fun ho => by
                    simp only [Bool.and_eq_true, decide_eq_true_eq] at ho
                    obtain ⟨rfl, ho1⟩ := ho
                    obtain ⟨h1, h2, h3⟩ := hv.head ho1
                    rw [hoff]
                    refine ⟨by split <;> simp [h1], by rw [Nat.sub_zero]; exact h2, by omega⟩
                  mine := fun ho => by
                    obtain ⟨h1, h2, h3⟩ := hv.mine ho
                    rw [hblock]
                    exact ⟨h1, h2, h3⟩ }
            · intro ho h' e' he' ho' g hg hb'
              have : (E.addV M.vecs.length (sliceV (E.σ q) l hh e.sh.length)).bk M.vecs.length = E.bk q := by
                rw [hv.bk]
                simp only [Env.bk, Env.addV, if_true, hsv]
                rw [hblock]
              rw [this] at hg
              exact hR.terr q h' e e' he he' ho ho' g hg hb'
            · have hb := run_sliceBounds (P := P) (E := E) true e.cont.length cap lo hi l hh w (hhi.imp id fun ⟨x, hx, _, hr⟩ => ⟨x, hx, fun c w => sliceBound_le (hr P E c w) hv.le⟩) (hlo.imp id fun ⟨x, hx, _, hr⟩ => ⟨x, hx, fun c w => hr P E c w⟩)
              simp only [Instr.sliceAt, Instr.slice, AV.conc, Sem.run_bind, run_underlying hu, Result.andThen_ok, hv.val, Sem.run_pure, hb, run_sizeOf hn, Env.addV, if_true, sliceV]
              congr 2
              by_cases e1 : cap = l <;> simp [e1]
          · cases h
        · cases h
      · obtain ⟨hh, g1, hhi⟩ := boundA_sound h
        obtain ⟨l, g2, hlo⟩ := boundA_sound g1
        have h0 : hh = 0 := by
          rcases hhi with ⟨_, rfl⟩ | ⟨_, _, hl, _⟩ <;> omega
        have h1 : l = 0 := by
          rcases hlo with ⟨_, rfl⟩ | ⟨_, _, hl, _⟩ <;> omega
        subst h0; subst h1
        refine ⟨_, _, g2, Grow.refl _, fun E => ⟨E, Step.refl E M, fun hs => hs, fun w0 w hR => ⟨hR, ?_⟩⟩⟩
        have hb := run_sliceBounds (P := P) (E := E) true 0 0 lo hi 0 0 w (hhi.imp id fun ⟨x, hx, _, hr⟩ => ⟨x, hx, fun c w => hr P E c w⟩) (hlo.imp id fun ⟨x, hx, _, hr⟩ => ⟨x, hx, fun c w => hr P E c w⟩)
        simp only [Instr.sliceAt, Instr.slice, AV.conc, Sem.run_bind, run_underlying hu, Result.andThen_ok, Sem.run_pure, hb, run_sizeOf hn]
        simp
      · cases h
    · cases h
  · cases h

end Go.Sx

namespace Go.Sx
open Go Go.RowKit

theorem live_ent {M : Mem} {h : Nat} (hl : M.live (2 * h + 1) = true) : ∃ e, M.vecs[h]? = some (some e) := by
  rw [live_odd] at hl
  unfold aliveV at hl
  split at hl
  · rename_i e he; exact ⟨e, he⟩
  · cases hl

theorem conc_cells {E : Env} {w0 : Bs} {w : World} {M : Mem} (hR : RepM E w0 M w) {a : AV} (hl : a.lv M.live = true) : (a.conc E).cells.toList = concL E a.cells := by
  cases a with
  | lit v => cases v <;> simp [AV.conc, Value.cells, AV.cells, concL, concL_lits]
  | vec h =>
    obtain ⟨e, he⟩ := live_ent (by simpa [AV.lv] using hl)
    obtain ⟨_, _, _, hv⟩ := hR.slc he
    simp [AV.conc, AV.cells, hv, Value.cells, concL]
  | vsl h lo z =>
    obtain ⟨e, he⟩ := live_ent (by simpa [AV.lv] using hl)
    obtain ⟨o, _, _, hv⟩ := hR.slc he
    cases o <;> simp [AV.conc, AV.cells, hv, Value.cells, concL, fromV]
  | bad => rfl
  | _ => simp [AV.conc, Value.cells, AV.cells, concL]

theorem cells_sc {n m : Nat} {a : AV} (h : a.sc n m = true) : scL n m a.cells = true := by
  cases a with
  | lit v => cases v <;> first | rfl | (simp [AV.cells, scL_eq, AV.sc])
  | agg cs => simpa [AV.cells, AV.sc] using h
  | _ => simp_all [AV.cells, scL]
theorem cells_lv {L : Nat → Bool} {a : AV} (h : a.lv L = true) : lvL L a.cells = true := by
  cases a with
  | lit v => cases v <;> first | rfl | (simp [AV.cells, lvL_eq, AV.lv])
  | agg cs => simpa [AV.cells, AV.lv] using h
  | _ => simp_all [AV.cells, lvL]

/-! building -/
def placeA (P : Program) (t : TypeId) (i : Nat) : Option (Nat × Nat) :=
  match P.underlying t with
  | some (.struct fs) =>
    match fs[i]? with
    | some f => (sizeT P f.type).map fun n => (f.offset, n)
    | none => none
  | some (.array _ el) => (sizeT P el).map fun n => (i * n, n)
  | _ => none

def fillA (place : Nat → Option (Nat × Nat)) : List AV → List (Nat × AV) → Option (List AV)
  | cells, [] => some cells
  | cells, (i, v) :: rest =>
    match place i with
    | none => none
    | some (off, size) =>
      bif decide (v.cells.length = size) && decide (off + size ≤ cells.length) then fillA place (cells.take off ++ v.cells ++ cells.drop (off + size)) rest else none

theorem foldl_splice (off : Nat) : ∀ (l : List Value) (k : Nat) (cs : List Value), off + k + l.length ≤ cs.length →
    ((l.zipIdx k).foldl (fun (cs : List Value) (p : Value × Nat) => cs.set (off + p.2) p.1) cs) = cs.take (off + k) ++ l ++ cs.drop (off + k + l.length)
  | [], k, cs, h => by simp
  | a :: l, k, cs, h => by
    simp only [List.zipIdx_cons, List.foldl_cons, List.length_cons] at *
    rw [foldl_splice off l (k + 1) _ (by simp; omega)]
    rw [show off + (k + 1) = off + k + 1 from by omega, List.take_set, List.drop_set_of_lt (by omega)]
    rw [List.take_succ_eq_append_getElem (by omega), List.set_append_right _ _ (by simp; omega)]
    simp [Nat.min_eq_left (show off + k ≤ cs.length from by omega)]
    congr 1; omega

theorem fill_step (off : Nat) (v : Array Value) (cells : Array Value) (h : off + v.size ≤ cells.size) :
    (v.zipIdx.foldl (fun cs (c, j) => cs.setIfInBounds (off + j) c) cells).toList = cells.toList.take off ++ v.toList ++ cells.toList.drop (off + v.size) := by
  have h1 : ∀ (l : List (Value × Nat)) (cs : Array Value), (l.foldl (fun (cs : Array Value) (p : Value × Nat) => cs.setIfInBounds (off + p.2) p.1) cs).toList = l.foldl (fun (cs : List Value) (p : Value × Nat) => cs.set (off + p.2) p.1) cs.toList := by
    intro l
    induction l with
    | nil => intro cs; rfl
    | cons a l ih => intro cs; simp only [List.foldl_cons]; rw [ih]; simp
  have h2 := foldl_splice off v.toList 0 cells.toList (by simpa using h)
  rw [← Array.foldl_toList, Array.toList_zipIdx]
  rw [h1]
  simpa using h2

theorem fillA_sound {E : Env} {w0 : Bs} {w : World} {M : Mem} (hR : RepM E w0 M w) (place : Nat → Option (Nat × Nat)) :
    ∀ (parts : List (Nat × AV)) (cells out : List AV), (∀ p ∈ parts, p.2.lv M.live = true) → fillA place cells parts = some out →
      Instr.fill place (concL E cells).toArray (parts.map fun p => (p.1, p.2.conc E)) = some (concL E out).toArray := by
  intro parts
  induction parts with
  | nil => intro cells out _ h; simp only [fillA, Option.some.injEq] at h; subst h; rfl
  | cons p rest ih =>
    intro cells out hl h
    obtain ⟨i, v⟩ := p
    simp only [fillA] at h
    cases hp : place i with
    | none => rw [hp] at h; cases h
    | some q =>
      obtain ⟨off, size⟩ := q
      rw [hp] at h
      simp only [cond_eq_ite, Bool.and_eq_true, decide_eq_true_eq] at h
      split at h
      · rename_i hc
        have hv := conc_cells hR (hl (i, v) List.mem_cons_self)
        have hvs : (v.conc E).cells.size = v.cells.length := by rw [← Array.length_toList, hv, concL_eq, List.length_map]
        have ih' := ih _ _ (fun p hp => hl p (List.mem_cons_of_mem _ hp)) h
        simp only [List.map_cons, Instr.fill, hp]
        rw [if_neg (by simp [hvs, hc.1, concL_eq]; omega)]
        rw [← ih']
        congr 1
        apply Array.ext'
        rw [fill_step off _ _ (by simp [hvs, concL_eq]; omega)]
        simp only [hv, concL_eq, List.map_append, List.map_take, List.map_drop, hvs, hc.1]
      · cases h

def buildable (P : Program) (t : TypeId) : Bool :=
  match P.underlying t with
  | some (.struct fs) => fs.all fun f => (sizeT P f.type).isSome
  | some (.array _ el) => (sizeT P el).isSome
  | _ => false

def buildA {R : Type} (P : Program) (t : TypeId) (parts : List (Nat × AV)) (k : AV → Option R) : Option R :=
  match P.info? t with
  | some i =>
    match i.zero with
    | some z =>
      bif buildable P t then
        match fillA (placeA P t) (AV.lit z).cells parts with
        | some cs => k (.agg cs)
        | none => none
      else none
    | none => none
  | none => none

theorem run_mapM_sizes {P : Program} (fs : List Field) (w : World) : (∀ f ∈ fs, (sizeT P f.type).isSome = true) →
    (fs.mapM fun f => do pure (f.offset, ← sizeOf f.type) : Sem (List (Nat × Nat))).run P w = .ok (fs.map fun f => (f.offset, (sizeT P f.type).getD 0)) w := by
  induction fs with
  | nil => intro _; simp
  | cons f fs ih =>
    intro h
    obtain ⟨n, hn⟩ := Option.isSome_iff_exists.1 (h f List.mem_cons_self)
    have := ih (fun g hg => h g (List.mem_cons_of_mem _ hg))
    simp only [List.mapM_cons, Sem.run_bind, run_sizeOf hn, Result.andThen_ok, Sem.run_pure, this, List.map_cons, hn, Option.getD_some]

theorem buildA_sound {R : Type} {P : Program} {t : TypeId} {parts : List (Nat × AV)} {k : AV → Option R} {r : R} (h : buildA P t parts k = some r) :
    ∃ z, k z = some r ∧ ∀ E w0 M w, RepM E w0 M w → (∀ p ∈ parts, p.2.lv M.live = true) → (∀ p ∈ parts, p.2.sc M.blks.length M.vecs.length = true) →
      z.sc M.blks.length M.vecs.length = true ∧ (Instr.build t ((parts.map fun p => (p.1, p.2.conc E)).toArray)).run P w = .ok (z.conc E) w := by
  unfold buildA at h
  split at h
  · rename_i i hi
    split at h
    · rename_i z hz
      simp only [cond_eq_ite] at h
      split at h
      · rename_i hall
        split at h
        · rename_i cs hcs
          refine ⟨_, h, fun E w0 M w hR hl hsc => ⟨?_, ?_⟩⟩
          · simp only [AV.sc]
            have key : ∀ (parts : List (Nat × AV)) (cells out : List AV), (∀ p ∈ parts, p.2.sc M.blks.length M.vecs.length = true) → scL M.blks.length M.vecs.length cells = true → fillA (placeA P t) cells parts = some out → scL M.blks.length M.vecs.length out = true := by
              intro parts
              induction parts with
              | nil => intro cells out _ h0 h; simp only [fillA, Option.some.injEq] at h; subst h; exact h0
              | cons p rest ih =>
                intro cells out hs h0 h
                obtain ⟨i, v⟩ := p
                simp only [fillA] at h
                split at h
                · cases h
                · simp only [cond_eq_ite] at h
                  split at h
                  · refine ih _ _ (fun p hp => hs p (List.mem_cons_of_mem _ hp)) ?_ h
                    have hv := cells_sc (hs (i, v) List.mem_cons_self)
                    rw [scL_eq, List.all_eq_true] at *
                    intro a ha
                    simp only [List.mem_append] at ha
                    rcases ha with (ha | ha) | ha
                    · exact h0 a (List.mem_of_mem_take ha)
                    · exact hv a ha
                    · exact h0 a (List.mem_of_mem_drop ha)
                  · cases h
            exact key parts _ cs hsc (cells_sc rfl) hcs
          · have hzc : (z.cells) = (concL E (AV.lit z).cells).toArray := by
              have := conc_cells hR (a := .lit z) rfl
              simp only [AV.conc] at this
              rw [← this]
            have hf := fillA_sound hR (placeA P t) parts _ cs hl hcs
            unfold Instr.build
            simp only [zeroValue, typeInfo, Sem.run_bind, run_program, Result.andThen_ok, hi, Sem.run_pure, hz]
            unfold buildable at hall
            cases hu : P.underlying t with
            | none => rw [hu] at hall; cases hall
            | some d =>
              rw [hu] at hall
              simp only [underlying, Sem.run_bind, run_program, Result.andThen_ok, hu, Sem.run_pure]
              cases d <;> first | cases hall | skip
              case struct fs =>
                simp only [Array.all_eq_true_iff_forall_mem] at hall
                have hm := run_mapM_sizes (P := P) fs.toList w (fun f hf => hall f (by simpa using hf))
                simp only
                rw [Array.mapM_eq_mapM_toList]
                simp only [Sem.run_map, Sem.run_bind, hm, Result.andThen_ok]
                have hpl : (fun (x : Nat) => ((fs.toList.map fun f => (f.offset, (sizeT P f.type).getD 0)).toArray)[x]?) = placeA P t := by
                  funext x
                  simp only [placeA, hu]
                  simp only [List.getElem?_toArray, List.getElem?_map, Array.getElem?_toList]
                  cases hx : fs[x]? with
                  | none => rfl
                  | some f =>
                    obtain ⟨n, hn⟩ := Option.isSome_iff_exists.1 (hall f (Array.mem_of_getElem? hx))
                    simp [hn]
                rw [hpl, hzc, hf]
                simp [AV.conc]
              case array len el =>
                obtain ⟨n, hn⟩ := Option.isSome_iff_exists.1 hall
                simp only [Sem.run_bind, run_sizeOf hn, Result.andThen_ok]
                have hpl : (fun (x : Nat) => some (x * n, n)) = placeA P t := by
                  funext x
                  simp [placeA, hu, hn]
                rw [hpl, hzc, hf]
                simp [AV.conc]
        · cases h
      · cases h
    · cases h
  · cases h

end Go.Sx

namespace Go.Sx
open Go Go.RowKit

def litOf : AV → Option Value
  | .lit v => some v
  | _ => none
def litsOf : List AV → Option (List Value)
  | [] => some []
  | a :: l => match litOf a, litsOf l with
    | some v, some vs => some (v :: vs)
    | _, _ => none

theorem litsOf_eq {l : List AV} : ∀ {vs : List Value}, litsOf l = some vs → l = vs.map AV.lit := by
  induction l with
  | nil => intro vs h; simp only [litsOf, Option.some.injEq] at h; subst h; rfl
  | cons a l ih =>
    intro vs h
    simp only [litsOf] at h
    split at h
    · rename_i v us hv hus
      simp only [Option.some.injEq] at h
      subst h
      rw [ih hus]
      cases a <;> simp [litOf] at hv
      subst hv; rfl
    · cases h

def isSliceT (P : Program) (ts : Array TypeId) : Bool :=
  match ts[0]? with
  | some t => match P.underlying t with
    | some (.slice _) => true
    | _ => false
  | none => false

def builtinA {R : Type} (P : Program) (M : Mem) (b : Builtin) (ts : Array TypeId) (ty : TypeId) (args : List AV) (k : AV → Option R) : Option R :=
  match b with
  | .len =>
    match args with
    | [.lit v] => match pureRun P (Builtin.len_ ts ty #[v]) with
      | some u => k (.lit u)
      | none => none
    | [.sl _ _ n _] => bif isSliceT P ts then k (.lit (goInt n)) else none
    | [.vec h] => match M.vecs[h]? with
      | some (some e) => bif isSliceT P ts then k (.lit (goInt e.cont.length)) else none
      | _ => none
    | _ => none
  | .min => match litsOf args with
    | some vs => match pureRun P (Builtin.min_ ts ty vs.toArray) with
      | some u => k (.lit u)
      | none => none
    | none => none
  | .max => match litsOf args with
    | some vs => match pureRun P (Builtin.max_ ts ty vs.toArray) with
      | some u => k (.lit u)
      | none => none
    | none => none
  | _ => none

theorem run_len_sliceT {P : Program} {ts : Array TypeId} {ty : TypeId} (h : isSliceT P ts = true) (p : Option Addr) (n c : Nat) (w : World) : (Builtin.len_ ts ty #[.slice p n c]).run P w = .ok (goInt n) w := by
  unfold isSliceT at h
  split at h
  · rename_i t ht
    split at h
    · rename_i e hu
      unfold Builtin.len_
      simp [ht, run_underlying hu]
    · cases h
  · cases h

theorem builtinA_sound {R : Type} {P : Program} {M : Mem} {b : Builtin} {ts : Array TypeId} {ty : TypeId} {args : List AV} {k : AV → Option R} {r : R} (h : builtinA P M b ts ty args k = some r) :
    ∃ u : Value, k (.lit u) = some r ∧ ∀ E w0 w (cs : Array Bool), RepM E w0 M w → (builtin b ts ty cs (concL E args).toArray).run P w = .ok (.value u) w := by
  unfold builtinA at h
  split at h
  · split at h
    · rename_i v
      split at h
      · rename_i u hu
        refine ⟨u, h, fun E w0 w cs hR => ?_⟩
        simp only [builtin, concL, AV.conc, Sem.run_bind, pureRun_run _ w hu, Result.andThen_ok, Sem.run_pure]
      · cases h
    · rename_i n _
      simp only [cond_eq_ite] at h
      split at h
      · rename_i hs
        refine ⟨_, h, fun E w0 w cs hR => ?_⟩
        simp only [builtin, concL, AV.conc, Sem.run_bind, run_len_sliceT hs, Result.andThen_ok, Sem.run_pure]
      · cases h
    · rename_i q
      split at h
      · rename_i e he
        simp only [cond_eq_ite] at h
        split at h
        · rename_i hs
          refine ⟨_, h, fun E w0 w cs hR => ?_⟩
          rcases hR.vec _ e he with ⟨hz, hz'⟩ | ⟨a, cap, cs', fz, hv'⟩
          · simp only [builtin, concL, AV.conc, hz', nilV, Sem.run_bind, run_len_sliceT hs, Result.andThen_ok, Sem.run_pure, hz, List.length_nil]
          have hv := hv'.val
          simp only [builtin, concL, AV.conc, hv, Sem.run_bind, run_len_sliceT hs, Result.andThen_ok, Sem.run_pure]
        · cases h
      · cases h
    · cases h
  · split at h
    · rename_i vs hvs
      split at h
      · rename_i u hu
        refine ⟨u, h, fun E w0 w cs hR => ?_⟩
        rw [litsOf_eq hvs, concL_lits]
        simp only [builtin, Sem.run_bind, pureRun_run _ w hu, Result.andThen_ok, Sem.run_pure]
      · cases h
    · cases h
  · split at h
    · rename_i vs hvs
      split at h
      · rename_i u hu
        refine ⟨u, h, fun E w0 w cs hR => ?_⟩
        rw [litsOf_eq hvs, concL_lits]
        simp only [builtin, Sem.run_bind, pureRun_run _ w hu, Result.andThen_ok, Sem.run_pure]
      · cases h
    · cases h
  · cases h

def arrayA {R : Type} (P : Program) (M : Mem) (t : TypeId) (x : AV) (k : AV → Option R) : Option R :=
  match P.underlying t with
  | some (.array n el) =>
    match x with
    | .sl b off len _ => bif decide (n ≤ len) then k (.ptr b off) else none
    | .vec h => match M.vecs[h]? with
      | some (some e) => if 0 < n ∧ n ≤ e.cont.length then k (.vptr h 0 e.sh.length 0) else none
      | _ => none
    | _ => none
  | _ => none

theorem arrayA_sound {R : Type} {P : Program} {M : Mem} {t : TypeId} {x : AV} {k : AV → Option R} {r : R} (h : arrayA P M t x k = some r) :
    ∃ z, k z = some r ∧ (∀ n m, x.sc n m = true → z.sc n m = true) ∧ ∀ E w0 w, RepM E w0 M w → (Instr.arrayAt t (x.conc E)).run P w = .ok (z.conc E) w := by
  unfold arrayA at h
  split at h
  · rename_i n el hu
    split at h
    · rename_i b off len cap
      simp only [cond_eq_ite, decide_eq_true_eq] at h
      split at h
      · rename_i hn
        refine ⟨_, h, fun _ _ hs => hs, fun E w0 w hR => ?_⟩
        simp only [Instr.arrayAt, Sem.run_bind, run_underlying hu, Result.andThen_ok, AV.conc]
        rw [if_neg (by omega)]; rfl
      · cases h
    · rename_i q
      split at h
      · rename_i e he
        split at h
        · rename_i hn
          refine ⟨_, h, fun _ _ hs => hs, fun E w0 w hR => ?_⟩
          obtain ⟨cap, hv, _⟩ := hR.val he (by omega)
          simp only [Instr.arrayAt, Sem.run_bind, run_underlying hu, Result.andThen_ok, AV.conc, hv]
          rw [if_neg (by omega)]
          simp
        · cases h
      · cases h
    · cases h
  · cases h

def nilOk : AV → Bool
  | .ptr _ _ | .vptr _ _ _ _ | .fn _ _ => true
  | .lit (.pointer (some _)) => true
  | .lit (.func (.func _) _ _) => true
  | _ => false

theorem nilOk_sound {P : Program} {E : Env} {x : AV} (h : nilOk x = true) (o : Oper) (a : Act) (ox : Operand) (ho : o.op = .nilCheck ox) (hx : a.eval ox = x.conc E) (w : World) : (execOp a.eval o).run P w = .ok (.value (x.conc E)) w := by
  unfold nilOk at h
  unfold execOp
  simp only [ho, hx]
  split at h <;> first | (simp only [AV.conc, Sem.run_pure]; done) | cases h

/-! a field, an element of a value -/
def fieldV {R : Type} (P : Program) (t : TypeId) (x : AV) (f : Nat) (k : AV → Option R) : Option R :=
  match P.underlying t, x.asAgg with
  | some (.struct fs), .agg cs =>
    match fs[f]? with
    | some fd => match partA P fd.type cs fd.offset with
      | some z => k z
      | none => none
    | none => none
  | _, _ => none

theorem partA_sc {P : Program} {t : TypeId} {cs : List AV} {off n m : Nat} {z : AV} (h : partA P t cs off = some z) (hs : scL n m cs = true) : z.sc n m = true := by
  unfold partA at h
  split at h
  · split at h
    · simp only [cond_eq_ite] at h
      split at h
      · simp only [Option.some.injEq] at h
        subst h
        simp only [AV.sc]
        rw [scL_eq, List.all_eq_true] at *
        intro a ha
        exact hs a (List.mem_of_mem_drop (List.mem_of_mem_take ha))
      · cases h
    · cases h
  · exact scL_at hs h
  · cases h

theorem asAgg_sc {n m : Nat} {x : AV} (h : x.sc n m = true) : x.asAgg.sc n m = true := by
  unfold AV.asAgg
  split
  · simp [AV.sc, scL_eq]
  · exact h

theorem fieldV_sound {R : Type} {P : Program} {t : TypeId} {x : AV} {f : Nat} {k : AV → Option R} {r : R} (h : fieldV P t x f k = some r) :
    ∃ z, k z = some r ∧ (∀ n m, x.sc n m = true → z.sc n m = true) ∧ ∀ E w, (Instr.field t (x.conc E) f).run P w = .ok (z.conc E) w := by
  unfold fieldV at h
  split at h
  · rename_i fs cs hu hx
    split at h
    · rename_i fd hf
      split at h
      · rename_i z hz
        refine ⟨z, h, fun n m hs => partA_sc hz (by have := asAgg_sc hs; rw [hx] at this; simpa [AV.sc] using this), fun E w => ?_⟩
        rw [← AV.asAgg_conc E x, hx]
        simp only [Instr.field, Sem.run_bind, run_underlying hu, Result.andThen_ok, hf, AV.conc, asAgg, Sem.run_pure, run_part hz w]
      · cases h
    · cases h
  · cases h

def indexV {R : Type} (P : Program) (t : TypeId) (x ix : AV) (k : AV → Option R) : Option R :=
  match P.underlying t, x.asAgg, ix with
  | some (.array len el), .agg cs, .lit (.int _ i) =>
    match sizeT P el with
    | some n => if 0 ≤ i ∧ i < (len : Int) then (match partA P el cs (i.toNat * n) with
      | some z => k z
      | none => none) else none
    | none => none
  | _, _, _ => none

theorem indexV_sound {R : Type} {P : Program} {t : TypeId} {x ix : AV} {k : AV → Option R} {r : R} (h : indexV P t x ix k = some r) :
    ∃ z, k z = some r ∧ (∀ n m, x.sc n m = true → z.sc n m = true) ∧ ∀ E w, (Instr.index t (x.conc E) (ix.conc E)).run P w = .ok (z.conc E) w := by
  unfold indexV at h
  split at h
  · rename_i len el cs kk i hu hx
    split at h
    · rename_i n hn
      split at h
      · rename_i hi
        split at h
        · rename_i z hz
          refine ⟨z, h, fun n m hs => partA_sc hz (by have := asAgg_sc hs; rw [hx] at this; simpa [AV.sc] using this), fun E w => ?_⟩
          rw [← AV.asAgg_conc E x, hx]
          simp only [Instr.index, Sem.run_bind, run_underlying hu, Result.andThen_ok, AV.conc, asIntOf, Sem.run_pure, if_pos hi, run_sizeOf hn, run_part hz w]
        · cases h
      · cases h
    · cases h
  · cases h

end Go.Sx

namespace Go.Sx
open Go Go.RowKit

/-! The cells that a slice shows, one after another. -/

def flatC : List AV → List AV
  | [] => []
  | x :: l => x.cells ++ flatC l

theorem flatC_len {z : Nat} : ∀ (l : List AV), (∀ x, x ∈ l → x.cells.length = z) → (flatC l).length = l.length * z
  | [], _ => by simp [flatC]
  | x :: l, h => by
    simp only [flatC, List.length_append, List.length_cons, flatC_len l (fun y hy => h y (List.mem_cons_of_mem _ hy)), h x List.mem_cons_self]
    rw [Nat.add_mul]; omega
theorem flatC_get {z : Nat} : ∀ (l : List AV), (∀ x, x ∈ l → x.cells.length = z) → ∀ (q : Nat) (c : AV), (flatC l)[q]? = some c → ∃ i j x, l[i]? = some x ∧ x.cells[j]? = some c ∧ q = i * z + j
  | [], _, q, c, h => by simp [flatC] at h
  | x :: l, h, q, c, hq => by
    have hx := h x List.mem_cons_self
    simp only [flatC] at hq
    rcases Nat.lt_or_ge q z with hl | hl
    · rw [List.getElem?_append_left (by omega)] at hq
      exact ⟨0, q, x, rfl, hq, by omega⟩
    · rw [List.getElem?_append_right (by omega), hx] at hq
      obtain ⟨i, j, y, h1, h2, h3⟩ := flatC_get l (fun y hy => h y (List.mem_cons_of_mem _ hy)) (q - z) c hq
      exact ⟨i + 1, j, y, by simpa using h1, h2, by rw [Nat.add_mul]; omega⟩
theorem flatC_of {z : Nat} : ∀ (l : List AV), (∀ x, x ∈ l → x.cells.length = z) → ∀ (i j : Nat) (x c : AV), l[i]? = some x → x.cells[j]? = some c → (flatC l)[i * z + j]? = some c
  | [], _, i, j, x, c, h, _ => by simp at h
  | y :: l, h, i, j, x, c, hi, hj => by
    have hy := h y List.mem_cons_self
    simp only [flatC]
    cases i with
    | zero =>
      simp only [List.getElem?_cons_zero, Option.some.injEq] at hi
      subst hi
      rw [List.getElem?_append_left (by have := lt_of_get hj; omega), Nat.zero_mul, Nat.zero_add]
      exact hj
    | succ i =>
      rw [List.getElem?_append_right (by rw [hy, Nat.add_mul]; omega), hy]
      have := flatC_of l (fun y hy => h y (List.mem_cons_of_mem _ hy)) i j x c (by simpa using hi) hj
      rw [← this]
      congr 1
      rw [Nat.add_mul]; omega
theorem flatC_append (l m : List AV) : flatC (l ++ m) = flatC l ++ flatC m := by
  induction l with
  | nil => rfl
  | cons x l ih => simp [flatC, ih]

theorem fitsAll_ln : ∀ {ks : List CK} {l : List AV}, fitsAll ks l = true → ks.length = l.length
  | [], [], _ => rfl
  | [], _ :: _, h => by simp [fitsAll] at h
  | _ :: _, [], h => by simp [fitsAll] at h
  | k :: ks, a :: l, h => by
    simp only [fitsAll, Bool.and_eq_true] at h
    simp [fitsAll_ln h.2]
theorem fits_cells {k : CK} {a : AV} (h : k.fits a = true) : a.cells = [a] := by
  cases k <;> cases a <;> first | rfl | (simp [CK.fits] at h; done) | (rename_i v; cases v <;> first | rfl | (simp [CK.fits] at h; done))
theorem shape_len {isAgg : Bool} {sh : List CK} {x : AV} (h : x.shape isAgg sh = true) : x.cells.length = sh.length := by
  unfold AV.shape at h
  split at h
  · exact (fitsAll_ln h).symm
  · match sh, h with
    | [k], h =>
      simp only [fitsAll, Bool.and_true] at h
      rw [fits_cells h]; rfl
    | [], h => simp [fitsAll] at h
    | _ :: _ :: _, h => simp [fitsAll] at h
  · cases h

def srcA (M : Mem) (x : AV) (z : Nat) : Option (Nat × List AV) :=
  match x with
  | .sl b off len _ => match M.blks[b]? with
    | some (some X) => bif decide (off + len * z ≤ X.cells.length) then some (len, (X.cells.drop off).take (len * z)) else none
    | _ => none
  | .vec h => match M.vecs[h]? with
    | some (some e) => bif decide (e.sh.length = z) then some (e.cont.length, flatC e.cont) else none
    | _ => none
  | _ => none

theorem Addr.add_none (a : Addr) (h : a.spot = none) (j : Nat) : a.add j = ⟨a.block, a.off + j, none⟩ := by
  unfold Addr.add
  split
  · rename_i e; subst e; cases a; simp_all
  · cases a; simp_all

theorem srcA_sound {E : Env} {w0 : Bs} {w : World} {M : Mem} (hR : RepM E w0 M w) {x : AV} {z m : Nat} {cs : List AV} (h : srcA M x z = some (m, cs)) :
    (x.conc E = nilV ∧ m = 0 ∧ cs = []) ∨ ∃ a c news, x.conc E = .slice (some a) m c ∧ cs.length = m * z ∧ RelL E M cs news ∧ ∀ (j : Nat) (u : Value), news[j]? = some u → w.cell? (a.add j) = some u := by
  unfold srcA at h
  split at h
  · rename_i b off len cap
    split at h
    · rename_i X hX
      simp only [cond_eq_ite, decide_eq_true_eq] at h
      split at h
      · rename_i hle
        simp only [Option.some.injEq, Prod.mk.injEq] at h
        obtain ⟨rfl, rfl⟩ := h
        obtain ⟨_, arr, h2, h3⟩ := hR.blk b X hX
        refine .inr ⟨⟨E.ρ b, off, none⟩, cap, (arr.toList.drop off).take (len * z), rfl, by simp; omega, ⟨by simp [h3.len], fun i a v ha hv => ?_⟩, fun j u hj => ?_⟩
        · rw [List.getElem?_take] at ha hv
          split at ha
          · rename_i hi
            rw [if_pos hi] at hv
            rw [List.getElem?_drop] at ha hv
            exact h3.at_ _ a v ha hv
          · cases ha
        · rw [List.getElem?_take] at hj
          split at hj
          · rw [List.getElem?_drop] at hj
            rw [Addr.add_none _ rfl]
            simp only [World.cell?, h2]
            simpa using hj
          · cases hj
      · cases h
    · cases h
  · rename_i q
    split at h
    · rename_i e he
      simp only [cond_eq_ite, decide_eq_true_eq] at h
      split at h
      · rename_i hz
        subst hz
        simp only [Option.some.injEq, Prod.mk.injEq] at h
        obtain ⟨rfl, rfl⟩ := h
        rcases hR.vec q e he with ⟨hz, hz'⟩ | ⟨a, cap, arr, fz, hv⟩
        · exact .inl ⟨hz', by rw [hz]; rfl, by rw [hz]; rfl⟩
        have hcl : ∀ x, x ∈ e.cont → x.cells.length = e.sh.length := fun x hx => by
          obtain ⟨i, hi⟩ := List.mem_iff_getElem?.1 hx
          exact shape_len (hv.shape i x hi)
        have hfl := flatC_len e.cont hcl
        have hroom : e.cont.length * e.sh.length ≤ arr.size - a.off := by
          rcases hv.room with hr | hr
          · rw [hr]; simp
          · omega
        refine .inr ⟨a, cap, (arr.toList.drop a.off).take (e.cont.length * e.sh.length), hv.val, hfl, ⟨by simp [hfl]; omega, fun i c v hc hvv => ?_⟩, fun j u hj => ?_⟩
        · obtain ⟨i', j', x, h1, h2, rfl⟩ := flatC_get e.cont hcl i c hc
          obtain ⟨u, hu, hr⟩ := hv.cell i' x h1 j' c h2
          rw [List.getElem?_take] at hvv
          split at hvv
          · rw [List.getElem?_drop] at hvv
            have : arr[a.off + (i' * e.sh.length + j')]? = some v := by simpa using hvv
            rw [hu] at this
            simp only [Option.some.injEq] at this
            exact this ▸ hr
          · cases hvv
        · rw [List.getElem?_take] at hj
          split at hj
          · rw [List.getElem?_drop] at hj
            rw [Addr.add_none _ hv.spot]
            simp only [World.cell?, hv.blk]
            simpa using hj
          · cases hj
      · cases h
    · cases h
  · cases h

/-! a string of bytes -/
def bytesA : List AV → Option (List Int)
  | [] => some []
  | .lit (.int .u8 n) :: l => match bytesA l with
    | some ns => some (n :: ns)
    | none => none
  | _ => none
theorem bytesA_eq : ∀ {l : List AV} {ns : List Int}, bytesA l = some ns → l = ns.map fun n => AV.lit (.int .u8 n)
  | [], ns, h => by simp only [bytesA, Option.some.injEq] at h; subst h; rfl
  | a :: l, ns, h => by
    unfold bytesA at h
    split at h
    · rename_i hh; cases hh
    · rename_i n l' hh
      cases hh
      split at h
      · rename_i ms hms
        simp only [Option.some.injEq] at h
        subst h
        rw [bytesA_eq hms]; rfl
      · cases h
    · cases h
def strOf (ns : List Int) : ByteArray := ns.foldl (fun r n => r.push (UInt8.ofNat n.toNat)) ByteArray.empty
def convA {R : Type} (P : Program) (M : Mem) (s d : TypeId) (x : AV) (k : AV → Option R) : Option R :=
  match P.underlying s, P.underlying d with
  | some (.slice e), some .string => match P.underlying e with
    | some (.int .u8) => match x with
      | .vec h => match M.vecs[h]? with
        | some (some e) => bif decide (e.sh = [.int .u8]) && !e.isAgg then k (.lit (.string (strOf (e.cont.map AV.getInt)))) else none
        | _ => none
      | _ => match srcA M x 1 with
        | some (_, cs) => match bytesA cs with
          | some ns => k (.lit (.string (strOf ns)))
          | none => none
        | none => none
    | _ => none
  | _, _ => none

theorem run_conv_nil {P : Program} (w : World) (src dst e : TypeId) (hs : P.underlying src = some (.slice e)) (he : P.underlying e = some (.int .u8)) (hd : P.underlying dst = some .string) : (convert src dst nilV).run P w = .ok (.string (strOf [])) w := by
  unfold nilV
  rw [run_convert_bytes_string w src dst e none 0 0 hs he hd]
  rfl
theorem ints_of_shape {l : List AV} {k : IntKind} (h : ∀ x, x ∈ l → x.shape false [.int k] = true) : l = (l.map AV.getInt).map fun n => AV.lit (.int k n) := by
  induction l with
  | nil => rfl
  | cons a l ih =>
    simp only [List.map_cons]
    rw [← ih fun x hx => h x (List.mem_cons_of_mem _ hx)]
    congr 1
    have := h a List.mem_cons_self
    cases a with
    | lit v => cases v with
      | int k' n =>
        simp [AV.shape, fitsAll, CK.fits] at this
        subst this; rfl
      | _ => simp [AV.shape, fitsAll, CK.fits] at this
    | _ => simp [AV.shape, fitsAll, CK.fits] at this
theorem flatC_ints (l : List Int) (k : IntKind) : flatC (l.map fun n => AV.lit (.int k n)) = l.map fun n => AV.lit (.int k n) := by
  induction l with
  | nil => rfl
  | cons a l ih => simp only [List.map_cons, flatC, AV.cells, ih]; rfl
theorem run_conv_row {P : Program} {E : Env} {M : Mem} {w : World} {v : Value} {ns : List Int} {m : Nat} {s d e : TypeId} (hs : P.underlying s = some (.slice e)) (he : P.underlying e = some (.int .u8)) (hd : P.underlying d = some .string)
    (h : (v = nilV ∧ m = 0 ∧ (ns.map fun n => AV.lit (.int .u8 n)) = []) ∨ ∃ a c news, v = .slice (some a) m c ∧ (ns.map fun n => AV.lit (.int .u8 n)).length = m * 1 ∧ RelL E M (ns.map fun n => AV.lit (.int .u8 n)) news ∧ ∀ (j : Nat) (u : Value), news[j]? = some u → w.cell? (a.add j) = some u) :
    (convert s d v).run P w = .ok (.string (strOf ns)) w := by
  rcases h with ⟨rfl, _, h3⟩ | ⟨a, c, news, hx, hlen, hrel, hcell⟩
  · have : ns = [] := by simpa using h3
    subst this
    exact run_conv_nil w s d e hs he hd
  · have hnews : news = ns.map (Value.int .u8) := by
      apply List.ext_getElem?
      intro i
      cases hi : ns[i]? with
      | none =>
        have : ns.length ≤ i := by simpa using hi
        rw [List.getElem?_eq_none (by rw [← hrel.len]; simpa using this)]
        simp [hi]
      | some n =>
        have h1 : (ns.map fun n => AV.lit (.int .u8 n))[i]? = some (.lit (.int .u8 n)) := by simp [hi]
        obtain ⟨v, hv, hrv⟩ := hrel.get h1
        rw [hv, hrv.2 rfl]
        simp [hi, AV.conc]
    have hm : ns.length = m := by rw [Nat.mul_one] at hlen; rw [← hlen]; simp
    rw [hx, run_convert_bytes_string w s d e (some a) m c hs he hd]
    have hl := run_loadCells_list (P := P) w a news hcell
    rw [hnews] at hl
    simp only [List.length_map, hm] at hl
    rw [run_bytesToString w a m c ns hl]
    rfl

theorem convA_sound {R : Type} {P : Program} {M : Mem} {s d : TypeId} {x : AV} {k : AV → Option R} {r : R} (h : convA P M s d x k = some r) :
    ∃ u : Value, k (.lit u) = some r ∧ ∀ E w0 w, RepM E w0 M w → (convert s d (x.conc E)).run P w = .ok u w := by
  unfold convA at h
  split at h
  · rename_i e hs hd
    split at h
    · rename_i he
      split at h
      · rename_i q
        split at h
        · rename_i e' hq
          simp only [cond_eq_ite, Bool.and_eq_true, decide_eq_true_eq, Bool.not_eq_true'] at h
          split at h
          · rename_i hc
            refine ⟨_, h, fun E w0 w hR => ?_⟩
            have hl := ints_of_shape (l := e'.cont) (k := .u8) fun y hy => by
              obtain ⟨i, hi⟩ := List.mem_iff_getElem?.1 hy
              have := hR.shape hq hi
              rwa [hc.1, hc.2] at this
            have hsrc : srcA M (.vec q) 1 = some (e'.cont.length, flatC e'.cont) := by simp [srcA, hq, hc.1]
            have := srcA_sound hR hsrc
            have hf : flatC e'.cont = (e'.cont.map AV.getInt).map fun n => AV.lit (.int .u8 n) := by
              conv => lhs; rw [hl]
              exact flatC_ints _ _
            rw [hf] at this
            exact run_conv_row hs he hd this
          · cases h
        · cases h
      · split at h
        · rename_i m cs hsrc
          split at h
          · rename_i ns hns
            refine ⟨_, h, fun E w0 w hR => ?_⟩
            have := srcA_sound hR hsrc
            rw [bytesA_eq hns] at this
            exact run_conv_row hs he hd this
          · cases h
        · cases h
    · cases h
  · cases h

end Go.Sx

namespace Go.Sx
open Go Go.RowKit

def optB {α : Type} (p : α → Bool) : Option α → Bool
  | none => true
  | some a => p a

def evP (tm : List AV) (ps : List (Nat × Operand)) : List (Nat × AV) := ps.map fun p => (p.1, ev tm p.2)

/-- a comparison; a row that has elements is not nil -/
def binV {R : Type} (P : Program) (M : Mem) (op : BinOp) (t : TypeId) (ox oy : Operand) (x y : AV) (k : AV → Option R) : Option R :=
  match x with
  | .vec h => match y with
    | .lit (.slice none _ _) => match M.vecs[h]? with
      | some (some e) => match P.underlying t with
        | some (.slice _) => bif decide (0 < e.cont.length) then (match op with
          | .eql => k (.lit (.bool false))
          | .neq => k (.lit (.bool true))
          | _ => none) else none
        | _ => none
      | _ => none
    | _ => binK P op t ox oy x y k
  | _ => binK P op t ox oy x y k
theorem binV_sound {R : Type} {P : Program} {M : Mem} {op : BinOp} {t : TypeId} {ox oy : Operand} {x y : AV} {k : AV → Option R} {r : R} (h : binV P M op t ox oy x y k = some r) :
    ∃ v : Value, k (.lit v) = some r ∧ ∀ (E : Env) w0 w, RepM E w0 M w → (do eqGuard op t ox oy (x.conc E) (y.conc E); binOp op t (x.conc E) (y.conc E) : Sem Value).run P w = .ok v w := by
  have old : binK P op t ox oy x y k = some r → ∃ v : Value, k (.lit v) = some r ∧ ∀ (E : Env) w0 w, RepM E w0 M w → (do eqGuard op t ox oy (x.conc E) (y.conc E); binOp op t (x.conc E) (y.conc E) : Sem Value).run P w = .ok v w := fun h =>
    let ⟨v, h1, h2⟩ := binK_sound h; ⟨v, h1, fun E w0 w _ => h2 E w⟩
  unfold binV at h
  split at h
  · rename_i q
    split at h
    · rename_i la ca
      split at h
      · rename_i e he
        split at h
        · rename_i el hu
          simp only [cond_eq_ite, decide_eq_true_eq] at h
          split at h
          · rename_i hne
            have key : ∀ (E : Env) w0 w, RepM E w0 M w → (eqGuard op t ox oy (E.σ q) (.slice none la ca)).run P w = .ok () w ∧ (binOp .eql t (E.σ q) (.slice none la ca)).run P w = .ok (.bool false) w ∧ (binOp .neq t (E.σ q) (.slice none la ca)).run P w = .ok (.bool true) w := by
              intro E w0 w hR
              obtain ⟨cap, hv, _⟩ := hR.val he hne
              have hc : cmpA P t (.sl 0 (E.va q).off e.cont.length cap) (.lit (.slice none la ca)) = some false := by
                unfold cmpA nilCmp
                simp [hu]
              have := cmpA_sound (E := ⟨fun _ => (E.va q).block, E.σ⟩) hc op ox oy w
              simp only [AV.conc] at this
              rw [hv]
              exact this
            split at h
            · refine ⟨_, h, fun E w0 w hR => ?_⟩
              obtain ⟨k1, k2, k3⟩ := key E w0 w hR
              simp only [AV.conc, Sem.run_bind, k1, Result.andThen_ok, k2]
            · refine ⟨_, h, fun E w0 w hR => ?_⟩
              obtain ⟨k1, k2, k3⟩ := key E w0 w hR
              simp only [AV.conc, Sem.run_bind, k1, Result.andThen_ok, k3]
            · cases h
          · cases h
        · cases h
      · cases h
    · exact old h
  · exact old h

/-- an operation that hands back a value and leaves the world alone -/
def valK {R : Type} (P : Program) (tm : List AV) (M : Mem) (o : Oper) (k : AV → Mem → Option R) : Option R :=
  match o.op with
  | .move x => k (ev tm x) M
  | .assign x => k (ev tm x) M
  | .pick c a b => match ev tm c with
    | .lit (.bool t) => match t with
      | true => k (ev tm a) M
      | false => k (ev tm b) M
    | _ => none
  | .binOp op t x y _ => bif (ev tm x).lv M.live && (ev tm y).lv M.live then binV P M op t x y (ev tm x) (ev tm y) (fun z => k z M) else none
  | .unOp op _ x => match ev tm x with
    | .lit v => match pureRun P (Op.unary op v) with
      | some u => k (.lit u) M
      | none => none
    | _ => none
  | .convert s d x => match ev tm x with
    | .lit v => match pureRun P (convert s d v) with
      | some u => k (.lit u) M
      | none => none
    | y => bif y.lv M.live then convA P M s d y (fun z => k z M) else none
  | .load t x => bif (ev tm x).lv M.live then loadA P M t (ev tm x) (fun z => k z M) else none
  | .fieldAddr s x f => bif (ev tm x).lv M.live then fieldA P s (ev tm x) f (fun z => k z M) else none
  | .indexAddr t x ix => bif (ev tm x).lv M.live && (ev tm ix).lv M.live then indexA P M t (ev tm x) (ev tm ix) (fun z => k z M) else none
  | .slice t x lo hi none => bif (ev tm x).lv M.live && optB (fun y => (ev tm y).lv M.live) lo && optB (fun y => (ev tm y).lv M.live) hi then sliceA P M t (ev tm x) (lo.map (ev tm)) (hi.map (ev tm)) k else none
  | .sliceToArrayPointer t x => bif (ev tm x).lv M.live then arrayA P M t (ev tm x) (fun z => k z M) else none
  | .field t x f => bif (ev tm x).lv M.live then fieldV P t (ev tm x) f (fun z => k z M) else none
  | .index t x ix => bif (ev tm x).lv M.live && (ev tm ix).lv M.live then indexV P t (ev tm x) (ev tm ix) (fun z => k z M) else none
  | .build t parts => bif lvL M.live ((evP tm parts.toList).map (·.2)) then buildA P t (evP tm parts.toList) (fun z => k z M) else none
  | .makeFunc (.func f) first caps => bif first.isEmpty && lvL M.live (caps.toList.map (ev tm)) then k (.fn f (caps.toList.map (ev tm))) M else none
  | .nilCheck x => bif (ev tm x).lv M.live && nilOk (ev tm x) then k (ev tm x) M else none
  | .extract t i => match ev tm t with
    | .tup vs => bif (AV.tup vs).lv M.live then (match vs[i]? with
      | some a => k a M
      | none => none) else none
    | .lit (.tuple vs) => match vs[i]? with
      | some a => k (.lit a) M
      | none => none
    | _ => none
  | .call c => match c.callee with
    | .builtin b => bif lvL M.live (c.args.toList.map (ev tm)) then builtinA P M b c.argTypes o.type (c.args.toList.map (ev tm)) (fun z => k z M) else none
    | _ => none
  | _ => none

theorem evalL {E : Env} {M : Mem} {tm : List AV} {a : Act} (hT : RelL E M tm a.tmps.toList) : ∀ (l : List Operand), lvL M.live (l.map (ev tm)) = true → l.map a.eval = concL E (l.map (ev tm))
  | [], _ => rfl
  | x :: l, h => by
    simp only [List.map_cons, lvL, Bool.and_eq_true] at h
    simp only [List.map_cons, concL]
    rw [(hT.ev x).2 h.1, evalL hT l h.2]

/-- what soundness says of one operation -/
def ValOk (P : Program) (tm : List AV) (M : Mem) (o : Oper) (z : AV) (M' : Mem) : Prop :=
  ∀ E (a : Act), RelL E M tm a.tmps.toList → ∃ E' v, Step E M E' M' ∧
    ∀ w0 w, RepM E w0 M w → RelS E' M' z v ∧ RepM E' w0 M' w ∧ (execOp a.eval o).run P w = .ok (.value v) w

theorem ValOk.same {P : Program} {tm : List AV} {M : Mem} {o : Oper} {z : AV}
    (h : ∀ E (a : Act), RelL E M tm a.tmps.toList → ∀ w0 w, RepM E w0 M w → z.sc M.blks.length M.vecs.length = true ∧ (execOp a.eval o).run P w = .ok (.value (z.conc E)) w) : ValOk P tm M o z M :=
  fun E a hT => ⟨E, z.conc E, Step.refl E M, fun w0 w hR => ⟨⟨(h E a hT w0 w hR).1, fun _ => rfl⟩, hR, (h E a hT w0 w hR).2⟩⟩

def isSl (o : Oper) : Bool := match o.op with
  | .slice _ _ _ _ _ => true
  | _ => false

theorem valK_sound {R : Type} {P : Program} {tm : List AV} {M : Mem} {o : Oper} {k : AV → Mem → Option R} {r : R} (h : valK P tm M o k = some r) :
    ∃ z M', k z M' = some r ∧ Grow M M' ∧ (isSl o = false → M' = M) ∧ ValOk P tm M o z M' := by
  obtain ⟨dst, op, ty, pos, after, guard⟩ := o
  unfold valK at h
  simp only at h
  split at h
  · -- move
    rename_i x
    exact ⟨_, _, h, Grow.refl _, fun _ => rfl, fun E a hT => ⟨E, a.eval x, Step.refl E M, fun w0 w hR => ⟨hT.ev x, hR, by simp [execOp]⟩⟩⟩
  · rename_i x
    exact ⟨_, _, h, Grow.refl _, fun _ => rfl, fun E a hT => ⟨E, a.eval x, Step.refl E M, fun w0 w hR => ⟨hT.ev x, hR, by simp [execOp]⟩⟩⟩
  · -- pick
    rename_i c x y
    split at h
    · rename_i t hc
      split at h
      · refine ⟨_, _, h, Grow.refl _, fun _ => rfl, fun E a hT => ⟨E, a.eval x, Step.refl E M, fun w0 w hR => ⟨hT.ev x, hR, ?_⟩⟩⟩
        have hce := (hT.ev c).2 (by rw [hc]; rfl)
        rw [hc] at hce
        simp [execOp, hce, AV.conc, asBool]
      · refine ⟨_, _, h, Grow.refl _, fun _ => rfl, fun E a hT => ⟨E, a.eval y, Step.refl E M, fun w0 w hR => ⟨hT.ev y, hR, ?_⟩⟩⟩
        have hce := (hT.ev c).2 (by rw [hc]; rfl)
        rw [hc] at hce
        simp [execOp, hce, AV.conc, asBool]
    · cases h
  · -- binOp
    rename_i op t x y yt
    simp only [cond_eq_ite, Bool.and_eq_true] at h
    split at h
    · rename_i hl
      obtain ⟨v, hk, hv⟩ := binV_sound h
      refine ⟨_, _, hk, Grow.refl _, fun _ => rfl, ValOk.same fun E a hT w0 w hR => ⟨rfl, ?_⟩⟩
      have := hv E w0 w hR
      rw [← (hT.ev x).2 hl.1, ← (hT.ev y).2 hl.2] at this
      unfold execOp
      simp only [Sem.run_bind] at this ⊢
      rw [this]
      simp [AV.conc]
    · cases h
  · -- unOp
    rename_i op t x
    split at h
    · rename_i v hx
      split at h
      · rename_i u hu
        refine ⟨_, _, h, Grow.refl _, fun _ => rfl, ValOk.same fun E a hT w0 w hR => ⟨rfl, ?_⟩⟩
        have hxe := (hT.ev x).2 (by rw [hx]; rfl)
        rw [hx] at hxe
        simp only [execOp, hxe, AV.conc, Sem.run_bind, pureRun_run _ w hu, Result.andThen_ok, Sem.run_pure]
      · cases h
    · cases h
  · -- convert
    rename_i s d x
    split at h
    · rename_i v hx
      split at h
      · rename_i u hu
        refine ⟨_, _, h, Grow.refl _, fun _ => rfl, ValOk.same fun E a hT w0 w hR => ⟨rfl, ?_⟩⟩
        have hxe := (hT.ev x).2 (by rw [hx]; rfl)
        rw [hx] at hxe
        simp only [execOp, hxe, AV.conc, Sem.run_bind, pureRun_run _ w hu, Result.andThen_ok, Sem.run_pure]
      · cases h
    · simp only [cond_eq_ite] at h
      split at h
      · rename_i hl
        obtain ⟨u, hu, hrun⟩ := convA_sound h
        refine ⟨_, _, hu, Grow.refl _, fun _ => rfl, ValOk.same fun E a hT w0 w hR => ⟨rfl, ?_⟩⟩
        simp only [execOp, (hT.ev x).2 hl, Sem.run_bind, hrun E w0 w hR, Result.andThen_ok, Sem.run_pure, AV.conc]
      · cases h
  · -- load
    rename_i t x
    simp only [cond_eq_ite] at h
    split at h
    · rename_i hl
      obtain ⟨z, hz, hlz, hrun⟩ := loadA_sound h
      refine ⟨_, _, hz, Grow.refl _, fun _ => rfl, ValOk.same fun E a hT w0 w hR => ⟨(hrun E w0 w hR).1, ?_⟩⟩
      simp only [execOp, (hT.ev x).2 hl, Sem.run_bind, (hrun E w0 w hR).2, Result.andThen_ok, Sem.run_pure]
    · cases h
  · -- fieldAddr
    rename_i s x f
    simp only [cond_eq_ite] at h
    split at h
    · rename_i hl
      obtain ⟨z, hz, hsc, hrun⟩ := fieldA_sound h
      refine ⟨_, _, hz, Grow.refl _, fun _ => rfl, ValOk.same fun E a hT w0 w hR => ⟨hsc _ _ (hT.ev x).1, ?_⟩⟩
      simp only [execOp, (hT.ev x).2 hl, Sem.run_bind, hrun E w, Result.andThen_ok, Sem.run_pure]
    · cases h
  · -- indexAddr
    rename_i t x ix
    simp only [cond_eq_ite, Bool.and_eq_true] at h
    split at h
    · rename_i hl
      obtain ⟨z, hz, hsc, hrun⟩ := indexA_sound h
      refine ⟨_, _, hz, Grow.refl _, fun _ => rfl, ValOk.same fun E a hT w0 w hR => ⟨hsc _ _ (hT.ev x).1, ?_⟩⟩
      simp only [execOp, (hT.ev x).2 hl.1, (hT.ev ix).2 hl.2, Sem.run_bind, hrun E w0 w hR, Result.andThen_ok, Sem.run_pure]
    · cases h
  · -- slice
    rename_i t x lo hi
    simp only [cond_eq_ite, Bool.and_eq_true] at h
    split at h
    · rename_i hl
      obtain ⟨z, M', hz, hgr, hrun⟩ := sliceA_sound h
      refine ⟨_, _, hz, hgr, fun hh => (by simp [isSl] at hh), fun E a hT => ?_⟩
      obtain ⟨E', hs, hsc, hr⟩ := hrun E
      refine ⟨E', z.conc E', hs, fun w0 w hR => ⟨⟨hsc (hT.ev x).1, fun _ => rfl⟩, (hr w0 w hR).1, ?_⟩⟩
      have hlo : lo.map a.eval = (lo.map (ev tm)).map (AV.conc E) := by
        cases lo with
        | none => rfl
        | some y => simp only [Option.map_some]; rw [(hT.ev y).2 hl.1.2]
      have hhi : hi.map a.eval = (hi.map (ev tm)).map (AV.conc E) := by
        cases hi with
        | none => rfl
        | some y => simp only [Option.map_some]; rw [(hT.ev y).2 hl.2]
      simp only [execOp, (hT.ev x).2 hl.1.1, hlo, hhi, Option.map_none, Sem.run_bind, (hr w0 w hR).2, Result.andThen_ok, Sem.run_pure]
    · cases h
  · -- sliceToArrayPointer
    rename_i t x
    simp only [cond_eq_ite] at h
    split at h
    · rename_i hl
      obtain ⟨z, hz, hsc, hrun⟩ := arrayA_sound h
      refine ⟨_, _, hz, Grow.refl _, fun _ => rfl, ValOk.same fun E a hT w0 w hR => ⟨hsc _ _ (hT.ev x).1, ?_⟩⟩
      simp only [execOp, (hT.ev x).2 hl, Sem.run_bind, hrun E w0 w hR, Result.andThen_ok, Sem.run_pure]
    · cases h
  · -- field
    rename_i t x f
    simp only [cond_eq_ite] at h
    split at h
    · rename_i hl
      obtain ⟨z, hz, hsc, hrun⟩ := fieldV_sound h
      refine ⟨_, _, hz, Grow.refl _, fun _ => rfl, ValOk.same fun E a hT w0 w hR => ⟨hsc _ _ (hT.ev x).1, ?_⟩⟩
      simp only [execOp, (hT.ev x).2 hl, Sem.run_bind, hrun E w, Result.andThen_ok, Sem.run_pure]
    · cases h
  · -- index
    rename_i t x ix
    simp only [cond_eq_ite, Bool.and_eq_true] at h
    split at h
    · rename_i hl
      obtain ⟨z, hz, hsc, hrun⟩ := indexV_sound h
      refine ⟨_, _, hz, Grow.refl _, fun _ => rfl, ValOk.same fun E a hT w0 w hR => ⟨hsc _ _ (hT.ev x).1, ?_⟩⟩
      simp only [execOp, (hT.ev x).2 hl.1, (hT.ev ix).2 hl.2, Sem.run_bind, hrun E w, Result.andThen_ok, Sem.run_pure]
    · cases h
  · -- build
    rename_i t parts
    simp only [cond_eq_ite] at h
    split at h
    · rename_i hl
      obtain ⟨z, hz, hrun⟩ := buildA_sound h
      refine ⟨_, _, hz, Grow.refl _, fun _ => rfl, ValOk.same fun E a hT w0 w hR => ?_⟩
      have hlp : ∀ p ∈ evP tm parts.toList, p.2.lv M.live = true := by
        intro p hp
        rw [lvL_eq, List.all_eq_true] at hl
        exact hl p.2 (List.mem_map_of_mem hp)
      have hsp : ∀ p ∈ evP tm parts.toList, p.2.sc M.blks.length M.vecs.length = true := by
        intro p hp
        simp only [evP, List.mem_map] at hp
        obtain ⟨q, _, rfl⟩ := hp
        exact (hT.ev q.2).1
      have := hrun E w0 M w hR hlp hsp
      refine ⟨this.1, ?_⟩
      have he : (parts.map fun (i, x) => (i, a.eval x)) = ((evP tm parts.toList).map fun p => (p.1, p.2.conc E)).toArray := by
        apply Array.ext'
        simp only [Array.toList_map, evP, List.map_map]
        apply List.map_congr_left
        intro p hp
        simp only [Function.comp]
        rw [(hT.ev p.2).2 (hlp (p.1, ev tm p.2) (by simp only [evP, List.mem_map]; exact ⟨p, hp, rfl⟩))]
      simp only [execOp, he, Sem.run_bind, this.2, Result.andThen_ok, Sem.run_pure]
    · cases h
  · -- makeFunc
    rename_i f first caps
    simp only [cond_eq_ite, Bool.and_eq_true] at h
    split at h
    · rename_i hl
      refine ⟨_, _, h, Grow.refl _, fun _ => rfl, ValOk.same fun E a hT w0 w hR => ⟨?_, ?_⟩⟩
      · simp only [AV.sc]
        refine scL_of fun i x hx => ?_
        rw [List.getElem?_map] at hx
        cases hc : caps.toList[i]? with
        | none => rw [hc] at hx; cases hx
        | some y => rw [hc] at hx; simp at hx; subst hx; exact (hT.ev y).1
      · have h0 : first = #[] := by simpa using hl.1
        have h1 := evalL hT caps.toList hl.2
        have h2 : caps.map a.eval = (concL E (caps.toList.map (ev tm))).toArray := by
          rw [← h1]; apply Array.ext'; simp
        simp only [execOp, h0, h2, Instr.makeFunc, Sem.run_bind, Sem.run_pure, Result.andThen_ok, AV.conc]
        simp
    · cases h
  · -- nilCheck
    rename_i x
    simp only [cond_eq_ite, Bool.and_eq_true] at h
    split at h
    · rename_i hl
      refine ⟨_, _, h, Grow.refl _, fun _ => rfl, ValOk.same fun E a hT w0 w hR => ⟨(hT.ev x).1, ?_⟩⟩
      exact nilOk_sound hl.2 _ a x rfl ((hT.ev x).2 hl.1) w
    · cases h
  · -- extract
    rename_i t i
    split at h
    · rename_i vs ht
      simp only [cond_eq_ite] at h
      split at h
      · rename_i hl
        split at h
        · rename_i x hx
          refine ⟨_, _, h, Grow.refl _, fun _ => rfl, ValOk.same fun E a hT w0 w hR => ?_⟩
          have hte := (hT.ev t).2 (by rw [ht]; exact hl)
          have hts := (hT.ev t).1
          rw [ht] at hte hts
          refine ⟨scL_at (by simpa [AV.sc] using hts) hx, ?_⟩
          simp only [execOp, hte, AV.conc, Instr.extract]
          simp [concL_eq, hx]
        · cases h
      · cases h
    · rename_i vs ht
      split at h
      · rename_i x hx
        refine ⟨_, _, h, Grow.refl _, fun _ => rfl, ValOk.same fun E a hT w0 w hR => ⟨rfl, ?_⟩⟩
        have hte := (hT.ev t).2 (by rw [ht]; rfl)
        rw [ht] at hte
        simp only [execOp, hte, AV.conc, Instr.extract]
        simp [hx]
      · cases h
    · cases h
  · -- call
    rename_i c
    split at h
    · rename_i b hb
      simp only [cond_eq_ite] at h
      split at h
      · rename_i hl
        obtain ⟨u, hu, hrun⟩ := builtinA_sound h
        refine ⟨_, _, hu, Grow.refl _, fun _ => rfl, ValOk.same fun E a hT w0 w hR => ⟨rfl, ?_⟩⟩
        have h1 := evalL hT c.args.toList hl
        have h2 : c.args.map a.eval = (concL E (c.args.toList.map (ev tm))).toArray := by
          rw [← h1]; apply Array.ext'; simp
        simp only [execOp, resolve, hb, Sem.run_bind, Sem.run_pure, Result.andThen_ok, invoke, h2, hrun E w0 w _ hR, AV.conc]
      · cases h
    · cases h
  · cases h

end Go.Sx

namespace Go.Sx
open Go Go.RowKit

/-- one cell that may be stored -/
def AV.one : AV → Bool
  | .lit v => v.oneCell'
  | .agg _ | .tup _ | .bad => false
  | _ => true

theorem one_conc {E : Env} {w0 : Bs} {w : World} {M : Mem} (hR : RepM E w0 M w) {a : AV} (ho : a.one = true) (hl : a.lv M.live = true) : (a.conc E).oneCell' = true := by
  cases a with
  | lit v => exact ho
  | vec h =>
    obtain ⟨e, he⟩ := live_ent (by simpa [AV.lv] using hl)
    obtain ⟨_, _, _, hv⟩ := hR.slc he
    simp [AV.conc, hv, Value.oneCell']
  | vsl h lo z =>
    obtain ⟨e, he⟩ := live_ent (by simpa [AV.lv] using hl)
    obtain ⟨o, _, _, hv⟩ := hR.slc he
    cases o <;> simp [AV.conc, hv, fromV, Value.oneCell']
  | agg _ => cases ho
  | tup _ => cases ho
  | bad => cases ho
  | _ => rfl

theorem setB_live {M : Mem} {b : Nat} {y : Blk} (hy : M.blks[b]? = some (some y)) (x : Blk) : (M.setB b x).live = M.live := by
  funext i
  unfold Mem.live
  split
  · exact aliveB_setB hy _
  · rfl

theorem set_splice (l : List AV) (a : AV) (cs : List AV) (o : Nat) (h : o + (l.length + 1) ≤ cs.length) :
    (cs.set o a).take (o + 1) ++ l ++ (cs.set o a).drop (o + 1 + l.length) = cs.take o ++ (a :: l) ++ cs.drop (o + (l.length + 1)) := by
  rw [List.take_set, List.drop_set_of_lt (by omega), List.take_succ_eq_append_getElem (by omega), List.set_append_right _ _ (by simp; omega)]
  simp [Nat.min_eq_left (show o ≤ cs.length from by omega)]
  congr 1; omega

theorem storeCells_rep {P : Program} {E : Env} {w0 : Bs} {b off : Nat} : ∀ (l : List AV) (i : Nat) (M : Mem) (X : Blk) (w : World), RepM E w0 M w → M.blks[b]? = some (some X) → X.own = true → off + i + l.length ≤ X.cells.length →
    (∀ a ∈ l, a.one = true) → lvL M.live l = true → scL M.blks.length M.vecs.length l = true →
    ∃ w', (storeCells ⟨E.ρ b, off, none⟩ (concL E l) i).run P w = .ok () w' ∧ w'.heap.size = w.heap.size ∧ RepM E w0 (M.setB b { X with cells := X.cells.take (off + i) ++ l ++ X.cells.drop (off + i + l.length) }) w'
  | [], i, M, X, w, hR, hX, hown, hl, _, _, _ => by
    clear hown
    refine ⟨w, by simp [concL, storeCells], rfl, ?_⟩
    have : M.setB b { X with cells := X.cells.take (off + i) ++ [] ++ X.cells.drop (off + i + ([] : List AV).length) } = M := by
      simp only [Mem.setB, List.append_nil, List.length_nil, Nat.add_zero, List.take_append_drop]
      have : M.blks.set b (some X) = M.blks := by
        apply List.ext_getElem?
        intro j
        rw [List.getElem?_set]
        split
        · rename_i e; subst e; rw [hX]; simp [lt_of_get hX]
        · rfl
      cases M; simp_all
    rw [this]; exact hR
  | a :: l, i, M, X, w, hR, hX, hlo, hl, h1, hlv, hsc => by
    simp only [List.length_cons] at hl
    simp only [lvL, Bool.and_eq_true] at hlv
    simp only [scL, Bool.and_eq_true] at hsc
    have hrel : RelS E M a (a.conc E) := ⟨hsc.1, fun _ => rfl⟩
    obtain ⟨hR1, hst, ⟨u, hu⟩, hfz⟩ := hR.setCell hX hlo (o := off + i) (by omega) hrel
    have hb := lt_of_get hX
    obtain ⟨w', hw', hsz, hR'⟩ := storeCells_rep (b := b) (off := off) l (i + 1) (M.setB b { X with cells := X.cells.set (off + i) a }) { X with cells := X.cells.set (off + i) a } _ hR1
      (by simp [Mem.setB, hb]) hlo (by simp only [List.length_set]; omega) (fun x hx => h1 x (List.mem_cons_of_mem _ hx)) (by rw [setB_live hX]; exact hlv.2) (by simpa [Mem.setB] using hsc.2)
    refine ⟨w', ?_, hsz.trans (by simp [World.setCell]), ?_⟩
    · simp only [concL, storeCells, addr_add, Sem.run_bind]
      rw [run_store P w _ _ _ (one_conc hR (h1 a List.mem_cons_self) hlv.1), hu]
      simp only [hfz, Bool.false_eq_true, if_false, Result.andThen_ok]
      exact hw'
    · have e1 : (M.setB b { X with cells := X.cells.set (off + i) a }).setB b { X with cells := (X.cells.set (off + i) a).take (off + (i + 1)) ++ l ++ (X.cells.set (off + i) a).drop (off + (i + 1) + l.length) } = M.setB b { X with cells := X.cells.take (off + i) ++ (a :: l) ++ X.cells.drop (off + i + (a :: l).length) } := by
        simp only [Mem.setB, List.set_set]
        have := set_splice l a X.cells (off + i) (by omega)
        simp only [List.length_cons]
        rw [← this, show off + (i + 1) = off + i + 1 from by omega]
      rw [← e1]
      exact hR'

def allOne : List AV → Bool
  | [] => true
  | a :: l => a.one && allOne l
theorem allOne_mem : ∀ {l : List AV}, allOne l = true → ∀ a ∈ l, a.one = true
  | [], _, a, h => by cases h
  | b :: l, h, a, hm => by
    simp only [allOne, Bool.and_eq_true] at h
    rcases List.mem_cons.1 hm with rfl | hm
    · exact h.1
    · exact allOne_mem h.2 a hm

/-- what soundness says of an operation that turns memory -/
def MemOk (P : Program) (tm : List AV) (M : Mem) (o : Oper) (z : AV) (M' : Mem) : Prop :=
  ∀ E (a : Act) w0 w, RelL E M tm a.tmps.toList → RepM E w0 M w → ∃ E' v w', Step E M E' M' ∧ RelS E' M' z v ∧ RepM E' w0 M' w' ∧ w.heap.size ≤ w'.heap.size ∧
    ((execOp a.eval o).run P w = .ok (.value v) w' ∨ ((execOp a.eval o).run P w = .ok .skip w' ∧ v = undef))

/-- cells of a new block -/
theorem newCells {E : Env} {w0 : Bs} {w : World} {M : Mem} (hR : RepM E w0 M w) {cs : List AV} (hl : lvL M.live cs = true) (hs : scL M.blks.length M.vecs.length cs = true) : RelL E M cs (concL E cs).toArray.toList := by
  refine ⟨by simp [concL_eq], fun i a v ha hv => ?_⟩
  simp only [concL_eq, List.getElem?_map, ha, Option.map_some, Option.some.injEq] at hv
  exact ⟨scL_at hs ha, fun _ => hv.symm⟩

theorem step_len {E E' : Env} {M M' : Mem} (h : Step E M E' M') : True := trivial

theorem newBlock {P : Program} {E : Env} {w0 : Bs} {w : World} {M : Mem} (hR : RepM E w0 M w) (t : TypeId) {cs : List AV} (hl : lvL M.live cs = true) (hs : scL M.blks.length M.vecs.length cs = true) :
    ∃ E' w', Step E M E' (M.addB ⟨t, true, cs⟩) ∧ RepM E' w0 (M.addB ⟨t, true, cs⟩) w' ∧ (newRow t (concL E cs).toArray).run P w = .ok ⟨E'.ρ M.blks.length, 0, none⟩ w' ∧ E'.σ = E.σ := by
  obtain ⟨h1, h2⟩ := hR.alloc ⟨t, true, cs⟩ rfl (concL E cs).toArray (newCells hR hl hs)
  refine ⟨_, _, h2, h1, ?_, rfl⟩
  simp only [newRow, Sem.run_bind, run_newObj, Result.andThen_ok, Sem.run_pure, Env.setB, if_true]
  rfl

def valOf (gv : Option Nat) (r : Nat) : Value := match gv with
  | none => .pointer (some ⟨r, 0, none⟩)
  | some n => .slice (some ⟨r, 0, none⟩) n n
def mkA (gv : Option Nat) (n : Nat) : AV := match gv with
  | none => .ptr n 0
  | some k => .sl n 0 k k
theorem mkA_conc (E : Env) (gv : Option Nat) (n : Nat) : (mkA gv n).conc E = valOf gv (E.ρ n) := by cases gv <;> rfl
theorem mkA_sc (gv : Option Nat) {n m k : Nat} (h : n < m) : (mkA gv n).sc m k = true := by cases gv <;> simpa [mkA, AV.sc] using h

/-- an operation that lays one new block: what it holds -/
def newK {R : Type} (P : Program) (tm : List AV) (M : Mem) (o : Oper) (k : Option Nat → TypeId → List AV → Option R) : Option R :=
  match o.op with
  | .box t x => bif (ev tm x).lv M.live then k none t (ev tm x).cells else none
  | .alloc t => match P.info? t with
    | some i => match i.zero with
      | some z => k none t (AV.lit z).cells
      | none => none
    | none => none
  | .buildSlice t len parts => match P.underlying t with
    | some (.slice el) => match P.info? el, sizeT P el with
      | some i, some n => match i.zero with
        | some z =>
          bif decide (len * n ≤ 16777216) && decide ((AV.lit z).cells.length = n) && decide (0 < n) && lvL M.live ((evP tm parts.toList).map (·.2)) then
            match fillA (fun i => some (i * n, n)) ((List.range (len * n)).map fun j => (AV.lit z).cells.getD (j % n) .bad) (evP tm parts.toList) with
            | some cs => bif lvL M.live cs then k (some len) el cs else none
            | none => none
          else none
        | none => none
      | _, _ => none
    | _ => none
  | _ => none

def memK {R : Type} (P : Program) (tm : List AV) (M : Mem) (o : Oper) (k : AV → Mem → Option R) : Option R :=
  match o.op with
  | .store t x v => match ev tm x with
    | .ptr b off => match M.blks[b]?, sizeT P t with
      | some (some X), some n =>
        bif X.own && (ev tm v).lv M.live && decide ((ev tm v).cells.length = n) && decide (off + n ≤ X.cells.length) && allOne (ev tm v).cells then
          k (.lit undef) (M.setB b { X with cells := X.cells.take off ++ (ev tm v).cells ++ X.cells.drop (off + n) })
        else none
      | _, _ => none
    | _ => none
  | _ => newK P tm M o fun gv t cs => k (mkA gv M.blks.length) (M.addB ⟨t, true, cs⟩)

theorem splice_sc {n m : Nat} {a b c : List AV} (ha : scL n m a = true) (hb : scL n m b = true) (hc : scL n m c = true) : scL n m (a ++ b ++ c) = true := by
  rw [scL_eq] at *; simp [List.all_append, ha, hb, hc]

theorem run_newRow (P : Program) (w : World) (t : TypeId) (cs : Array Value) : (newRow t cs).run P w = .ok ⟨w.heap.size, 0, none⟩ (w.alloc (.cells cs t)) := by
  simp only [newRow, Sem.run_bind, run_newObj, Result.andThen_ok, Sem.run_pure]
  rfl

def NewOk (P : Program) (tm : List AV) (M : Mem) (o : Oper) (gv : Option Nat) (t : TypeId) (cs : List AV) : Prop :=
  ∀ E (a : Act), RelL E M tm a.tmps.toList → scL M.blks.length M.vecs.length cs = true ∧ ∀ w0 w, RepM E w0 M w → (execOp a.eval o).run P w = .ok (.value (valOf gv w.heap.size)) (w.alloc (.cells (concL E cs).toArray t))

theorem newK_sound {R : Type} {P : Program} {tm : List AV} {M : Mem} {o : Oper} {k : Option Nat → TypeId → List AV → Option R} {r : R} (h : newK P tm M o k = some r) :
    ∃ gv t cs, k gv t cs = some r ∧ lvL M.live cs = true ∧ NewOk P tm M o gv t cs := by
  obtain ⟨dst, op, ty, pos, after, guard⟩ := o
  unfold newK at h
  simp only at h
  split at h
  · -- box
    rename_i t x
    simp only [cond_eq_ite] at h
    split at h
    · rename_i hl
      refine ⟨_, _, _, h, cells_lv hl, fun E a hT => ⟨cells_sc (hT.ev x).1, fun w0 w hR => ?_⟩⟩
      have hc : (a.eval x).cells = (concL E (ev tm x).cells).toArray := by
        rw [(hT.ev x).2 hl, ← conc_cells hR hl]
      simp only [execOp, Instr.box, newVar, hc, Sem.run_bind, run_newRow, Result.andThen_ok, Sem.run_pure, valOf]
    · cases h
  · -- alloc
    rename_i t
    split at h
    · rename_i i hi
      split at h
      · rename_i z hz
        refine ⟨_, _, _, h, cells_lv (a := .lit z) rfl, fun E a hT => ⟨cells_sc (a := .lit z) rfl, fun w0 w hR => ?_⟩⟩
        have hc : z.cells = (concL E (AV.lit z).cells).toArray := by
          have := conc_cells hR (a := .lit z) rfl
          rw [← this]; rfl
        simp only [execOp, Instr.alloc, zeroValue, typeInfo, Sem.run_bind, run_program, Result.andThen_ok, hi, Sem.run_pure, hz, newVar, hc, run_newRow, valOf]
      · cases h
    · cases h
  · -- buildSlice
    rename_i t len parts
    split at h
    · rename_i el hu
      split at h
      · rename_i i n hi hn
        split at h
        · rename_i z hz
          simp only [cond_eq_ite, Bool.and_eq_true, decide_eq_true_eq] at h
          split at h
          · rename_i hc
            obtain ⟨⟨⟨hbig, hzl⟩, hpos⟩, hl⟩ := hc
            split at h
            · rename_i cs hcs
              split at h
              · rename_i hlcs
                refine ⟨_, _, _, h, hlcs, fun E a hT => ?_⟩
                have hlp : ∀ p ∈ evP tm parts.toList, p.2.lv M.live = true := by
                  intro p hp
                  rw [lvL_eq, List.all_eq_true] at hl
                  exact hl p.2 (List.mem_map_of_mem hp)
                have hsp : ∀ p ∈ evP tm parts.toList, p.2.sc M.blks.length M.vecs.length = true := by
                  intro p hp
                  simp only [evP, List.mem_map] at hp
                  obtain ⟨q, _, rfl⟩ := hp
                  exact (hT.ev q.2).1
                have hsc : scL M.blks.length M.vecs.length cs = true := by
                  have key : ∀ (parts : List (Nat × AV)) (cells out : List AV), (∀ p ∈ parts, p.2.sc M.blks.length M.vecs.length = true) → scL M.blks.length M.vecs.length cells = true → fillA (fun i => some (i * n, n)) cells parts = some out → scL M.blks.length M.vecs.length out = true := by
                    intro parts
                    induction parts with
                    | nil => intro cells out _ h0 h; simp only [fillA, Option.some.injEq] at h; subst h; exact h0
                    | cons p rest ih =>
                      intro cells out hs h0 h
                      obtain ⟨i, v⟩ := p
                      simp only [fillA, cond_eq_ite] at h
                      split at h
                      · refine ih _ _ (fun p hp => hs p (List.mem_cons_of_mem _ hp)) ?_ h
                        have hv := cells_sc (hs (i, v) List.mem_cons_self)
                        refine splice_sc ?_ hv ?_
                        · rw [scL_eq, List.all_eq_true] at *; exact fun a ha => h0 a (List.mem_of_mem_take ha)
                        · rw [scL_eq, List.all_eq_true] at *; exact fun a ha => h0 a (List.mem_of_mem_drop ha)
                      · cases h
                  refine key _ _ cs hsp ?_ hcs
                  rw [scL_eq, List.all_eq_true]
                  intro a ha
                  simp only [List.mem_map, List.mem_range] at ha
                  obtain ⟨j, _, rfl⟩ := ha
                  have h0 := cells_sc (n := M.blks.length) (m := M.vecs.length) (a := .lit z) rfl
                  rw [scL_eq, List.all_eq_true] at h0
                  simp only [List.getD]
                  cases hj : (AV.lit z).cells[j % n]? with
                  | none => rfl
                  | some y => exact h0 y (List.mem_of_getElem? hj)
                refine ⟨hsc, fun w0 w hR => ?_⟩
                have hfill := fillA_sound hR (fun i => some (i * n, n)) _ _ cs hlp hcs
                have he : (parts.map fun (i, x) => (i, a.eval x)).toList = (evP tm parts.toList).map fun p => (p.1, p.2.conc E) := by
                  simp only [Array.toList_map, evP, List.map_map]
                  apply List.map_congr_left
                  intro p hp
                  simp only [Function.comp]
                  rw [(hT.ev p.2).2 (hlp (p.1, ev tm p.2) (by simp only [evP, List.mem_map]; exact ⟨p, hp, rfl⟩))]
                have hzc : z.cells = (concL E (AV.lit z).cells).toArray := by
                  have := conc_cells hR (a := .lit z) rfl
                  rw [← this]; rfl
                have hrow : ((Array.range (len * n)).map ((if len * n = 0 then (#[] : Array Value) else z.cells)[· % (if len * n = 0 then (#[] : Array Value) else z.cells).size]!)) = (concL E ((List.range (len * n)).map fun j => (AV.lit z).cells.getD (j % n) .bad)).toArray := by
                  by_cases h0 : len * n = 0
                  · rw [h0]; simp [concL]
                  · apply Array.ext'
                    simp only [if_neg h0, hzc, concL_eq, Array.toList_map, Array.toList_range, List.map_map]
                    apply List.map_congr_left
                    intro j _
                    simp only [Function.comp, List.size_toArray, List.length_map, hzl]
                    have hjn : j % n < (AV.lit z).cells.length := by rw [hzl]; exact Nat.mod_lt _ hpos
                    rw [getElem!_pos _ _ (by simpa using hjn)]
                    simp [List.getD, List.getElem?_eq_getElem hjn]
                simp only [execOp, Instr.buildSlice, Sem.run_bind, run_underlying hu, Result.andThen_ok, run_sizeOf hn]
                rw [if_neg (by omega)]
                by_cases h0 : len * n = 0
                · simp only [if_pos h0] at hrow
                  simp only [if_pos h0, Sem.run_bind, Sem.run_pure, Result.andThen_ok]
                  rw [he, hrow, hfill]
                  simp only [Sem.run_bind, run_newRow, Result.andThen_ok, Sem.run_pure, valOf]
                · simp only [if_neg h0] at hrow
                  simp only [if_neg h0, zeroValue, typeInfo, Sem.run_bind, run_program, Result.andThen_ok, hi, Sem.run_pure, hz]
                  rw [he, hrow, hfill]
                  simp only [Sem.run_bind, run_newRow, Result.andThen_ok, Sem.run_pure, valOf]
              · cases h
            · cases h
          · cases h
        · cases h
      · cases h
    · cases h
  · cases h

theorem memK_sound {R : Type} {P : Program} {tm : List AV} {M : Mem} {o : Oper} {k : AV → Mem → Option R} {r : R} (h : memK P tm M o k = some r) :
    ∃ z M', k z M' = some r ∧ MemOk P tm M o z M' := by
  unfold memK at h
  split at h
  · -- store
    rename_i t x v hop
    obtain ⟨dst, op, ty, pos, after, guard⟩ := o
    simp only at hop
    subst hop
    split at h
    · rename_i b off hx
      split at h
      · rename_i X n hX hn
        simp only [cond_eq_ite, Bool.and_eq_true, decide_eq_true_eq] at h
        split at h
        · rename_i hc
          obtain ⟨⟨⟨⟨hlo, hl⟩, hlen⟩, hoff⟩, h1⟩ := hc
          refine ⟨_, _, h, fun E a w0 w hT hR => ?_⟩
          have hxe := (hT.ev x).2 (by rw [hx]; simp only [AV.lv, live_even, aliveB, hX])
          rw [hx] at hxe
          obtain ⟨w', hw', hsz', hR'⟩ := storeCells_rep (P := P) (b := b) (off := off) (ev tm v).cells 0 M X w hR hX hlo (by omega) (allOne_mem h1) (cells_lv hl) (cells_sc (hT.ev v).1)
          simp only [Nat.add_zero, hlen] at hR'
          refine ⟨E, undef, w', ⟨Mem.setB_le hX _, Env.le.refl _ _ _⟩, RelS.lit _ _ _, hR', Nat.le_of_eq hsz'.symm, .inr ⟨?_, rfl⟩⟩
          have hc := conc_cells hR hl
          have hsz : (a.eval v).cells.size = n := by
            rw [(hT.ev v).2 hl, ← Array.length_toList, hc, concL_eq, List.length_map, hlen]
          have hcc : (a.eval v).cells.toList = concL E (ev tm v).cells := by rw [(hT.ev v).2 hl, hc]
          simp only [execOp, Instr.storeAt, hxe, AV.conc, Instr.sureAddr, Sem.run_bind, Sem.run_pure, Result.andThen_ok, storeVar, run_sizeOf hn, hsz, ne_eq, not_true_eq_false, if_false, hcc, hw']
        · cases h
      · cases h
    · cases h
  · obtain ⟨gv, t, cs, hk, hl, hn⟩ := newK_sound h
    refine ⟨_, _, hk, fun E a w0 w hT hR => ?_⟩
    obtain ⟨hsc, hrun⟩ := hn E a hT
    obtain ⟨h1, h2⟩ := hR.alloc ⟨t, true, cs⟩ rfl (concL E cs).toArray (newCells hR hl hsc)
    refine ⟨_, _, _, h2, ⟨mkA_sc gv (by simp [Mem.addB]), fun _ => rfl⟩, h1, by show w.heap.size ≤ (w.heap.push _).size; simp, .inl ?_⟩
    rw [hrun w0 w hR, mkA_conc]
    simp [Env.setB]

end Go.Sx

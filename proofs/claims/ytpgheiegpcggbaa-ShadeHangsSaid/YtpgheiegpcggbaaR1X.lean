/- What shade's functions compute, as specifications that do not branch. -/
import Derived.Test.YtpgheiegpcggbaaR1P
set_option linter.unusedVariables false
set_option linter.unusedSimpArgs false
namespace Go.Proofs.Ytpgheiegpcggbaa
open Go Go.Sx

def px (s t g : Int) (full : Bool) : Int := bif s == 1 then t else bif s == 2 then g else bif s == 3 then tmz g t else bif s == 4 then (bif full then 255 else t) else 0
def may (s : Int) : Bool := bif decide (s ≥ 1) then decide (s ≤ 4) else false
def asks (s : Int) : Bool := bif decide (s ≥ 1) then (bif decide (s ≤ 4) then s != 1 else false) else false
def pixelS : FSpec := ⟨fun args k => match args with
  | [.lit (.int .i64 s), .agg [.lit (.int .u8 t0), .lit (.int .u8 t1), .lit (.int .u8 t2), .lit (.int .u8 t3)], .agg [.lit (.int .u8 g0), .lit (.int .u8 g1), .lit (.int .u8 g2), .lit (.int .u8 g3), .lit (.bool full), .lit (.slice none 0 0), .lit (.slice none 0 0)]] =>
      k (col (px s t0 g0 full) (px s t1 g1 full) (px s t2 g2 full) (px s t3 g3 full))
  | _ => none⟩
def mayS : FSpec := ⟨fun args k => match args with
  | [.lit (.int .i64 s)] => k (.lit (.bool (may s)))
  | _ => none⟩
def asksS : FSpec := ⟨fun args k => match args with
  | [.lit (.int .i64 s)] => k (.lit (.bool (asks s)))
  | _ => none⟩

theorem pixel_ok : pixelS.Ok Try.prog 16 := by
  intro R args k r h
  simp only [pixelS] at h
  split at h
  · rename_i s t0 t1 t2 t3 g0 g1 g2 g3 full
    refine ⟨_, h, pureOk_of (n := 5) c0_sound mixed e16 ?_⟩
    have e : pureK c0 Try.prog 5 Try.f16 [.lit (.int .i64 s), .agg [u8 t0, u8 t1, u8 t2, u8 t3], .agg [u8 g0, u8 g1, u8 g2, u8 g3, .lit (.bool full), .lit (.slice none 0 0), .lit (.slice none 0 0)]] some =
      (bif s == 1 then some (col t0 t1 t2 t3) else bif s == 2 then some (col g0 g1 g2 g3) else bif s == 3 then some (col (tmz g0 t0) (tmz g1 t1) (tmz g2 t2) (tmz g3 t3))
        else bif s == 4 then (bif full then some (col 255 255 255 255) else some (col t0 t1 t2 t3)) else some (col 0 0 0 0)) := by kernel_rfl
    refine Eq.trans e ?_
    unfold px
    cases s == 1 <;> cases s == 2 <;> cases s == 3 <;> cases s == 4 <;> cases full <;> rfl
  · cases h
theorem rpixel_ok : pixelS.Ok Try.prog 17 := by
  intro R args k r h
  simp only [pixelS] at h
  split at h
  · rename_i s t0 t1 t2 t3 g0 g1 g2 g3 full
    refine ⟨_, h, pureOk_of (n := 5) c0_sound mixed e17 ?_⟩
    have e : pureK c0 Try.prog 5 Try.f17 [.lit (.int .i64 s), .agg [u8 t0, u8 t1, u8 t2, u8 t3], .agg [u8 g0, u8 g1, u8 g2, u8 g3, .lit (.bool full), .lit (.slice none 0 0), .lit (.slice none 0 0)]] some =
      (bif s == 1 then some (col t0 t1 t2 t3) else bif s == 2 then some (col g0 g1 g2 g3) else bif s == 3 then some (col (tmz g0 t0) (tmz g1 t1) (tmz g2 t2) (tmz g3 t3))
        else bif s == 4 then (bif full then some (col 255 255 255 255) else some (col t0 t1 t2 t3)) else some (col 0 0 0 0)) := by kernel_rfl
    refine Eq.trans e ?_
    unfold px
    cases s == 1 <;> cases s == 2 <;> cases s == 3 <;> cases s == 4 <;> cases full <;> rfl
  · cases h
theorem may_ok : mayS.Ok Try.prog 14 := by
  intro R args k r h
  simp only [mayS] at h
  split at h
  · rename_i s
    refine ⟨_, h, pureOk_of (n := 5) c0_sound mixed e14 ?_⟩
    have e : pureK c0 Try.prog 5 Try.f14 [.lit (.int .i64 s)] some = (bif decide (s ≥ 1) then some (.lit (.bool (decide (s ≤ 4)))) else some (.lit (.bool false))) := by kernel_rfl
    refine Eq.trans e ?_
    unfold may
    cases decide (s ≥ 1) <;> rfl
  · cases h
theorem asks_ok : asksS.Ok Try.prog 15 := by
  intro R args k r h
  simp only [asksS] at h
  split at h
  · rename_i s
    refine ⟨_, h, pureOk_of (n := 5) (CallSem.withBody_sound c0_sound mixed 5 e14 true) mixed e15 ?_⟩
    have e : pureK (c0.withBody Try.prog 5 14 Try.f14 true) Try.prog 5 Try.f15 [.lit (.int .i64 s)] some = (bif decide (s ≥ 1) then (bif decide (s ≤ 4) then some (.lit (.bool (s != 1))) else some (.lit (.bool false))) else some (.lit (.bool false))) := by kernel_rfl
    refine Eq.trans e ?_
    unfold asks
    cases decide (s ≥ 1) <;> cases decide (s ≤ 4) <;> rfl
  · cases h
noncomputable def cx : CallSem := ((((c0.withSpec 14 mayS).withSpec 15 asksS).withSpec 16 pixelS).withSpec 17 pixelS).withSpec 18 trueS
theorem cx_sound : cx.Sound Try.prog :=
  CallSem.withSpec_sound (CallSem.withSpec_sound (CallSem.withSpec_sound (CallSem.withSpec_sound (CallSem.withSpec_sound c0_sound may_ok) asks_ok) pixel_ok) rpixel_ok) awake_ok

end Go.Proofs.Ytpgheiegpcggbaa

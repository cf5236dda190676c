import Derived.Test.YtpgheiegpcggbaaSxN
import Derived.Test.YtpgheiegpcggbaaRows
import Derived.KernelRfl
set_option linter.unusedVariables false
set_option linter.unusedSimpArgs false
namespace Go.Proofs.Ytpgheiegpcggbaa
open Go Go.Sx

theorem mixed : Try.prog.follows .mixedOrders = true := by kernel_rfl

def W (n : Int) : Int := IntKind.i64.wrap n
def B (n : Int) : Int := IntKind.u8.wrap n
def u8 (n : Int) : AV := .lit (.int .u8 n)
def col (a b c d : Int) : AV := .agg [u8 a, u8 b, u8 c, u8 d]
def tmz (a b : Int) : Int := B (W (Int.tdiv (W (W (W a * W b) + 127)) 255))
def mnz (a b c d : Int) : Int := B (W (Int.tdiv (W (W (W (W (W a + W b) + W c) + W d) + 2)) 4))
def lpt (t : Int) : Int := if 256 < (if 0 > t then 0 else t) then 256 else (if 0 > t then 0 else t)
def lpz (a b t : Int) : Int := B (W (Int.tdiv (W (W (W (W (256 - lpt t) * W a) + W (lpt t * W b)) + 128)) 256))
def lpr (a b t : Int) : Int := B (W (Int.tdiv (W (W (W (W a * W (256 - lpt t)) + W (W b * lpt t)) + 128)) 256))

def timesS : FSpec := ⟨fun args k => match args with
  | [.agg [.lit (.int .u8 a0), .lit (.int .u8 a1), .lit (.int .u8 a2), .lit (.int .u8 a3)], .agg [.lit (.int .u8 b0), .lit (.int .u8 b1), .lit (.int .u8 b2), .lit (.int .u8 b3)]] => k (col (tmz a0 b0) (tmz a1 b1) (tmz a2 b2) (tmz a3 b3))
  | _ => none⟩
def meanS : FSpec := ⟨fun args k => match args with
  | [.agg [.lit (.int .u8 a0), .lit (.int .u8 a1), .lit (.int .u8 a2), .lit (.int .u8 a3)], .agg [.lit (.int .u8 b0), .lit (.int .u8 b1), .lit (.int .u8 b2), .lit (.int .u8 b3)],
     .agg [.lit (.int .u8 c0), .lit (.int .u8 c1), .lit (.int .u8 c2), .lit (.int .u8 c3)], .agg [.lit (.int .u8 d0), .lit (.int .u8 d1), .lit (.int .u8 d2), .lit (.int .u8 d3)]] => k (col (mnz a0 b0 c0 d0) (mnz a1 b1 c1 d1) (mnz a2 b2 c2 d2) (mnz a3 b3 c3 d3))
  | _ => none⟩
def lerpS : FSpec := ⟨fun args k => match args with
  | [.agg [.lit (.int .u8 a0), .lit (.int .u8 a1), .lit (.int .u8 a2), .lit (.int .u8 a3)], .agg [.lit (.int .u8 b0), .lit (.int .u8 b1), .lit (.int .u8 b2), .lit (.int .u8 b3)], .lit (.int .i64 t)] => k (col (lpz a0 b0 t) (lpz a1 b1 t) (lpz a2 b2 t) (lpz a3 b3 t))
  | _ => none⟩
def hueS : FSpec := ⟨fun args k => match args with
  | [.agg [.lit (.int .u8 a0), .lit (.int .u8 a1), .lit (.int .u8 a2), .lit (.int .u8 a3)], .agg [.lit (.int .u8 b0), .lit (.int .u8 b1), .lit (.int .u8 b2), .lit (.int .u8 b3)], .lit (.int .i64 t)] => k (col (lpr a0 b0 t) (lpr a1 b1 t) (lpr a2 b2 t) (lpr a3 b3 t))
  | _ => none⟩
def trueS : FSpec := ⟨fun args k => match args with
  | [] => k (.lit (.bool true))
  | _ => none⟩

theorem nilS : CallSem.nil.Sound Try.prog := CallSem.nil_sound _
theorem e27 : Enters Try.prog 27 Try.f27 := ⟨Try.func27, by kernel_rfl, by kernel_rfl⟩
theorem e19 : Enters Try.prog 19 Try.f19 := ⟨Try.func19, by kernel_rfl, by kernel_rfl⟩
theorem e25 : Enters Try.prog 25 Try.f25 := ⟨Try.func25, by kernel_rfl, by kernel_rfl⟩
theorem e26 : Enters Try.prog 26 Try.f26 := ⟨Try.func26, by kernel_rfl, by kernel_rfl⟩
theorem e23 : Enters Try.prog 23 Try.f23 := ⟨Try.func23, by kernel_rfl, by kernel_rfl⟩
theorem e24 : Enters Try.prog 24 Try.f24 := ⟨Try.func24, by kernel_rfl, by kernel_rfl⟩
theorem e14 : Enters Try.prog 14 Try.f14 := ⟨Try.func14, by kernel_rfl, by kernel_rfl⟩
theorem e15 : Enters Try.prog 15 Try.f15 := ⟨Try.func15, by kernel_rfl, by kernel_rfl⟩
theorem e16 : Enters Try.prog 16 Try.f16 := ⟨Try.func16, by kernel_rfl, by kernel_rfl⟩
theorem e17 : Enters Try.prog 17 Try.f17 := ⟨Try.func17, by kernel_rfl, by kernel_rfl⟩
theorem e18 : Enters Try.prog 18 Try.f18 := ⟨Try.func18, by kernel_rfl, by kernel_rfl⟩
theorem e20 : Enters Try.prog 20 Try.f20 := ⟨Try.func20, by kernel_rfl, by kernel_rfl⟩

theorem times_ok : timesS.Ok Try.prog 27 := by
  intro R args k r h
  simp only [timesS] at h
  split at h
  · exact ⟨_, h, pureOk_of (n := 5) nilS mixed e27 (by kernel_rfl)⟩
  · cases h
theorem rtimes_ok : timesS.Ok Try.prog 19 := by
  intro R args k r h
  simp only [timesS] at h
  split at h
  · exact ⟨_, h, pureOk_of (n := 5) nilS mixed e19 (by kernel_rfl)⟩
  · cases h
theorem mean_ok : meanS.Ok Try.prog 25 := by
  intro R args k r h
  simp only [meanS] at h
  split at h
  · exact ⟨_, h, pureOk_of (n := 5) nilS mixed e25 (by kernel_rfl)⟩
  · cases h
theorem rmean_ok : meanS.Ok Try.prog 26 := by
  intro R args k r h
  simp only [meanS] at h
  split at h
  · exact ⟨_, h, pureOk_of (n := 5) nilS mixed e26 (by kernel_rfl)⟩
  · cases h
theorem lerp_ok : lerpS.Ok Try.prog 23 := by
  intro R args k r h
  simp only [lerpS] at h
  split at h
  · exact ⟨_, h, pureOk_of (n := 5) nilS mixed e23 (by kernel_rfl)⟩
  · cases h
theorem hue_ok : hueS.Ok Try.prog 24 := by
  intro R args k r h
  simp only [hueS] at h
  split at h
  · exact ⟨_, h, pureOk_of (n := 5) nilS mixed e24 (by kernel_rfl)⟩
  · cases h

noncomputable def c0 : CallSem := (((((CallSem.nil.withSpec 27 timesS).withSpec 19 timesS).withSpec 25 meanS).withSpec 26 meanS).withSpec 23 lerpS).withSpec 24 hueS
theorem c0_sound : c0.Sound Try.prog :=
  CallSem.withSpec_sound (CallSem.withSpec_sound (CallSem.withSpec_sound (CallSem.withSpec_sound (CallSem.withSpec_sound (CallSem.withSpec_sound nilS times_ok) rtimes_ok) mean_ok) rmean_ok) lerp_ok) hue_ok
noncomputable def c1 : CallSem := (((c0.withBody Try.prog 5 14 Try.f14 true).withBody Try.prog 5 15 Try.f15 true).withBody Try.prog 5 16 Try.f16 true).withBody Try.prog 5 17 Try.f17 true
theorem c1_sound : c1.Sound Try.prog :=
  CallSem.withBody_sound (CallSem.withBody_sound (CallSem.withBody_sound (CallSem.withBody_sound c0_sound mixed 5 e14 true) mixed 5 e15 true) mixed 5 e16 true) mixed 5 e17 true

/-- what shade's document fixes -/
theorem awake_ok : trueS.Ok Try.prog 18 := by
  intro R args k r h
  simp only [trueS] at h
  split at h
  · exact ⟨_, h, pureOk_of (n := 5) c1_sound mixed e18 (by kernel_rfl)⟩
  · cases h
noncomputable def calls : CallSem := c1.withSpec 18 trueS
theorem calls_sound : calls.Sound Try.prog := CallSem.withSpec_sound c1_sound awake_ok

end Go.Proofs.Ytpgheiegpcggbaa

/- hue.From, told by what it is lent. -/
import Derived.Test.YtpgheiegpcggbaaR1F3
set_option linter.unusedVariables false
set_option linter.unusedSimpArgs false
namespace Go.Proofs.Ytpgheiegpcggbaa
open Go Go.Sx
set_option maxRecDepth 100000

def fromA (L : List AV) : List AV := bif decide (L.length % 4 = 0) then quads (L.map AV.getInt) else []
noncomputable def C21 : CallSem := CallSem.nil.withLoops (one 3 from_L)
theorem C21_sound : C21.Sound Try.prog := CallSem.withLoops_sound nilS _
theorem C21_loops : ∀ c, Try.f21.body = some c → LoopsOk Try.prog C21.loops c := one_ok nodes21 from_Lok
def from_M : MSpec where
  nils := [⟨0, 5, false, [.int .u8]⟩]
  run args M k := match args, M with
    | [.vec h0], ⟨[], [some ⟨el, false, [.int .u8], t0, own, hd, L⟩]⟩ => bif decide (h0 = 0) && decide (t0 = 0) && decide (L.length ≤ 65536) then
        k (.tup [.vec 1, bo (decide (L.length % 4 = 0))]) ⟨[], [some ⟨el, false, [.int .u8], 0, own, hd, L⟩, some ⟨23, true, c4, 1, true, true, fromA L⟩]⟩ else none
    | _, _ => none
theorem from_eq (el : TypeId) (own hd : Bool) (L : List AV) : fnK C21 Try.prog 2 Try.f21 [.vec 0] ⟨[], [some ⟨el, false, [.int .u8], 0, own, hd, L⟩]⟩ [⟨0, 23, true, c4⟩] =
    (bif (L.length : Int).tmod 4 != 0 then some (.tup [.vec 1, bo false], ⟨[], [some ⟨el, false, [.int .u8], 0, own, hd, L⟩, some ⟨23, true, c4, 1, true, true, []⟩]⟩) else
      bif true && decide (L.length % 4 = 0) && decide (L.length ≤ 65536) then some (.tup [.vec 1, bo true], ⟨[], [some ⟨el, false, [.int .u8], 0, own, hd, L⟩, some ⟨23, true, c4, 1, true, true, quads (L.map AV.getInt)⟩]⟩) else none) := by kernel_rfl
theorem tmod4 (n : Nat) : ((n : Int).tmod 4 != 0) = !decide (n % 4 = 0) := by
  rw [Int.tmod_eq_emod_of_nonneg (by omega)]
  by_cases h : n % 4 = 0
  · have : ((n : Int) % 4) = 0 := by omega
    simp [h, this]
  · have : ((n : Int) % 4) ≠ 0 := by omega
    simp [h, this]
theorem from_Mok : from_M.Ok Try.prog 21 := by
  intro R args M k r h
  simp only [from_M] at h
  split at h
  · rename_i h0 el t0 own hd L
    simp only [cond_eq_ite, Bool.and_eq_true, decide_eq_true_eq] at h
    split at h
    · rename_i hc
      obtain ⟨⟨rfl, rfl⟩, hn⟩ := hc
      refine ⟨_, _, h, fn_ok (C := C21) (n := 2) (ts := [⟨0, 23, true, c4⟩]) C21_sound mixed e21 C21_loops ?_ rfl⟩
      rw [from_eq, tmod4, decide_eq_true hn]
      unfold fromA
      cases decide (L.length % 4 = 0) <;> rfl
    · cases h
  · cases h
end Go.Proofs.Ytpgheiegpcggbaa

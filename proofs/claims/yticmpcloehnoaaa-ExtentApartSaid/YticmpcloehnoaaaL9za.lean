/- ExtentApart: its loop, its tests (chapter 9). -/
import Derived.Test.YticmpcloehnoaaaL9Z
set_option linter.unusedVariables false
set_option linter.unusedSimpArgs false
namespace Go.Proofs.Yticmpcloehnoaaa
open Go Go.Sx Go.Fx
set_option maxRecDepth 100000
set_option linter.unusedVariables false
set_option linter.unusedSimpArgs false
def finM (sz bk : List AV) : Nat → Sg → Sg
  | 0, s => s
  | f + 1, s => finM sz bk f (goM sz bk s)
abbrev SMg (n : Int) (el1 : TypeId) (o1 h1 : Bool) (sz : List AV) (el2 : TypeId) (o2 h2 : Bool) (bk : List AV) (z ow hO hd : Bool) (f : Nat → Value) (s : Sg) : St := SM n el1 o1 h1 sz el2 o2 h2 bk z ow hO hd f s.O s.L s.u (s.j : Nat)
theorem finM_j (sz bk : List AV) : ∀ (f : Nat) (s : Sg), (finM sz bk f s).j = s.j + f
  | 0, s => rfl
  | f + 1, s => by rw [finM, finM_j sz bk f, goM_j]; omega
theorem loopM {N : Nat} (h0 : 0 < N) (hN : N ≤ 65535) (el1 : TypeId) (o1 h1 : Bool) (sz : List AV) (hsz : sz.length ≤ 65536) (el2 : TypeId) (o2 h2 : Bool) (bk : List AV) (z ow hO hd : Bool) (f : Nat → Value) (s : Sg) (hs : InvM N s ∧ s.j ≤ sz.length) :
    CodeOkN 1 4 Try.prog (.loop LM) (SMg N el1 o1 h1 sz el2 o2 h2 bk z ow hO hd f s) (.exit 0) (SMg N el1 o1 h1 sz el2 o2 h2 bk z ow hO hd f (finM sz bk (sz.length - s.j) s)) := by
  refine loop_ok (fun s : Sg => SMg N el1 o1 h1 sz el2 o2 h2 bk z ow hO hd f s) (fun s => (.exit 0, SMg N el1 o1 h1 sz el2 o2 h2 bk z ow hO hd f (finM sz bk (sz.length - s.j) s)))
    (fun s => if s.j < sz.length then some (goM sz bk s) else none) (fun s => sz.length - s.j) (fun s => InvM N s ∧ s.j ≤ sz.length) ?_ ?_ s hs
  · rintro s ⟨hi, h1'⟩ hnx
    refine ⟨fun e => (by cases e), ?_⟩
    have hj : s.j = sz.length := by
      by_cases h : s.j < sz.length
      · simp [h] at hnx
      · omega
    show CodeOkN 1 4 Try.prog LM (SMg N el1 o1 h1 sz el2 o2 h2 bk z ow hO hd f s) (.exit 0) (SMg N el1 o1 h1 sz el2 o2 h2 bk z ow hO hd f (finM sz bk (sz.length - s.j) s))
    rw [hj, Nat.sub_self]
    refine turn_ok (n := 1) cAi_sound mixed tabI_LM rfl rfl ?_
    rw [rawM, decide_eq_false (by omega), cond_false]
    rfl
  · rintro s s' ⟨hi, h1'⟩ hnx
    by_cases h2' : s.j < sz.length
    · rw [if_pos h2'] at hnx
      simp only [Option.some.injEq] at hnx
      subst hnx
      have hgj := goM_j sz bk s
      refine ⟨⟨inv_go hN hi (by omega), by omega⟩, by omega, ?_, turn_ok (n := 1) cAi_sound mixed tabI_LM rfl rfl ?_⟩
      · show (_, SMg N el1 o1 h1 sz el2 o2 h2 bk z ow hO hd f (finM sz bk (sz.length - (goM sz bk s).j) (goM sz bk s))) = _
        rw [hgj, show sz.length - s.j = (sz.length - (s.j + 1)) + 1 by omega]; rfl
      · rw [rawM, decide_eq_true (by omega), cond_true, treeM_ok h0 hN hi h2' hsz, wi_s (by omega) (by omega)]
        have : ((s.j : Nat) : Int) + 1 = ((goM sz bk s).j : Nat) := by rw [hgj]; omega
        rw [this]
        rfl
    · rw [if_neg h2'] at hnx; cases hnx
noncomputable def invB (O L : List AV) (u : Int) : Bool := @decide (Sim O L ∧ u = (usedN L L.length : Nat)) (Classical.propDecidable _)
noncomputable def specM : LSpec where
  n := 163
  nils := [⟨1, 3, false, cI1⟩, ⟨2, 4, false, cB⟩]
  keep := kM
  touch := tM
  run kv M q := match kv, M with
    | [.lit (.int .i64 n), .vec g1, .vec g2, .lit (.bool z), .ptr b q', .vec g3, .lit (.int .i64 u), .lit (.int .i64 i)], ⟨[some ⟨bt, ow, [.vec g4]⟩], [some ⟨el1, false, sh1, t1, o1, h1, sz⟩, some ⟨el2, false, sh2, t2, o2, h2, bk⟩, some ⟨el3, false, sh3, t3, true, hO, O⟩, some ⟨el4, false, sh4, t4, true, hd, L⟩]⟩ =>
      bif decide (g1 = 0) && decide (g2 = 1) && decide (b = 0) && decide (q' = 0) && decide (g3 = 2) && decide (bt = 51) && decide (g4 = 3) && decide (sh1 = cI1) && decide (t1 = 0) && decide (sh2 = cB) && decide (t2 = 1) && decide (el3 = 3) && decide (sh3 = cI1) && decide (t3 = 2) && decide (el4 = 4) && decide (sh4 = cB) && decide (t4 = 3) && decide (i = 0) &&
        (decide (n = (L.length : Int)) && decide (0 < L.length) && decide (L.length ≤ 65535) && decide (sz.length ≤ 65536) && invB O L u) then
        q (.exit 0) [i64 n, .vec 0, .vec 1, bv z, .ptr 0 0, .vec 2, i64 (finM sz bk sz.length ⟨O, L, u, 0⟩).u, i64 ((finM sz bk sz.length ⟨O, L, u, 0⟩).j : Nat)]
          ⟨[some ⟨51, ow, [.vec 3]⟩], [some ⟨el1, false, cI1, 0, o1, h1, sz⟩, some ⟨el2, false, cB, 1, o2, h2, bk⟩, some ⟨3, false, cI1, 2, true, hO, (finM sz bk sz.length ⟨O, L, u, 0⟩).O⟩, some ⟨4, false, cB, 3, true, hd, (finM sz bk sz.length ⟨O, L, u, 0⟩).L⟩]⟩ else none
    | _, _ => none
theorem specM_ok : specM.Ok Try.prog (.loop LM) := by
  intro R kv M q r h
  simp only [specM] at h
  split at h
  · rename_i n g1 g2 z b q' g3 u i bt ow g4 el1 sh1 t1 o1 h1 sz el2 sh2 t2 o2 h2 bk el3 sh3 t3 hO O el4 sh4 t4 hd L
    simp only [cond_eq_ite, Bool.and_eq_true, decide_eq_true_eq] at h
    split at h
    · rename_i hc
      obtain ⟨⟨⟨⟨⟨⟨⟨⟨⟨⟨⟨⟨⟨⟨⟨⟨⟨⟨rfl, rfl⟩, rfl⟩, rfl⟩, rfl⟩, rfl⟩, rfl⟩, rfl⟩, rfl⟩, rfl⟩, rfl⟩, rfl⟩, rfl⟩, rfl⟩, rfl⟩, rfl⟩, rfl⟩, rfl⟩, ⟨⟨⟨rfl, hL0⟩, hL⟩, hsz⟩, hinv⟩ := hc
      obtain ⟨hs, hu⟩ := @of_decide_eq_true _ (Classical.propDecidable _) hinv
      refine ⟨_, _, _, h, fun f => ?_⟩
      exact CodeOkN.full (loopM hL0 hL el1 o1 h1 sz hsz el2 o2 h2 bk z ow hO hd f ⟨O, L, u, 0⟩ ⟨⟨hs, rfl, hu⟩, Nat.zero_le _⟩) rfl
    · cases h
  · cases h
noncomputable def tabAp : List (Nat × LSpec) := [(9, specM), (14, specS), (28, specO), (36, specZ)]
theorem tabAp_ok : ∀ c, Try.f4.body = some c → LoopsOk Try.prog (tabL tabAp) c :=
  tab_ok (cs := [.loop LM, .loop LS, .loop LO, .loop LZ]) (by kernel_rfl) (by kernel_rfl) ⟨⟨by kernel_rfl, specM_ok⟩, ⟨by kernel_rfl, specS_ok⟩, ⟨by kernel_rfl, specO_ok⟩, ⟨by kernel_rfl, specZ_ok⟩, trivial⟩
noncomputable def cAp : CallSem := (cX.withLoops (tabL tabAp)).withJoin
theorem cAp_sound : cAp.Sound Try.prog := CallSem.withJoin_sound (CallSem.withLoops_sound cX_sound _)
theorem cAp_loops : ∀ c, Try.f4.body = some c → LoopsOk Try.prog cAp.loops c := tabAp_ok
end Go.Proofs.Yticmpcloehnoaaa

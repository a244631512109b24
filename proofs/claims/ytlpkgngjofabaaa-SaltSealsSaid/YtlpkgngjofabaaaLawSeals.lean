/- SaltSeals: for every salt and password the law returns true: the program's seal is the document's (hash of the salt, a zero byte and the password, as hexadecimal signs). -/
import Derived.Test.YtlpkgngjofabaaaRows
import Derived.Test.YtlpkgngjofabaaaRSeal
import Derived.Test.YtlpkgngjofabaaaOne
import Derived.WalkKit
import Derived.ProofKit
import Derived.OpenShut
import Derived.ShutString
import Derived.ChangeOld
import Derived.Below
import Derived.SizedLaws
namespace Go.Proofs.Ytlpkgngjofabaaa.PSaltSeals
open Go.RowKit Go.Proofs.YtlpkgngjofabaaaW.PrintWords Go.Proofs.YtlpkgngjofabaaaW.PrintLast Go.Proofs.YtlpkgngjofabaaaW.PrintMore
set_option linter.unusedVariables false
set_option linter.unusedSimpArgs false
/-- The seal of two empty texts, spelled. -/
def theSeal : List UInt8 := [54, 101, 51, 52, 48, 98, 57, 99, 102, 102, 98, 51, 55, 97, 57, 56, 57, 99, 97, 53, 52, 52, 101, 54, 98, 98, 55, 56, 48, 97, 50, 99, 55, 56, 57, 48, 49, 100, 51, 102, 98, 51, 51, 55, 51, 56, 55, 54, 56, 53, 49, 49, 97, 51, 48, 54, 49, 55, 97, 102, 97, 48, 49, 100]
theorem seal_none (w : World) : Calls Try.prog 5 #[.string ⟨#[]⟩, .string ⟨#[]⟩] w fun e w' => e = .returned (.string ⟨theSeal.toArray⟩) ∧ Below w.heap.size w w' := by
  have := seal_calls ⟨#[]⟩ ⟨#[]⟩ (by decide) w
  rw [one_seal] at this
  exact this
theorem law_seals_long (s p : ByteArray) (hs : s.size ≤ 140737488351232) (hp : p.size ≤ 140737488351232) (h : 3000 < s.size + p.size) (w : World) :
    Calls Try.prog 3 #[.string s, .string p] w fun e w' => e = .returned (.bool true) ∧ Below w.heap.size w w' := by
  have d : decide ((3000 : Int) < (s.size : Int) + (p.size : Int)) = true := decide_eq_true (by omega)
  have h2 : (3000 : Int) < (s.size : Int) + (p.size : Int) := by omega
  go_enter Try.func3, Try.ntmps3
  go_wp2_with (go_at_call 5; refine (seal_none _).mono ?_; rintro e w1 ⟨rfl, hb1⟩; unfold theSeal)
  go_ret
  exact ⟨rfl, hb1⟩
theorem law_seals_short (s p : ByteArray) (h : s.size + p.size ≤ 3000) (w : World) :
    Calls Try.prog 3 #[.string s, .string p] w fun e w' => e = .returned (.bool true) ∧ Below w.heap.size w w' := by
  obtain ⟨R, hR⟩ : ∃ R, R = hexS (digest (s ++ ⟨#[0]⟩ ++ p)) := ⟨_, rfl⟩
  have c1 := fun W => seal_calls s p (by omega) W
  have c2 := fun W => rseal_calls s p (by omega) W
  rw [← hR] at c1 c2
  have C1 := Lib.hid c1
  have C2 := Lib.hid c2
  clear c1 c2 hR
  have d : decide ((3000 : Int) < (s.size : Int) + (p.size : Int)) = false := decide_eq_false (by omega)
  have b1 : s.size ≤ 3000 := by omega
  have b2 : p.size ≤ 3000 := by omega
  go_enter Try.func3, Try.ntmps3
  go_wp2_with fail
  refine (seal_none _).mono ?_
  rintro e w1 ⟨rfl, hb1⟩
  unfold theSeal
  go_wp2_with fail
  refine (C1.out _).mono ?_
  rintro e w2 ⟨rfl, hb2⟩
  go_wp2_with fail
  refine (C2.out _).mono ?_
  rintro e w3 ⟨rfl, hb3⟩
  go_wp2
  go_ret
  exact ⟨by simp, (hb1.trans (hb2.mono hb1.size)).trans (hb3.mono (Nat.le_trans hb1.size hb2.size))⟩
theorem law_seals (s p : ByteArray) (hs : s.size ≤ 140737488351232) (hp : p.size ≤ 140737488351232) (w : World) :
    Calls Try.prog 3 #[.string s, .string p] w fun e w' => e = .returned (.bool true) ∧ Below w.heap.size w w' := by
  by_cases h : s.size + p.size ≤ 3000
  · exact law_seals_short s p h w
  · exact law_seals_long s p hs hp (by omega) w
end Go.Proofs.Ytlpkgngjofabaaa.PSaltSeals
namespace Go.Proofs.Ytlpkgngjofabaaa.saltSeals
open Go.ChangeShapes Go.WideShapes Go.ChangeAt Go.RowKit
open Go.ChangeMaps (open_string shut_string)
set_option linter.unusedVariables false
theorem own : ownKnob Try.prog.godebug = none := by kernel_rfl
set_option maxRecDepth 100000 in
theorem lifted (os : Os) (started : os.Started) (H : Type) (enc : TypeId × Value → H) :
    ReturnsInHanded {} Try.checked os 3 .any (Rows.saltSealsSpec.pre6 enc Try.prog Try.f3 Rows.saltSealsRow.domain false) (Rows.saltSealsSpec.post enc Try.prog Try.f3 false true false false) := by
  refine returnsInHanded_of_change_sized (C := Try.checked) own started (by kernel_rfl) Try.func3
    (ChangeSpec.witness6 (enc := enc) (C := Try.checked) false ⟨#[], #[.string ByteArray.empty, .string ByteArray.empty], []⟩ 8 (by kernel_rfl) (by kernel_rfl) (by kernel_rfl) (by kernel_rfl)) ?_
  intro W base args ds gs before hval0 hW hcnd hsz0 _
  have hsz : (DataW.weightsEach Try.prog (Try.f3.params.toList ++ Rows.saltSealsSpec.plain.varTypes Try.prog) (ds ++ gs)).all (· ≤ reachBytes) = true := hsz0
  have hval : ∀ (j : Nat) t v, Try.f3.params[j]? = some t → args[j]? = some v → Value.okWide Try.prog W .any base t v := hval0
  have hW' := hW
  obtain ⟨p, q, hA0, hV, rfl, hfz, hnd⟩ := hW
  have hA : DataW.TrodAll enc Try.prog W 0 (fun _ => true) true Try.f3.params.toList args.toList ds p := hA0
  rw [Try.params3] at hA hval hsz
  obtain ⟨v0, vs0, d0, ds0, p0, q0, hargs, rfl, rfl, h0, r0⟩ := trodAll_cons hA
  obtain ⟨v1, vs1, d1, ds1, p1, q1, rfl, rfl, rfl, h1, r1⟩ := trodAll_cons r0
  obtain ⟨rfl, rfl, rfl⟩ := trodAll_nil r1
  obtain rfl : args = #[v0, v1] := by cases args; simp_all
  obtain ⟨rfl, rfl⟩ := trodVars_none hV
  obtain ⟨a0, rfl, rfl, rfl, y0⟩ := open_string Try.underlying9 (hval 0 9 v0 rfl rfl) h0
  have w0 : a0.size ≤ 140737488351232 := by
    have z := sized_string hsz (j := 0) (t := 9) rfl rfl
    rw [Array.length_toList] at z
    exact z
  obtain ⟨a1, rfl, rfl, rfl, y1⟩ := open_string Try.underlying9 (hval 1 9 v1 rfl rfl) h1
  have w1 : a1.size ≤ 140737488351232 := by
    have z := sized_string hsz (j := 1) (t := 9) rfl rfl
    rw [Array.length_toList] at z
    exact z
  clear hA0 hval0 hsz0 hsz
  refine (PSaltSeals.law_seals a0 a1 w0 w1 W).mono fun e W' ⟨he, bel⟩ => ?_
  subst he
  exact ⟨_, rfl, _, _, _, [], _, [], hW', trodAll_mk1 (shut_bool Try.underlying4 _), (trodAll_cons_mk (shut_string Try.underlying9 y0) (trodAll_cons_mk (shut_string Try.underlying9 y1) trodAll_mk0)), rfl, bel.frame _, fun h => by cases h⟩
theorem over : Rows.saltSealsRow.holds Try.pinned (OpenSpec.ofChange Rows.saltSealsSpec) :=
  OpenClaim.holds_of_wide 3 Try.f3 rfl rfl rfl rfl rfl rfl rfl ⟨rfl, rfl, rfl, rfl, rfl⟩ rfl rfl rfl rfl rfl (by kernel_rfl) Try.func3 (by kernel_rfl)
    (of_decide_eq_true (by kernel_rfl)) (by unfold Func.isWrapper; first | (rw [if_pos (by decide +kernel)]; kernel_rfl) | (rw [if_neg (by decide +kernel)]; exact ⟨rfl, rfl⟩))
    (fun os started H enc _ => lifted os started H enc)
theorem proved : Rows.SaltSealsSaid := over
#print axioms proved
end Go.Proofs.Ytlpkgngjofabaaa.saltSeals
namespace Go.Proofs.Ytlpkgngjofabaaa
/-- The row, under a short name, for the claim. -/
theorem saltSeals_holds : Rows.SaltSealsSaid := saltSeals.proved
end Go.Proofs.Ytlpkgngjofabaaa

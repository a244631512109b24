/- Walk of the reference's seal: it is the program's. -/
import Derived.Test.YtlpkgngjofabaaaRSum
namespace Go.Proofs.Ytlpkgngjofabaaa.PSaltSeals
open Go.RowKit Go.Proofs.YtlpkgngjofabaaaW.PrintWords Go.Proofs.YtlpkgngjofabaaaW.PrintLast Go.Proofs.YtlpkgngjofabaaaW.PrintMore
set_option linter.unusedVariables false
set_option linter.unusedSimpArgs false

set_option maxHeartbeats 2000000 in
set_option maxRecDepth 100000 in
theorem rseal_calls (s p : ByteArray) (hs : s.size + p.size ≤ 3500) (w : World) :
    Calls Try.prog 6 #[.string s, .string p] w fun e w' => e = .returned (.string (hexS (digest (s ++ ⟨#[0]⟩ ++ p)))) ∧ Below w.heap.size w w' := by
  obtain ⟨D, hD⟩ : ∃ D, D = digest (s ++ ⟨#[0]⟩ ++ p) := ⟨_, rfl⟩
  have hsum := fun W => rsum_calls (s ++ ⟨#[0]⟩ ++ p) (by simp [ByteArray.size_append]; show _ + 1 + _ ≤ _; omega) W
  have hDs : D.size = 32 := by rw [hD, digest_size]
  rw [← hD] at hsum ⊢
  have HS := Lib.hid hsum
  have HD := Lib.hid hDs
  clear hsum hDs hD
  have b1 : s.size ≤ 3500 := by omega
  have b2 : p.size ≤ 3500 := by omega
  have b3 : D.size ≤ 32 := by rw [HD.out]; exact Nat.le_refl _
  obtain ⟨i0, hi0, hz0, hz1, hz2⟩ := info_parts info5
  go_enter Try.func6, Try.ntmps6
  go_wp2_with (go_at_call 11; refine (HS.out _).mono ?_; rintro e w1 ⟨rfl, hb1⟩)
  have HB1 := Lib.hid hb1
  clear hb1
  go_loopw [7, 8] (fun v7 v8 wr => ∃ i : Nat, i ≤ D.size ∧ v8 = .int .i64 i ∧ Hid (wr.ownsRow w.heap.size 5 1 v7 (2 * i) (nums .u8 (hexL D i))) ∧ Hid (Below w.heap.size w wr)) (fun _ v8 _ => D.size - (intOf v8).toNat)
  case atStart => exact ⟨0, by omega, rfl, own_nil _ _ _ _, HB1⟩
  case round =>
    obtain ⟨i, hi, rfl, hown, hbl⟩ := hrel
    clear HB1
    by_cases hlt : i < D.size
    · obtain ⟨c, hc⟩ : ∃ c, c = bt D (i : Int) := ⟨_, rfl⟩
      have hcr := bt_range D (i : Int)
      have hcb := bt_at D (i : Int)
      rw [← hc] at hcr hcb
      rw [Int.toNat_natCast] at hcb
      have hcc := hcb hlt
      have HC := Lib.hid hc
      clear hc hcb
      obtain ⟨c0, c1⟩ := hcr
      have e1 := fun W => hexd_at (c / 16) (by omega) (by omega) W
      have e2 := fun W => hexd_at (c % 16) (by omega) (by omega) W
      have e3 : c.tdiv 16 = c / 16 := Int.tdiv_eq_ediv_of_nonneg c0
      have e4 : c.tmod 16 = c % 16 := Int.tmod_eq_emod_of_nonneg c0
      have e5 : IntKind.u8.wrap (c / 16) = c / 16 := by rw [IntKind.wrap_u8]; omega
      have q0 : (i : Int) < (D.size : Int) := by omega
      have d0 : decide ((i : Int) < (D.size : Int)) = true := decide_eq_true q0
      have d1 : decide (i < D.size) = true := decide_eq_true hlt
      have r0 : (0 : Int) ≤ (i : Int) := by omega
      go_wp2
      have hol := hexL_length D i
      have hBs : w.heap.size ≤ wr.heap.size := hbl.out.size
      have HOL := Lib.hid hol
      clear hol
      go_region_held3 (fun _ => True) (exact trivial) ((refine step_append_lies _ (by rfl) (.tmp 20) (.tmp 33) 31 (by rfl) w.heap.size 5 i0 (.int .u8 0) 1 1 Try.underlying31 hi0 hz0 hz1 hz2 rfl (by decide) u7 (2 * i) (nums .u8 (hexL D i)) (by rfl) (hown.out.drew.alloc _) ⟨wr.heap.size, 0, none⟩ 2 2 [.int .u8 (hexd (c / 16)), .int .u8 (hexd (c % 16))] (by rfl) rfl (news2 wr.drew _ _) (ones2 _ _) (by decide) (by unfold maxLen; omega) (by omega) (by simp; omega) (wr.heap.size + 1) (by simp) ?_; intro g cap w2 hown' hgrow hat hlt2))
      all_goals
        have hbl3 : Hid (Below w.heap.size w w2) := below_append2 (below_drew hbl : Hid _) hown.out.drew (by simpa using hBs) hgrow
        have hown3 : Hid (w2.ownsRow w.heap.size 5 1 (.slice (some ⟨g, 0, none⟩) (2 * i + 2) cap) (2 * (i + 1)) (nums .u8 (hexL D (i + 1)))) := by
          rw [hexL, ← HC.out, nums_append]; exact hown'
        clear hown' hgrow hown hbl hat hlt2
        go_wp2
        go_roundw
        case rel => exact ⟨i + 1, by omega, by go_num, hown3, hbl3⟩
        case measure => simp [intOf]; omega
    · have hi8' : i = D.size := by omega
      have hcv := own_string (src := 31) (dst := 9) Try.underlying31 Try.underlying5 Try.underlying9 hown.out
      have d0 : decide ((i : Int) < (D.size : Int)) = false := decide_eq_false (by omega)
      have d1 : decide (i < D.size) = false := decide_eq_false hlt
      have hfin : strOfNums (hexL D i) = hexS D := by rw [hi8']; rfl
      have HF := Lib.hid hfin
      clear hfin hi8'
      go_wp2
      go_ret
      exact ⟨congrArg (fun b => Ending.returned (Value.string b)) HF.out, hbl⟩
end Go.Proofs.Ytlpkgngjofabaaa.PSaltSeals

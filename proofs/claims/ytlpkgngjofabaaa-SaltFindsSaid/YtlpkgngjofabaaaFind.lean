/- Walk of the program's search among users. -/
import Derived.Test.YtlpkgngjofabaaaFSmall
namespace Go.Proofs.Ytlpkgngjofabaaa.PSaltSeals
open Go.RowKit Go.Proofs.YtlpkgngjofabaaaW.PrintWords Go.Proofs.YtlpkgngjofabaaaW.PrintLast Go.Proofs.YtlpkgngjofabaaaW.PrintMore
set_option linter.unusedVariables false
set_option linter.unusedSimpArgs false

set_option maxRecDepth 100000 in
theorem named_calls (a b c nm : ByteArray) (g : Nat) (w : World) (hc : w.cell? ⟨g, 0, none⟩ = some (.string nm)) :
    Calls Try.prog 13 #[.agg #[.string a, .string b, .string c], .pointer (some ⟨g, 0, none⟩)] w fun e w' => e = .returned (.bool (a.toList == nm.toList)) ∧ Below w.heap.size w w' := by
  have hlt : g < w.heap.size := World.block_lt_of_cell? w _ hc
  go_enter Try.func13, Try.ntmps13
  go_wp2
  go_ret
  exact ⟨rfl, (Below.refl _ _).alloc (Nat.le_refl _) _⟩

def hasName (nm : ByteArray) (u : S28) : Bool := u.f0.toList == nm.toList
theorem findIdx_some {l : List S28} {nm : ByteArray} {i : Nat} (h : i < l.length) (hp : hasName nm (rd_T28 l i) = true) (hn : ∀ j : Nat, j < i → hasName nm (rd_T28 l j) = false) : l.findIdx? (hasName nm) = some i := by
  rw [List.findIdx?_eq_some_iff_getElem]
  have e : ∀ j (hj : j < l.length), rd_T28 l (j : Int) = l[j] := by
    intro j hj; unfold rd_T28; simp [List.getD_eq_getElem?_getD, hj]
  refine ⟨h, by rw [← e i h]; exact hp, fun j hj => ?_⟩
  rw [← e j (by omega), hn j hj]; simp
theorem findIdx_none {l : List S28} {nm : ByteArray} (hn : ∀ j : Nat, j < l.length → hasName nm (rd_T28 l j) = false) : l.findIdx? (hasName nm) = none := by
  rw [List.findIdx?_eq_none_iff]
  intro x hx
  obtain ⟨j, hj, rfl⟩ := List.mem_iff_getElem.1 hx
  have := hn j hj
  unfold rd_T28 at this
  simpa [List.getD_eq_getElem?_getD, hj] using this

def foundAt (l : List S28) (nm : ByteArray) : Int := match l.findIdx? (hasName nm) with | none => -1 | some i => (i : Int)

set_option maxHeartbeats 1000000 in
set_option maxRecDepth 100000 in
theorem index_calls (A0 : Option Addr) (c0 : Nat) (l0 : List S28) (nm : ByteArray) (g : Nat) (w : World) (hr0 : Kd.C k28 w A0 l0.length l0) (hc0 : l0.length ≤ c0) (hm : l0.length ≤ 9223372036854775807) (hc : w.cell? ⟨g, 0, none⟩ = some (.string nm)) :
    Calls Try.prog 12 #[.slice A0 l0.length c0, .func (.func 13) #[] #[.pointer (some ⟨g, 0, none⟩)]] w fun e w' => e = .returned (.int .i64 (foundAt l0 nm)) ∧ Below w.heap.size w w' := by
  have HR := Lib.hid hr0
  have HC := Lib.hid hc
  have hlt : g < w.heap.size := World.block_lt_of_cell? w _ hc
  clear hr0 hc
  go_enter Try.func12, Try.ntmps12
  go_wp2
  go_loopw [8] (fun v8 wr => ∃ i : Nat, i ≤ l0.length ∧ v8 = .int .i64 i ∧ Hid (∀ j : Nat, j < i → hasName nm (rd_T28 l0 j) = false) ∧ Hid (Below w.heap.size w wr)) (fun v8 _ => l0.length - (intOf v8).toNat)
  case atStart => exact ⟨0, by omega, rfl, fun j hj => by omega, Below.refl _ _⟩
  case round =>
    obtain ⟨i, hi, rfl, hn, hbl⟩ := hrel
    by_cases hil : i < l0.length
    · obtain ⟨ad, rfl, x0, x1, x2⟩ := at_T28 (Kd.C_below HR.out hbl.out) (i : Int) (by omega) (by omega)
      have q0 : (i : Int) < (l0.length : Int) := by omega
      have p0 : (0 : Int) ≤ (i : Int) := by omega
      have d0 : decide ((i : Int) < (l0.length : Int)) = true := decide_eq_true q0
      have d1 : decide (i < l0.length) = true := decide_eq_true hil
      rw [Int.toNat_natCast] at x0 x1 x2
      obtain ⟨u, hu⟩ : ∃ u, u = rd_T28 l0 (i : Int) := ⟨_, rfl⟩
      rw [← hu] at x0 x1 x2
      have hcx : wr.cell? ⟨g, 0, none⟩ = some (.string nm) := (hbl.out.cell (p := ⟨g, 0, none⟩) hlt).trans HC.out
      have HU := Lib.hid hu
      clear hu
      by_cases hp : hasName nm u = true
      · have hf : foundAt l0 nm = i := by unfold foundAt; rw [findIdx_some hil (by rw [← HU.out]; exact hp) hn.out]
        have HF := Lib.hid hf
        clear hf
        have hp' : (u.f0.toList == nm.toList) = true := hp
        go_wp2_with (go_at_call 13; refine (named_calls _ _ _ nm g _ hcx).mono ?_; rintro e w1 ⟨rfl, hb1⟩)
        go_ret
        exact ⟨by first | (rw [HF.out]; done) | (rw [HF.out]; rfl), hbl.out.trans (hb1.mono hbl.out.size)⟩
      · have hp' : (u.f0.toList == nm.toList) = false := by simpa [hasName] using hp
        go_wp2_with (go_at_call 13; refine (named_calls _ _ _ nm g _ hcx).mono ?_; rintro e w1 ⟨rfl, hb1⟩)
        go_roundw
        case rel => exact ⟨i + 1, by omega, by go_num, fun j hj => by
          by_cases hji : j = i
          · rw [hji, ← HU.out]; simpa using hp
          · exact hn.out j (by omega), hbl.out.trans (hb1.mono hbl.out.size)⟩
        case measure => simp [intOf]; omega
    · have hf : foundAt l0 nm = -1 := by unfold foundAt; rw [findIdx_none (fun j hj => hn.out j (by omega))]
      have HF := Lib.hid hf
      clear hf
      have d0 : decide ((i : Int) < (l0.length : Int)) = false := decide_eq_false (by omega)
      have d1 : decide (i < l0.length) = false := decide_eq_false hil
      go_wp2
      go_ret
      exact ⟨by first | (rw [HF.out]; done) | (rw [HF.out]; rfl), hbl⟩
end Go.Proofs.Ytlpkgngjofabaaa.PSaltSeals

/- The reference's small walks: the two tables, the turn; and that its words are the program's. -/
import Derived.Test.YtlpkgngjofabaaaRDefs
import Derived.Laws.BitsAllLaws
namespace Go.Proofs.Ytlpkgngjofabaaa.PSaltSeals
open Go.RowKit Go.Proofs.YtlpkgngjofabaaaW.PrintWords Go.Proofs.YtlpkgngjofabaaaW.PrintLast Go.Proofs.YtlpkgngjofabaaaW.PrintMore
set_option linter.unusedVariables false
set_option linter.unusedSimpArgs false

theorem table8_calls (w : World) : Calls Try.prog 16 #[.int .i64 8, .int .i64 2] w fun e w' => ∃ g cap, e = .returned (.slice (some ⟨g, 0, none⟩) 8 cap) ∧ w.heap.size ≤ g ∧ Hid (PRow w' g 36 H0) ∧ Hid (Below w.heap.size w w') := by
  obtain ⟨k, hk⟩ := table8.rounds
  refine (chancelref10_Table.calls k 8 2 H0 w hk).mono ?_
  rintro e w' ⟨v, rfl, hR, hb⟩
  obtain ⟨g, cap, rfl, hg, hp⟩ := PRow.of_R hR (by decide)
  exact ⟨g, cap, rfl, hg, hp, hb⟩
theorem table64_calls (w : World) : Calls Try.prog 16 #[.int .i64 64, .int .i64 3] w fun e w' => ∃ g cap, e = .returned (.slice (some ⟨g, 0, none⟩) 64 cap) ∧ w.heap.size ≤ g ∧ Hid (PRow w' g 36 K64) ∧ Hid (Below w.heap.size w w') := by
  obtain ⟨k, hk⟩ := table64.rounds
  refine (chancelref10_Table.calls k 64 3 K64 w hk).mono ?_
  rintro e w' ⟨v, rfl, hR, hb⟩
  obtain ⟨g, cap, rfl, hg, hp⟩ := PRow.of_R hR (by decide)
  exact ⟨g, cap, rfl, hg, hp, hb⟩

theorem bits_or_comm (k : IntKind) (x y : Int) : Go.bits .or k x y = Go.bits .or k y x := by
  unfold Go.bits; simp only [BitVec.or_comm]
set_option maxRecDepth 100000 in
theorem rturn_calls (x n : Int) (hn0 : 0 ≤ n) (hn1 : n ≤ 32) (w : World) :
    Calls Try.prog 17 #[.int .u32 x, .int .i64 n] w fun e w' => e = .returned (.int .u32 (rotr x n)) ∧ ∃ m, w' = w.drewN m := by
  have e : Go.bits .or .u32 (x / 2 ^ n.toNat) (IntKind.u32.wrap (x * 2 ^ (32 - n).toNat)) = rotr x n := by unfold rotr; rw [bits_or_comm]
  have E := Lib.hid e
  clear e
  have h1 : (0 : Int) ≤ 32 - n := by omega
  have h2 : 32 - n ≤ 32 := by omega
  go_enter Try.func17, Try.ntmps17
  go_wp2
  go_quiet (fail)
  go_wp2
  go_ret
  exact ⟨congrArg (fun v => Ending.returned (Value.int .u32 v)) E.out, nq, rfl⟩
theorem rturn_any (x n : Int) (w : World) (h : okN n = true) : Calls Try.prog 17 #[.int .u32 x, .int .i64 n] w fun e w' => e = .returned (.int .u32 (rotr x n)) ∧ ∃ m, w' = w.drewN m := by
  have : 0 ≤ n ∧ n ≤ 32 := by
    simp only [okN, Bool.or_eq_true, beq_iff_eq] at h; omega
  exact rturn_calls x n this.1 this.2 w

/-- What the bits of two words come to, as a word of 32 bits. -/
theorem bits_bv (op : BinOp) (x y : Int) : Go.bits op .u32 x y = (((match op with | .and => BitVec.ofInt 32 x &&& BitVec.ofInt 32 y | .or => BitVec.ofInt 32 x ||| BitVec.ofInt 32 y | .xor => BitVec.ofInt 32 x ^^^ BitVec.ofInt 32 y | _ => BitVec.ofInt 32 x &&& ~~~(BitVec.ofInt 32 y)).toNat : Nat) : Int) := by
  unfold Go.bits
  rw [IntKind.wrap_u32]
  refine Int.emod_eq_of_lt (by omega) ?_
  have := (match op with | .and => BitVec.ofInt 32 x &&& BitVec.ofInt 32 y | .or => BitVec.ofInt 32 x ||| BitVec.ofInt 32 y | .xor => BitVec.ofInt 32 x ^^^ BitVec.ofInt 32 y | _ => BitVec.ofInt 32 x &&& ~~~(BitVec.ofInt 32 y)).isLt
  show ((_ : Nat) : Int) < _
  simp only [IntKind.bits]
  omega
theorem ofInt_toNat (b : BitVec 32) : BitVec.ofInt 32 (b.toNat : Int) = b := by
  apply BitVec.eq_of_toNat_eq
  rw [BitVec.toNat_ofInt]
  have := b.isLt
  omega
theorem max_ofInt : BitVec.ofInt 32 IntKind.u32.max = BitVec.allOnes 32 := by decide
/-- The program's choice of bits is the reference's. -/
theorem choose_eq (e f g : Int) : Go.bits .xor .u32 (Go.bits .and .u32 e f) (Go.bits .and .u32 (Go.bits .xor .u32 IntKind.u32.max e) g) = Go.bits .or .u32 (Go.bits .and .u32 e f) (Go.bits .and .u32 (Go.bits .xor .u32 IntKind.u32.max e) g) := by
  simp only [bits_bv, ofInt_toNat, max_ofInt, BitVec.allOnes_xor]
  congr 2
  generalize BitVec.ofInt 32 e = E
  generalize BitVec.ofInt 32 f = F
  generalize BitVec.ofInt 32 g = G
  ext i hi
  simp
  cases E[i] <;> cases F[i] <;> cases G[i] <;> simp [hi]
theorem most_eq (a b c : Int) : Go.bits .xor .u32 (Go.bits .xor .u32 (Go.bits .and .u32 a b) (Go.bits .and .u32 a c)) (Go.bits .and .u32 b c) = Go.bits .or .u32 (Go.bits .or .u32 (Go.bits .and .u32 a b) (Go.bits .and .u32 a c)) (Go.bits .and .u32 b c) := by
  simp only [bits_bv, ofInt_toNat]
  congr 2
  generalize BitVec.ofInt 32 a = A
  generalize BitVec.ofInt 32 b = B
  generalize BitVec.ofInt 32 c = C
  ext i hi
  simp
  cases A[i] <;> cases B[i] <;> cases C[i] <;> simp
theorem or_join (i : Nat) (hi : i ≤ 32) (x y : Int) (h0 : 0 ≤ x) (h1 : x < 4294967296) (h2 : x % 2 ^ i = 0) (h3 : 0 ≤ y) (h4 : y < 2 ^ i) : Go.bits .or .u32 x y = x + y :=
  bits_join .u32 32 (by decide) (fun n a b => by rw [IntKind.wrap_u32]; omega) i x y h0 h2 (by omega) h3 h4 (Int.lt_of_lt_of_le h4 (by
    have : ∀ j : Nat, j ≤ 32 → (2 : Int) ^ j ≤ 2 ^ 32 := by decide
    exact this i hi))
theorem wacc4 (b : ByteArray) (t : Nat) : wacc b t 4 = bt b (4 * (t : Int)) * 16777216 + bt b (4 * (t : Int) + 1) * 65536 + bt b (4 * (t : Int) + 2) * 256 + bt b (4 * (t : Int) + 3) := by
  have h0 := bt_range b (4 * (t : Int) + ((0 : Nat) : Int))
  have h1 := bt_range b (4 * (t : Int) + ((1 : Nat) : Int))
  have h2 := bt_range b (4 * (t : Int) + ((2 : Nat) : Int))
  have h3 := bt_range b (4 * (t : Int) + ((3 : Nat) : Int))
  have a1 : wacc b t 1 = bt b (4 * (t : Int) + ((0 : Nat) : Int)) := by
    rw [wacc, wacc, or_join 8 (by omega) _ _ (by omega) (by omega) (by omega) (by omega) (by omega)]; omega
  have a2 : wacc b t 2 = bt b (4 * (t : Int) + ((0 : Nat) : Int)) * 256 + bt b (4 * (t : Int) + ((1 : Nat) : Int)) := by
    rw [wacc, a1, or_join 8 (by omega) _ _ (by omega) (by omega) (by omega) (by omega) (by omega)]; omega
  have a3 : wacc b t 3 = bt b (4 * (t : Int) + ((0 : Nat) : Int)) * 65536 + bt b (4 * (t : Int) + ((1 : Nat) : Int)) * 256 + bt b (4 * (t : Int) + ((2 : Nat) : Int)) := by
    rw [wacc, a2, or_join 8 (by omega) _ _ (by omega) (by omega) (by omega) (by omega) (by omega)]; omega
  rw [wacc, a3, or_join 8 (by omega) _ _ (by omega) (by omega) (by omega) (by omega) (by omega)]
  simp only [Int.natCast_zero, Int.add_zero] at *
  show _ = bt b (4 * (t : Int)) * 16777216 + bt b (4 * (t : Int) + ((1 : Nat) : Int)) * 65536 + bt b (4 * (t : Int) + ((2 : Nat) : Int)) * 256 + bt b (4 * (t : Int) + ((3 : Nat) : Int))
  omega
/-- Four bytes as a word, in the reference's way. -/
theorem rword_eq (x y z u : Int) (hx : 0 ≤ x ∧ x ≤ 255) (hy : 0 ≤ y ∧ y ≤ 255) (hz : 0 ≤ z ∧ z ≤ 255) (hu : 0 ≤ u ∧ u ≤ 255) :
    Go.bits .or .u32 (Go.bits .or .u32 (Go.bits .or .u32 (x * 16777216) (y * 65536)) (z * 256)) u = x * 16777216 + y * 65536 + z * 256 + u := by
  rw [or_join 24 (by omega) (x * 16777216) (y * 65536) (by omega) (by omega) (by omega) (by omega) (by omega), or_join 16 (by omega) _ (z * 256) (by omega) (by omega) (by omega) (by omega) (by omega), or_join 8 (by omega) _ u (by omega) (by omega) (by omega) (by omega) (by omega)]
end Go.Proofs.Ytlpkgngjofabaaa.PSaltSeals

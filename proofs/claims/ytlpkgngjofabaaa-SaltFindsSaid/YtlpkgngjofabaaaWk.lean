/- Walk of k: round t's number. -/
import Derived.Test.YtlpkgngjofabaaaTabC
namespace Go.Proofs.Ytlpkgngjofabaaa.PSaltSeals
open Go.RowKit Go.Proofs.YtlpkgngjofabaaaW.PrintWords Go.Proofs.YtlpkgngjofabaaaW.PrintLast Go.Proofs.YtlpkgngjofabaaaW.PrintMore
set_option linter.unusedVariables false
set_option linter.unusedSimpArgs false

/-- An array of numbers as a value: its element. -/
theorem run_index_nums (t : TypeId) (n : Nat) (cs : Array Value) (i : Int) (v : Value) (h : Try.prog.underlying t = some (.array n 36)) (h0 : 0 ≤ i) (h1 : i < n) (hv : cs[i.toNat]? = some v) (w : World) :
    (Instr.index t (.agg cs) (.int .i64 i)).run Try.prog w = .ok v w := by
  have hs : (sizeOf 36).run Try.prog w = .ok 1 w := by kernel_rfl
  have hp : (part 36 cs i.toNat).run Try.prog w = .ok v w := run_part_plain w (by kernel_rfl) hv
  simp only [Instr.index, asIntOf, Sem.run_bind, run_underlying h, Result.andThen, Sem.run_pure, h0, h1, and_self, if_true, hs, Nat.mul_one, hp]

def kAgg : Array Value := (nums .u32 K64).toArray
theorem kAgg_at (i : Int) (h0 : 0 ≤ i) (h1 : i < 64) : kAgg[i.toNat]? = some (.int .u32 (rd K64 i)) := by
  obtain ⟨n, rfl⟩ := Int.eq_ofNat_of_zero_le h0
  have hn : n < 64 := by omega
  unfold kAgg rd nums
  rw [List.getElem?_toArray, List.getElem?_map, Int.toNat_natCast]
  rw [List.getElem?_eq_getElem (by show n < 64; exact hn)]
  simp [List.getD_eq_getElem?_getD, show n < K64.length from hn]

set_option maxHeartbeats 400000 in
set_option maxRecDepth 100000 in
theorem k_calls (t : Int) (h0 : 0 ≤ t) (h1 : t < 64) (w : World) :
    Calls Try.prog 19 #[.int .i64 t] w fun e w' => e = .returned (.int .u32 (rd K64 t)) ∧ w' = w := by
  have hx := run_index_nums 46 64 kAgg t _ Try.underlying46 h0 h1 (kAgg_at t h0 h1) w
  rw [show kAgg = _ from by unfold kAgg K64 nums; rfl] at hx
  simp only [List.map_cons, List.map_nil] at hx
  go_enter Try.func19, Try.ntmps19
  go_wp2
  go_ret
  exact ⟨rfl, rfl⟩
end Go.Proofs.Ytlpkgngjofabaaa.PSaltSeals

/- The words of the hash's walks: plain functions on lists of numbers; the turn of a word. -/
import Derived.Test.YtlpkgngjofabaaaWk
import Derived.Lib.Hide
namespace Go.Proofs.Ytlpkgngjofabaaa.PSaltSeals
open Go.RowKit Go.Proofs.YtlpkgngjofabaaaW.PrintWords Go.Proofs.YtlpkgngjofabaaaW.PrintLast Go.Proofs.YtlpkgngjofabaaaW.PrintMore
set_option linter.unusedVariables false
set_option linter.unusedSimpArgs false

/-- A word turned to the right by n. -/
def rotr (x n : Int) : Int := Go.bits .or .u32 (IntKind.u32.wrap (x * 2 ^ (32 - n).toNat)) (x / 2 ^ n.toNat)
def sig0 (x : Int) : Int := Go.bits .xor .u32 (Go.bits .xor .u32 (rotr x 7) (rotr x 18)) (x / 8)
def sig1 (y : Int) : Int := Go.bits .xor .u32 (Go.bits .xor .u32 (rotr y 17) (rotr y 19)) (y / 1024)
def wnew (ws : List Int) (t : Int) : Int := (rd ws (t - 16) + sig0 (rd ws (t - 15)) + rd ws (t - 7) + sig1 (rd ws (t - 2))) % 4294967296
/-- The word of four bytes, after i of them. -/
def wacc (b : ByteArray) (t : Nat) : Nat → Int
  | 0 => 0
  | i + 1 => Go.bits .or .u32 ((wacc b t i * 256) % 4294967296) (bt b (4 * (t : Int) + (i : Int)))
def wword (b : ByteArray) (ws : List Int) (t : Nat) : Int := if t < 16 then wacc b t 4 else wnew ws t
def wsch (b : ByteArray) : Nat → List Int
  | 0 => List.replicate 64 0
  | t + 1 => (wsch b t).set t (wword b (wsch b t) t)
theorem wsch_length (b : ByteArray) (t : Nat) : (wsch b t).length = 64 := by
  induction t with
  | zero => simp [wsch]
  | succ t ih => simp [wsch, ih]

def big (e f g h k w : Int) : Int := (h + Go.bits .xor .u32 (Go.bits .xor .u32 (rotr e 6) (rotr e 11)) (rotr e 25) + Go.bits .xor .u32 (Go.bits .and .u32 e f) (Go.bits .and .u32 (Go.bits .xor .u32 IntKind.u32.max e) g) + k + w) % 4294967296
def maj (a b c : Int) : Int := (Go.bits .xor .u32 (Go.bits .xor .u32 (rotr a 2) (rotr a 13)) (rotr a 22) + Go.bits .xor .u32 (Go.bits .xor .u32 (Go.bits .and .u32 a b) (Go.bits .and .u32 a c)) (Go.bits .and .u32 b c)) % 4294967296
def vstep (v : List Int) (k w : Int) : List Int :=
  match v with
  | [a, b, c, d, e, f, g, h] => [(big e f g h k w + maj a b c) % 4294967296, a, b, c, (d + big e f g h k w) % 4294967296, e, f, g]
  | v => v
def vrun (h ws : List Int) : Nat → List Int
  | 0 => h
  | t + 1 => vstep (vrun h ws t) (rd K64 t) (rd ws t)
def hadd (h v : List Int) : Nat → List Int
  | 0 => h
  | i + 1 => (hadd h v i).set i ((rd h i + rd v i) % 4294967296)
/-- What a block of 64 bytes makes of eight words. -/
def blockL (h : List Int) (b : ByteArray) : List Int := hadd h (vrun h (wsch b 64) 64) 8
theorem vstep_length (v : List Int) (k w : Int) (h : v.length = 8) : (vstep v k w).length = 8 := by
  match v, h with
  | [a, b, c, d, e, f, g, h], _ => rfl
theorem vrun_length (h ws : List Int) (hl : h.length = 8) (t : Nat) : (vrun h ws t).length = 8 := by
  induction t with
  | zero => exact hl
  | succ t ih => exact vstep_length _ _ _ ih
theorem hadd_length (h v : List Int) (i : Nat) : (hadd h v i).length = h.length := by
  induction i with
  | zero => rfl
  | succ i ih => simp [hadd, ih]
theorem eight (v : List Int) (h : v.length = 8) : ∃ a b c d e f g i, v = [a, b, c, d, e, f, g, i] := by
  match v, h with
  | [a, b, c, d, e, f, g, i], _ => exact ⟨a, b, c, d, e, f, g, i, rfl⟩

theorem rot_calls (x k n s : Int) (hs : Go.bits .and .u64 (IntKind.u64.wrap k) 31 = s) (h0 : 0 ≤ s) (h1 : s ≤ 32) (hn : s + n = 32) (hn0 : 0 ≤ n) (w : World) :
    Calls Try.prog 28 #[.int .u32 x, .int .i64 k] w fun e w' => e = .returned (.int .u32 (Go.bits .or .u32 (IntKind.u32.wrap (x * 2 ^ s.toNat)) (x / 2 ^ n.toNat))) ∧ w = w' := by
  have e2 : IntKind.u64.wrap (32 - s) = n := by rw [show 32 - s = n by omega, u64_small hn0 (by omega)]
  have hn1 : n ≤ 32 := by omega
  clear hn
  go_enter Try.func28, Try.ntmps28
  go_wp2
  go_ret
  exact ⟨rfl, rfl⟩
theorem turn_calls (x n : Int) (s : Int) (hs : Go.bits .and .u64 (IntKind.u64.wrap (-n)) 31 = s) (h0 : 0 ≤ s) (h1 : s ≤ 32) (hn : s + n = 32) (hn0 : 0 ≤ n) (w : World) :
    Calls Try.prog 18 #[.int .u32 x, .int .i64 n] w fun e w' => e = .returned (.int .u32 (rotr x n)) ∧ w' = w := by
  have hr := rot_calls x (-n) n s hs h0 h1 hn hn0
  have e : Go.bits .or .u32 (IntKind.u32.wrap (x * 2 ^ s.toNat)) (x / 2 ^ n.toNat) = rotr x n := by unfold rotr; rw [show 32 - n = s by omega]
  rw [e] at hr
  have HR := Lib.hid hr
  clear e hr hs
  go_enter Try.func18, Try.ntmps18
  go_wp2_with (go_at_call 28; refine (HR.out _).mono ?_; rintro e w' ⟨rfl, rfl⟩)
  go_ret
  exact ⟨rfl, rfl⟩
theorem turn2 (x : Int) (w : World) : Calls Try.prog 18 #[.int .u32 x, .int .i64 2] w fun e w' => e = .returned (.int .u32 (rotr x 2)) ∧ w' = w := turn_calls x 2 30 (by decide +kernel) (by omega) (by omega) (by omega) (by omega) w
theorem turn6 (x : Int) (w : World) : Calls Try.prog 18 #[.int .u32 x, .int .i64 6] w fun e w' => e = .returned (.int .u32 (rotr x 6)) ∧ w' = w := turn_calls x 6 26 (by decide +kernel) (by omega) (by omega) (by omega) (by omega) w
theorem turn7 (x : Int) (w : World) : Calls Try.prog 18 #[.int .u32 x, .int .i64 7] w fun e w' => e = .returned (.int .u32 (rotr x 7)) ∧ w' = w := turn_calls x 7 25 (by decide +kernel) (by omega) (by omega) (by omega) (by omega) w
theorem turn11 (x : Int) (w : World) : Calls Try.prog 18 #[.int .u32 x, .int .i64 11] w fun e w' => e = .returned (.int .u32 (rotr x 11)) ∧ w' = w := turn_calls x 11 21 (by decide +kernel) (by omega) (by omega) (by omega) (by omega) w
theorem turn13 (x : Int) (w : World) : Calls Try.prog 18 #[.int .u32 x, .int .i64 13] w fun e w' => e = .returned (.int .u32 (rotr x 13)) ∧ w' = w := turn_calls x 13 19 (by decide +kernel) (by omega) (by omega) (by omega) (by omega) w
theorem turn17 (x : Int) (w : World) : Calls Try.prog 18 #[.int .u32 x, .int .i64 17] w fun e w' => e = .returned (.int .u32 (rotr x 17)) ∧ w' = w := turn_calls x 17 15 (by decide +kernel) (by omega) (by omega) (by omega) (by omega) w
theorem turn18 (x : Int) (w : World) : Calls Try.prog 18 #[.int .u32 x, .int .i64 18] w fun e w' => e = .returned (.int .u32 (rotr x 18)) ∧ w' = w := turn_calls x 18 14 (by decide +kernel) (by omega) (by omega) (by omega) (by omega) w
theorem turn19 (x : Int) (w : World) : Calls Try.prog 18 #[.int .u32 x, .int .i64 19] w fun e w' => e = .returned (.int .u32 (rotr x 19)) ∧ w' = w := turn_calls x 19 13 (by decide +kernel) (by omega) (by omega) (by omega) (by omega) w
theorem turn22 (x : Int) (w : World) : Calls Try.prog 18 #[.int .u32 x, .int .i64 22] w fun e w' => e = .returned (.int .u32 (rotr x 22)) ∧ w' = w := turn_calls x 22 10 (by decide +kernel) (by omega) (by omega) (by omega) (by omega) w
theorem turn25 (x : Int) (w : World) : Calls Try.prog 18 #[.int .u32 x, .int .i64 25] w fun e w' => e = .returned (.int .u32 (rotr x 25)) ∧ w' = w := turn_calls x 25 7 (by decide +kernel) (by omega) (by omega) (by omega) (by omega) w
def okN (n : Int) : Bool := n == 2 || n == 6 || n == 7 || n == 11 || n == 13 || n == 17 || n == 18 || n == 19 || n == 22 || n == 25
theorem turn_any (x n : Int) (w : World) (h : okN n = true) : Calls Try.prog 18 #[.int .u32 x, .int .i64 n] w fun e w' => e = .returned (.int .u32 (rotr x n)) ∧ w' = w := by
  simp only [okN, Bool.or_eq_true, beq_iff_eq] at h
  rcases h with ((((((((rfl | rfl) | rfl) | rfl) | rfl) | rfl) | rfl) | rfl) | rfl) | rfl
  · exact turn2 x w
  · exact turn6 x w
  · exact turn7 x w
  · exact turn11 x w
  · exact turn13 x w
  · exact turn17 x w
  · exact turn18 x w
  · exact turn19 x w
  · exact turn22 x w
  · exact turn25 x w
end Go.Proofs.Ytlpkgngjofabaaa.PSaltSeals

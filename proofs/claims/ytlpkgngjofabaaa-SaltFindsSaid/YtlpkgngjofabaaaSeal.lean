/- Walk of the seal: what the program makes of a salt and a password of up to 3000 bytes together. -/
import Derived.Test.YtlpkgngjofabaaaSum
import Derived.Laws.BitsLemmas
import Derived.Deep.RegionHeld3
namespace Go.Proofs.Ytlpkgngjofabaaa.PSaltSeals
open Go.RowKit Go.Proofs.YtlpkgngjofabaaaW.PrintWords Go.Proofs.YtlpkgngjofabaaaW.PrintLast Go.Proofs.YtlpkgngjofabaaaW.PrintMore
set_option linter.unusedVariables false
set_option linter.unusedSimpArgs false

theorem digest_size (s : ByteArray) : (digest s).size = 32 := by unfold digest; rw [strOfNums_size, outL_length]
/-- The sign of a number below 16. -/
def hexd (n : Int) : Int := if n < 10 then 48 + n else 87 + n
def hexL (d : ByteArray) : Nat → List Int
  | 0 => []
  | i + 1 => hexL d i ++ [hexd (bt d i / 16), hexd (bt d i % 16)]
theorem hexL_length (d : ByteArray) (i : Nat) : (hexL d i).length = 2 * i := by
  induction i with
  | zero => rfl
  | succ i ih => simp [hexL, ih]; omega
def hexS (d : ByteArray) : ByteArray := strOfNums (hexL d d.size)
theorem hexd_at (n : Int) (h0 : 0 ≤ n) (h1 : n < 16) (w : World) : (Instr.index 9 (.string ⟨#[48, 49, 50, 51, 52, 53, 54, 55, 56, 57, 97, 98, 99, 100, 101, 102]⟩) (.int .u8 n)).run Try.prog w = .ok (.int .u8 (hexd n)) w := by
  obtain ⟨k, rfl⟩ := Int.eq_ofNat_of_zero_le h0
  have hk : k < 16 := by omega
  match k, hk with
  | 0, _ => rfl
  | 1, _ => rfl
  | 2, _ => rfl
  | 3, _ => rfl
  | 4, _ => rfl
  | 5, _ => rfl
  | 6, _ => rfl
  | 7, _ => rfl
  | 8, _ => rfl
  | 9, _ => rfl
  | 10, _ => rfl
  | 11, _ => rfl
  | 12, _ => rfl
  | 13, _ => rfl
  | 14, _ => rfl
  | 15, _ => rfl

theorem news2 (W : World) (x y : Value) : ∀ j u, [x, y][j]? = some u → (W.alloc (.cells #[x, y] 5)).cell? ((⟨W.heap.size, 0, none⟩ : Addr).add j) = some u := by
  intro j u hj
  rw [add_plain]
  exact (blk_cell (blk_new W _) j).trans (by simpa using hj)
theorem ones2 (x y : Int) : ∀ u ∈ [Value.int .u8 x, Value.int .u8 y], u.oneCell' = true := by
  intro u hu; simp at hu; rcases hu with rfl | rfl <;> rfl
theorem bytesWorld_size (w : World) (s : ByteArray) : (Lib.bytesWorld w 5 s).heap.size = w.heap.size + 1 := by
  unfold Lib.bytesWorld
  simp [World.freeze]
theorem below_append2 {w W W' : World} {o : Obj} {v : Value} {n e size B : Nat} {xs : List Value} (h : Hid (Below B w W)) (ho : Hid (W.ownsRow B e size v n xs)) (hB : B ≤ W.heap.size) (hg : (W.alloc o).grownBy W' v.ownBlock) : Hid (Below B w W') :=
  (h.out.alloc hB o).grown hg (by simp; omega) (fun b hb => own_base ho.out b hb)

set_option maxHeartbeats 1000000 in
set_option maxRecDepth 100000 in
theorem seal_calls (s p : ByteArray) (hs : s.size + p.size ≤ 3500) (w : World) :
    Calls Try.prog 5 #[.string s, .string p] w fun e w' => e = .returned (.string (hexS (digest (s ++ ⟨#[0]⟩ ++ p)))) ∧ Below w.heap.size w w' := by
  obtain ⟨D, hD⟩ : ∃ D, D = digest (s ++ ⟨#[0]⟩ ++ p) := ⟨_, rfl⟩
  have hsum := fun W => sum_calls (s ++ ⟨#[0]⟩ ++ p) (by simp [ByteArray.size_append]; show _ + 1 + _ ≤ _; omega) W
  have hDs : D.size = 32 := by rw [hD, digest_size]
  rw [← hD] at hsum ⊢
  have HS := Lib.hid hsum
  have HD := Lib.hid hDs
  clear hsum hDs hD
  have hcv := fun W => print_bytes (P := Try.prog) 9 31 5 Try.underlying9 Try.underlying31 Try.underlying5 D W
  have b1 : s.size ≤ 3500 := by omega
  have b2 : p.size ≤ 3500 := by omega
  have b3 : D.size ≤ 32 := by rw [HD.out]; exact Nat.le_refl _
  obtain ⟨i0, hi0, hz0, hz1, hz2⟩ := info_parts info5
  go_enter Try.func5, Try.ntmps5
  go_wp2_with (go_at_call 10; refine (HS.out _).mono ?_; rintro e w1 ⟨rfl, hb1⟩)
  clear hcv
  have hW := bytes_reads w1 5 D (by omega)
  have hbb : Hid (Below w.heap.size w (Lib.bytesWorld w1 5 D)) := bytes_below hb1 hb1.size 5 D
  have hsz : w1.heap.size + 1 = (Lib.bytesWorld w1 5 D).heap.size := by rw [bytesWorld_size]
  generalize hW1 : Lib.bytesWorld w1 5 D = W1 at *
  generalize hB : w1.heap.size = B at *
  clear hW1 hb1 hB
  have HW := Lib.hid hW
  have HSZ := Lib.hid hsz
  clear hW hsz
  go_loopw [5, 15] (fun v5 v15 wr => ∃ i : Nat, i ≤ D.size ∧ v15 = .int .i64 i ∧ Hid (wr.ownsRow (B + 1) 5 1 v5 (2 * i) (nums .u8 (hexL D i))) ∧ Hid (Below (B + 1) W1 wr)) (fun _ v15 _ => D.size - (intOf v15).toNat)
  case atStart => exact ⟨0, by omega, rfl, own_nil _ _ _ _, Below.refl _ _⟩
  case round =>
    obtain ⟨i, hi, rfl, hown, hbl⟩ := hrel
    by_cases hlt : i < D.size
    · obtain ⟨c, hc⟩ : ∃ c, c = bt D (i : Int) := ⟨_, rfl⟩
      have hcr := bt_range D (i : Int)
      have hcc : wr.cell? ⟨B, i, none⟩ = some (.int .u8 c) := by
        obtain ⟨ad, e, hx⟩ := HW.out.at_ (i : Int) (by omega) (by omega)
        cases e
        rw [rd_bytesOf, ← hc, Int.toNat_natCast, add_plain] at hx
        exact (hbl.out.cell (p := ⟨B, i, none⟩) (by simp)).trans hx
      rw [← hc] at hcr
      have HC := Lib.hid hc
      clear hc
      obtain ⟨c0, c1⟩ := hcr
      have e1 := fun W => hexd_at (c / 16) (by omega) (by omega) W
      have e2 := fun W => hexd_at (c % 16) (by omega) (by omega) W
      have e3 : Go.bits .and .u8 c 15 = c % 16 := u8_and15 c c0 (by omega)
      have q0 : (i : Int) < (D.size : Int) := by omega
      have d0 : decide ((i : Int) < (D.size : Int)) = true := decide_eq_true q0
      have d1 : decide (i < D.size) = true := decide_eq_true hlt
      go_wp2
      have hol := hexL_length D i
      have hBs : B + 1 ≤ wr.heap.size := by have := hbl.out.size; have := HSZ.out; omega
      have HOL := Lib.hid hol
      clear hol hcc
      go_region_held3 (fun _ => True) (exact trivial) ((refine step_append_lies _ (by rfl) (.tmp 19) (.tmp 26) 31 (by rfl) (B + 1) 5 i0 (.int .u8 0) 1 1 Try.underlying31 hi0 hz0 hz1 hz2 rfl (by decide) u5 (2 * i) (nums .u8 (hexL D i)) (by rfl) (hown.out.drew.alloc _) ⟨wr.heap.size, 0, none⟩ 2 2 [.int .u8 (hexd (c / 16)), .int .u8 (hexd (c % 16))] (by rfl) rfl (news2 wr.drew _ _) (ones2 _ _) (by decide) (by unfold maxLen; omega) (by omega) (by simp; omega) (wr.heap.size + 1) (by simp) ?_; intro g cap w2 hown' hgrow hat hlt2))
      all_goals
        have hbl3 : Hid (Below (B + 1) W1 w2) := below_append2 (below_drew hbl : Hid _) hown.out.drew (by simpa using hBs) hgrow
        have hown3 : Hid (w2.ownsRow (B + 1) 5 1 (.slice (some ⟨g, 0, none⟩) (2 * i + 2) cap) (2 * (i + 1)) (nums .u8 (hexL D (i + 1)))) := by
          rw [hexL, ← HC.out, nums_append]; exact hown'
        clear hown' hgrow hown hbl hat hlt2
        go_wp2
        go_roundw
        case rel => exact ⟨i + 1, by omega, by go_num, hown3, hbl3⟩
        case measure => simp [intOf]; omega
    · have hi8' : i = D.size := by omega
      have hcv := own_string (src := 31) (dst := 9) Try.underlying31 Try.underlying5 Try.underlying9 hown.out
      have d0 : decide ((i : Int) < (D.size : Int)) = false := decide_eq_false (by omega)
      have d1 : decide (i < D.size) = false := decide_eq_false hlt
      have hfin : strOfNums (hexL D i) = hexS D := by rw [hi8']; rfl
      have HF := Lib.hid hfin
      clear hfin hi8'
      go_wp2
      go_ret
      exact ⟨congrArg (fun b => Ending.returned (Value.string b)) HF.out, below_then hbb (by have := HSZ.out; have := hbb.out.size; omega) (by rw [← HSZ.out]; exact hbl)⟩
end Go.Proofs.Ytlpkgngjofabaaa.PSaltSeals

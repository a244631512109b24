/- Walk of the digest: what the program's sum makes of a text of up to 4000 bytes. -/
import Derived.Test.YtlpkgngjofabaaaBlk
import Derived.Test.YtlpkgngjofabaaaShelf
import Derived.WalkSpells
namespace Go.Proofs.Ytlpkgngjofabaaa.PSaltSeals
open Go.RowKit Go.Proofs.YtlpkgngjofabaaaW.PrintWords Go.Proofs.YtlpkgngjofabaaaW.PrintLast Go.Proofs.YtlpkgngjofabaaaW.PrintMore
set_option linter.unusedVariables false
set_option linter.unusedSimpArgs false

def hfold (h : List Int) (m : ByteArray) : Nat → List Int
  | 0 => h
  | j + 1 => blockL (hfold h m j) (m.extract (64 * j) (64 * j + 64))
theorem blockL_length (h : List Int) (b : ByteArray) : (blockL h b).length = h.length := hadd_length _ _ _
theorem hfold_length (h : List Int) (m : ByteArray) (j : Nat) (hl : h.length = 8) : (hfold h m j).length = 8 := by
  induction j with
  | zero => exact hl
  | succ j ih => rw [hfold, blockL_length]; exact ih
/-- The block at work, whatever eight words there are. -/
theorem block_any (g : Nat) (h : List Int) (hl : h.length = 8) (b : ByteArray) (hb : b.size = 64) (w : World) (hg : Hid (WBlk w g 38 h)) :
    Calls Try.prog 14 #[.pointer (some ⟨g, 0, none⟩), .string b] w fun e w' => e = .returned (.tuple #[]) ∧ Hid (WBlk w' g 38 (blockL h b)) ∧ Hid (w.grownBy w' (some g)) := by
  obtain ⟨a0, a1, a2, a3, a4, a5, a6, a7, rfl⟩ := eight h hl
  exact block_calls g a0 a1 a2 a3 a4 a5 a6 a7 b hb w hg.out

theorem ext_size (s : ByteArray) (a b : Nat) (h : a ≤ b) (hb : b ≤ s.size) : (s.extract a b).size = b - a := by simp; omega
theorem ext_ext (s : ByteArray) (a b c d : Nat) (h : a + d ≤ b) (hb : b ≤ s.size) : (s.extract a b).extract c d = s.extract (a + c) (a + d) := by
  rw [ByteArray.extract_extract]; congr 1; omega
theorem rest_next (s : ByteArray) (j : Nat) (h : 64 * j + 64 ≤ s.size) : (s.extract (64 * j) s.size).extract 64 (s.size - 64 * j) = s.extract (64 * (j + 1)) s.size := by
  rw [ByteArray.extract_extract]; congr 1 <;> omega
theorem below_grown' {w W W' : World} {g : Nat} (h : Hid (Below w.heap.size w W)) (hg : w.heap.size ≤ g) (k : Hid (W.grownBy W' (some g))) : Hid (Below w.heap.size w W') := h.out.grown k.out h.out.size (fun b hb => by cases hb; exact hg)

/-- The first k of the eight bytes that tell how many bits a text of n bytes has. -/
def lenB (n : Nat) (k : Nat) : ByteArray := ⟨((List.range k).map fun i => UInt8.ofNat (n * 8 / 2 ^ (8 * (7 - i)))).toArray⟩
theorem lenB_zero (n : Nat) : ∀ M : ByteArray, M ++ lenB n 0 = M := fun M => by ext1; simp [lenB]
def zeros (z : Nat) : ByteArray := ⟨(List.replicate z 0).toArray⟩
theorem zeros_size (z : Nat) : (zeros z).size = z := by show (List.replicate z (0 : UInt8)).toArray.size = z; simp
theorem conv_one (w : World) (x : Int) : (convert 31 9 (.slice (some ⟨w.heap.size, 0, none⟩) 1 1)).run Try.prog (w.alloc (.cells #[.int .u8 x] 5)) = .ok (.string (strOfNums [x])) (w.alloc (.cells #[.int .u8 x] 5)) :=
  run_convert_bytes_arg _ 31 5 Try.underlying31 Try.underlying5 w.heap.size 0 1 1 [x] rfl (fun i hi => by
    obtain rfl : i = 0 := by omega
    exact (blk_cell (blk_new w _) 0).trans rfl) 9 Try.underlying9
theorem lenB_size (n k : Nat) : (lenB n k).size = k := by show (List.map _ _).toArray.size = k; simp
theorem lenB_succ (n k : Nat) : lenB n k ++ strOfNums [(n : Int) * 8 / 2 ^ (8 * (7 - k)) % 256] = lenB n (k + 1) := by
  ext1
  rw [ByteArray.data_append]
  show (List.map _ _).toArray ++ (List.map _ _).toArray = (List.map _ _).toArray
  rw [List.append_toArray, List.range_succ, List.map_append]
  congr 2
  simp only [List.map_cons, List.map_nil, List.cons.injEq, and_true]
  have e : (n : Int) * 8 / 2 ^ (8 * (7 - k)) % 256 = ((n * 8 / 2 ^ (8 * (7 - k)) % 256 : Nat) : Int) := by rw [Int.natCast_emod, Int.natCast_ediv, Int.natCast_mul, Int.natCast_pow]; rfl
  rw [e, Int.toNat_natCast]
  apply UInt8.toNat.inj
  simp
theorem info5 : (Try.prog.info? 5).map (fun i => (i.zero, i.size, i.bytes)) = some (some (.int .u8 0), 1, 1) := by kernel_rfl
theorem below_append {w W W' : World} {o : Obj} {v : Value} {n e size : Nat} {xs : List Value} (h : Hid (Below w.heap.size w W)) (ho : Hid (W.ownsRow w.heap.size e size v n xs)) (hg : (W.alloc o).grownBy W' v.ownBlock) : Hid (Below w.heap.size w W') :=
  (below_alloc h.out o).grown hg (by have := h.out.size; simp; omega) (fun b hb => own_base ho.out b hb)
/-- The first i of eight words, as bytes. -/
def outL (l : List Int) : Nat → List Int
  | 0 => []
  | i + 1 => outL l i ++ [rd l i / 16777216 % 256, rd l i / 65536 % 256, rd l i / 256 % 256, rd l i % 256]
theorem outL_length (l : List Int) (i : Nat) : (outL l i).length = 4 * i := by
  induction i with
  | zero => rfl
  | succ i ih => simp [outL, ih]; omega
theorem agg_at (ws : List Int) (i : Int) (h0 : 0 ≤ i) (h1 : i < ws.length) : (nums .u32 ws).toArray[i.toNat]? = some (.int .u32 (rd ws i)) := by
  rw [List.getElem?_toArray]
  unfold nums rd
  rw [List.getElem?_map, List.getElem?_eq_getElem (by omega)]
  simp [List.getD_eq_getElem?_getD, show i.toNat < ws.length by omega]
theorem rep_eq (z : Nat) : Lib.repeatL [(0 : UInt8)] z = List.replicate z 0 := by
  induction z with
  | zero => rfl
  | succ z ih => rw [List.replicate_succ, ← ih]; simp [Lib.repeatL, List.replicate_succ]
theorem rep_calls (z : Nat) (hz : z < 64) (w : World) : Calls Try.prog 15 #[.string ⟨#[0]⟩, .int .i64 (z : Int)] w fun e w' => e = .returned (.string (zeros z)) ∧ Below w.heap.size w w' := by
  have := Try.strings_Repeat ⟨#[0]⟩ z w (by omega) (by show 1 * _ ≤ _; omega)
  refine this.mono ?_
  rintro e w' ⟨rfl, hb⟩
  refine ⟨?_, hb⟩
  show Ending.returned (.string ⟨(Lib.repeatL [(0 : UInt8)] z).toArray⟩) = _
  rw [rep_eq]; rfl

def padTail (s : ByteArray) : ByteArray := s.extract (64 * (s.size / 64)) s.size ++ ⟨#[128]⟩ ++ zeros ((119 - s.size % 64) % 64) ++ lenB s.size 8
/-- The digest of a text, as the program reckons it. -/
def digest (s : ByteArray) : ByteArray := strOfNums (outL (hfold (hfold H0 s (s.size / 64)) (padTail s) ((padTail s).size / 64)) 8)
theorem sum_fin {s R M0 M : ByteArray} {j nb i : Nat} {a0 a1 a2 a3 a4 a5 a6 a7 : Int} (hj : 64 * j ≤ s.size) (hlt : ¬ 64 * j + 64 ≤ s.size) (hR : R = s.extract (64 * j) s.size) (hRs : R.size = s.size - 64 * j)
    (hM : R ++ { data := #[128] } ++ zeros ((119 - R.size) % 64) = M0) (hM1 : M = M0 ++ lenB s.size 8) (hnb : M.size = 64 * nb) (ha : hfold (hfold H0 s j) M nb = [a0, a1, a2, a3, a4, a5, a6, a7]) (hi : i = 8) :
    strOfNums (outL [a0, a1, a2, a3, a4, a5, a6, a7] i) = digest s := by
  have ej : j = s.size / 64 := by omega
  have er : R.size = s.size % 64 := by omega
  have eM : M = padTail s := by rw [hM1, ← hM, er, hR, ej]; rfl
  have en : nb = (padTail s).size / 64 := by rw [← eM, hnb]; omega
  rw [hi, ← ha, eM, en, ej]; rfl

set_option maxHeartbeats 1000000 in
set_option maxRecDepth 100000 in
theorem sum_calls (s : ByteArray) (hs : s.size ≤ 4000) (w : World) :
    Calls Try.prog 10 #[.string s] w fun e w' => e = .returned (.string (digest s)) ∧ Below w.heap.size w w' := by
  go_enter Try.func10, Try.ntmps10
  go_wp2
  go_loopw [4] (fun v4 wr => ∃ j : Nat, 64 * j ≤ s.size ∧ v4 = .string (s.extract (64 * j) s.size) ∧ Hid (WBlk wr w.heap.size 38 (hfold H0 s j)) ∧ Hid (Below w.heap.size w wr)) (fun v4 _ => match v4 with | .string t => t.size | _ => 0)
  case atStart => exact ⟨0, by omega, by simp, (blk_new w _).trans (by first | rfl | (simp [nums, hfold, H0]; done)), below_alloc (Below.refl _ _) _⟩
  case round =>
    obtain ⟨j, hj, rfl, hw, hbl⟩ := hrel
    by_cases hlt : 64 * j + 64 ≤ s.size
    · have hl8 := hfold_length H0 s j rfl
      have HL8 := Lib.hid hl8
      clear hl8
      have hb := block_any w.heap.size (hfold H0 s j) HL8.out ((s.extract (64 * j) s.size).extract 0 64) (by rw [ext_ext _ _ _ _ _ (by omega) (by omega), ext_size _ _ _ (by omega) (by omega)]; omega) wr hw
      rw [ext_ext _ _ _ _ _ (by omega) (by omega)] at hb
      have HB := Lib.hid hb
      clear hb
      have e1 : (s.extract (64 * j) s.size).extract 0 64 = s.extract (64 * j) (64 * j + 64) := ext_ext _ _ _ _ _ (by omega) (by omega)
      have E1 := Lib.hid e1
      clear e1
      go_wp2_with (go_at_call 14; rw [E1.out]; refine HB.out.mono ?_; rintro e w1 ⟨rfl, hw1, hg1⟩)
      go_roundw
      case rel => exact ⟨j + 1, by omega, by rw [rest_next s j hlt], hw1, below_grown' hbl (Nat.le_refl _) hg1⟩
      case measure => simp; omega
    · have hr : s.size - 64 * j < 64 := by omega
      obtain ⟨R, hR⟩ : ∃ R, R = s.extract (64 * j) s.size := ⟨_, rfl⟩
      have hRs : R.size = s.size - 64 * j := by rw [hR]; exact ext_size _ _ _ (by omega) (by omega)
      rw [← hR]
      have HR := Lib.hid hR
      clear hR
      have b1 : R.size < 64 := by omega
      have HRs := Lib.hid hRs
      clear hRs
      have hz : (119 - (R.size : Int)) % 64 = (((119 - R.size) % 64 : Nat) : Int) := by omega
      have HZ := Lib.hid hz
      clear hz
      have d15 : decide ((64 : Int) ≤ (R.size : Int)) = false := decide_eq_false (by omega)
      have zs : (zeros ((119 - R.size) % 64)).size ≤ 63 := by rw [zeros_size]; omega
      go_wp2_with (go_at_call 15; rw [HZ.out]; refine (rep_calls _ (by omega) _).mono ?_; rintro e w1 ⟨rfl, hb1⟩)
      have hw1 : Hid (WBlk w1 w.heap.size 38 (hfold H0 s j)) := blk_below hw hb1
      have hbl1 : Hid (Below w.heap.size w w1) := hbl.out.trans (hb1.mono hbl.out.size)
      clear hw hbl hb1
      generalize hM : R ++ { data := #[128] } ++ zeros ((119 - R.size) % 64) = M0
      have HM := Lib.hid hM
      clear hM
      have hMs : M0.size = R.size + 1 + (119 - R.size) % 64 := by rw [← HM.out]; simp [zeros_size]; rfl
      have HMs := Lib.hid hMs
      clear hMs zs d15
      have bs : (s.size : Int) ≤ 4000 := by omega
      go_loopw [5, 7] (fun v5 v7 wr => ∃ k : Nat, k ≤ 8 ∧ v7 = .int .i64 (7 - (k : Int)) ∧ v5 = .string (M0 ++ lenB s.size k) ∧ Hid (WBlk wr w.heap.size 38 (hfold H0 s j)) ∧ Hid (Below w.heap.size w wr)) (fun _ v7 _ => (intOf v7 + 1).toNat)
      case atStart => exact ⟨0, by omega, rfl, by rw [lenB_zero], hw1, hbl1⟩
      case round =>
        obtain ⟨k, hk, rfl, rfl, hw2, hbl2⟩ := hrel
        clear hw1 hbl1
        by_cases hk8 : k < 8
        · have p0 : (0 : Int) ≤ 7 - (k : Int) := by omega
          have p1 : (k : Int) ≤ 7 := by omega
          have d0 : decide ((0 : Int) ≤ 7 - (k : Int)) = true := decide_eq_true p0
          have hcv := conv_one wr ((s.size : Int) * 8 / 2 ^ (8 * (7 - k)) % 256)
          have z1 : M0.size ≤ 200 := by rw [HMs.out]; omega
          have z2 : (lenB s.size k).size ≤ 8 := by rw [lenB_size]; omega
          have z3 : (strOfNums [(s.size : Int) * 8 / 2 ^ (8 * (7 - k)) % 256]).size ≤ 1 := by rw [strOfNums_size]; simp
          go_wp2
          go_roundw
          case rel => exact ⟨k + 1, by omega, by congr 1; omega, by rw [ByteArray.append_assoc, lenB_succ], blk_alloc hw2 _, below_alloc' hbl2 _⟩
          case measure => simp [intOf]; omega
        · obtain ⟨M, hM⟩ : ∃ M, M = M0 ++ lenB s.size 8 := ⟨_, rfl⟩
          have hk8' : k = 8 := by omega
          have hMs : M.size = 64 ∨ M.size = 128 := by
            have h1 := HMs.out
            rw [hM, ByteArray.size_append, lenB_size]; omega
          rw [show M0 ++ lenB s.size k = M from by rw [hk8', hM]]
          have HM1 := Lib.hid hM
          clear hM hk8'
          obtain ⟨nb, hnb⟩ : ∃ nb, M.size = 64 * nb := hMs.elim (fun h => ⟨1, h⟩) (fun h => ⟨2, h⟩)
          have bM : M.size ≤ 128 := by omega
          have HNB := Lib.hid hnb
          clear hnb hMs
          have d0 : decide ((0 : Int) ≤ 7 - (k : Int)) = false := decide_eq_false (by omega)
          have d1 : decide ((k : Int) ≤ 7) = false := decide_eq_false (by omega)
          go_wp2
          clear hk hk8 d0 d1
          go_loopw [5] (fun v5 wr => ∃ i : Nat, 64 * i ≤ M.size ∧ v5 = .string (M.extract (64 * i) M.size) ∧ Hid (WBlk wr w.heap.size 38 (hfold (hfold H0 s j) M i)) ∧ Hid (Below w.heap.size w wr)) (fun v5 _ => match v5 with | .string t => t.size | _ => 0)
          case atStart => exact ⟨0, by omega, by simp, hw2, hbl2⟩
          case round =>
            obtain ⟨i, hi, rfl, hw3, hbl3⟩ := hrel
            clear hw2 hbl2
            by_cases hil : 64 * i + 64 ≤ M.size
            · have hb := block_any w.heap.size (hfold (hfold H0 s j) M i) (hfold_length _ _ _ (hfold_length H0 s j rfl)) ((M.extract (64 * i) M.size).extract 0 64) (by rw [ext_ext _ _ _ _ _ (by omega) (by omega), ext_size _ _ _ (by omega) (by omega)]; omega) wr hw3
              rw [ext_ext _ _ _ _ _ (by omega) (by omega)] at hb
              have HB := Lib.hid hb
              clear hb
              have e1 : (M.extract (64 * i) M.size).extract 0 64 = M.extract (64 * i) (64 * i + 64) := ext_ext _ _ _ _ _ (by omega) (by omega)
              have E1 := Lib.hid e1
              clear e1
              go_wp2_with (go_at_call 14; rw [E1.out]; refine HB.out.mono ?_; rintro e w1 ⟨rfl, hw1, hg1⟩)
              go_roundw
              case rel => exact ⟨i + 1, by omega, by rw [rest_next M i hil], hw1, below_grown' hbl3 (Nat.le_refl _) hg1⟩
              case measure => simp; omega
            · have hi2 : i = nb := by have := HNB.out; omega
              have hMi : M.size - 64 * i = 0 := by have := HNB.out; omega
              have hMe : M.extract (64 * i) M.size = ⟨#[]⟩ := by
                have := HNB.out
                ext1; simp; omega
              rw [hMe]
              rw [hi2] at hw3
              clear hMi hMe hi2
              have hf := hfold_length (hfold H0 s j) M nb (hfold_length H0 s j rfl)
              obtain ⟨a0, a1, a2, a3, a4, a5, a6, a7, ha⟩ := eight _ hf
              rw [ha] at hw3
              have HA := Lib.hid ha
              clear ha hf
              obtain ⟨c0, c1, c2, c3, c4, c5, c6, c7⟩ := WBlk.c8 hw3
              go_wp2
              clear c0 c1 c2 c3 c4 c5 c6 c7 hw3
              go_loopw [8, 55] (fun v8 v55 wx => ∃ i : Nat, i ≤ 8 ∧ v55 = .int .i64 i ∧ Hid (wx.ownsRow w.heap.size 5 1 v8 (4 * i) (nums .u8 (outL [a0, a1, a2, a3, a4, a5, a6, a7] i))) ∧ Hid (Below w.heap.size w wx)) (fun _ v55 _ => 8 - (intOf v55).toNat)
              case atStart => exact ⟨0, by omega, rfl, own_nil _ _ _ _, hbl3⟩
              case round =>
                obtain ⟨i', hi8, rfl, hown, hbl4⟩ := hrel
                clear hbl3
                by_cases hl : i' < 8
                · obtain ⟨X, hX⟩ : ∃ X, X = rd [a0, a1, a2, a3, a4, a5, a6, a7] (i' : Int) := ⟨_, rfl⟩
                  have hix := fun W => run_index_nums 38 8 (nums .u32 [a0, a1, a2, a3, a4, a5, a6, a7]).toArray (i' : Int) (.int .u32 X) Try.underlying38 (by omega) (by omega) (by rw [hX]; exact agg_at _ _ (by omega) (by simp; omega)) W
                  simp only [nums, List.map_cons, List.map_nil] at hix
                  have HX := Lib.hid hX
                  clear hX
                  have d0 : decide ((i' : Int) < 8) = true := decide_eq_true (by omega)
                  obtain ⟨i0, hi0, hz0, hz1, hz2⟩ := info_parts info5
                  have hol := outL_length [a0, a1, a2, a3, a4, a5, a6, a7] i'
                  have HOL := Lib.hid hol
                  clear hol
                  go_wp2_with (at_builtin; refine wpList_append_own _ rfl _ _ 31 rfl w.heap.size 5 i0 (.int .u8 0) 1 1 Try.underlying31 hi0 hz0 hz1 hz2 rfl (by decide) _ _ _ rfl (hown.out.alloc _) ⟨wr.heap.size, 0, none⟩ 4 4 [.int .u8 (X / 16777216 % 256), .int .u8 (X / 65536 % 256), .int .u8 (X / 256 % 256), .int .u8 (X % 256)] rfl rfl ?c1 ?c2 ?c3 ?c4 ?c5 ?_)
                  case c1 =>
                    intro j' u hj'
                    match j', hj' with
                    | 0, hj' => simp at hj'; subst hj'; simp [Addr.add]
                    | 1, hj' => simp at hj'; subst hj'; simp [Addr.add]
                    | 2, hj' => simp at hj'; subst hj'; simp [Addr.add]
                    | 3, hj' => simp at hj'; subst hj'; simp [Addr.add]
                  case c2 => intro u hu; simp at hu; rcases hu with rfl | rfl | rfl | rfl <;> rfl
                  case c3 => unfold maxLen; omega
                  case c4 => omega
                  case c5 => have := hbl4.out.size; simp; omega
                  · intro v' w1 hown' hgrow _
                    have hbl5 : Hid (Below w.heap.size w w1) := below_append hbl4 hown hgrow
                    have hown2 : Hid (w1.ownsRow w.heap.size 5 1 v' (4 * (i' + 1)) (nums .u8 (outL [a0, a1, a2, a3, a4, a5, a6, a7] (i' + 1)))) := by
                      rw [outL, ← HX.out, nums_append]; exact hown'
                    clear hown' hgrow hown hbl4
                    go_wp2
                    go_roundw
                    case rel => exact ⟨i' + 1, by omega, by go_num, hown2, hbl5⟩
                    case measure => simp [intOf]; omega
                · have hi8' : i' = 8 := by omega
                  have hcv := own_string (src := 31) (dst := 9) Try.underlying31 Try.underlying5 Try.underlying9 hown.out
                  have d0 : decide ((i' : Int) < 8) = false := decide_eq_false (by omega)
                  go_wp2
                  go_ret
                  exact ⟨congrArg (fun b => Ending.returned (Value.string b)) (sum_fin hj hlt HR.out HRs.out HM.out HM1.out HNB.out HA.out rfl), hbl4⟩
end Go.Proofs.Ytlpkgngjofabaaa.PSaltSeals

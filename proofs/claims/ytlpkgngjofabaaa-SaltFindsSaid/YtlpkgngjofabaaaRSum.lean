/- Walk of the reference's digest. -/
import Derived.Test.YtlpkgngjofabaaaRTurn
namespace Go.Proofs.Ytlpkgngjofabaaa.PSaltSeals
open Go.RowKit Go.Proofs.YtlpkgngjofabaaaW.PrintWords Go.Proofs.YtlpkgngjofabaaaW.PrintLast Go.Proofs.YtlpkgngjofabaaaW.PrintMore
set_option linter.unusedVariables false
set_option linter.unusedSimpArgs false

theorem bytesOf_append (a b : ByteArray) : bytesOf (a ++ b) = bytesOf a ++ bytesOf b := by
  unfold bytesOf; rw [ByteArray.data_append, Array.toList_append, List.map_append]
theorem zeros_succ (k : Nat) : zeros (k + 1) = zeros k ++ ⟨#[0]⟩ := by
  ext1
  rw [ByteArray.data_append]
  show (List.replicate (k + 1) (0 : UInt8)).toArray = (List.replicate k 0).toArray ++ #[0]
  simp [Array.replicate_succ]

theorem BRow.form {W : World} {base : Nat} {v : Value} {xs : List Int} (h : BRow W base v xs) : ∃ g cap, v = .slice (some ⟨g, 0, none⟩) xs.length cap ∧ base ≤ g ∧ g < W.heap.size := by
  obtain ⟨g, cap, cur, fr, rfl, hb, hc, _⟩ := h
  exact ⟨g, cap, rfl, hb, (Array.getElem?_eq_some_iff.1 hc).1⟩
theorem bytes_len (T : ByteArray) (k : Nat) : (bytesOf (T ++ zeros k)).length = T.size + k := by
  rw [bytesOf_length, ByteArray.size_append, zeros_size]
theorem brow_len {W : World} {base : Nat} {v : Value} {T : ByteArray} {n k : Nat} (h : BRow W base v (bytesOf (T ++ lenB n k) ++ [(n : Int) * 8 / 2 ^ (8 * (7 - k)) % 256])) : BRow W base v (bytesOf (T ++ lenB n (k + 1))) := by
  rw [← lenB_succ, ← ByteArray.append_assoc, bytesOf_append]
  have e : bytesOf (strOfNums [(n : Int) * 8 / 2 ^ (8 * (7 - k)) % 256]) = [(n : Int) * 8 / 2 ^ (8 * (7 - k)) % 256] := by
    unfold bytesOf
    rw [strOfNums_data]
    simp only [List.map_cons, List.map_nil, List.cons.injEq, and_true]
    have e : (n : Int) * 8 / 2 ^ (8 * (7 - k)) % 256 = ((n * 8 / 2 ^ (8 * (7 - k)) % 256 : Nat) : Int) := by rw [Int.natCast_emod, Int.natCast_ediv, Int.natCast_mul, Int.natCast_pow]; rfl
    rw [e, Int.toNat_natCast]
    simp
  rw [e]; exact h
theorem bytes_len2 (T : ByteArray) (n k : Nat) : (bytesOf (T ++ lenB n k)).length = T.size + k := by
  rw [bytesOf_length, ByteArray.size_append, lenB_size]
theorem brow_zero {W : World} {base : Nat} {v : Value} {T : ByteArray} {k : Nat} (h : BRow W base v (bytesOf (T ++ zeros k) ++ [0])) : BRow W base v (bytesOf (T ++ zeros (k + 1))) := by
  rw [zeros_succ, ← ByteArray.append_assoc, bytesOf_append]; exact h

theorem bt_ext (m : ByteArray) (a : Nat) (i : Int) (h0 : 0 ≤ i) (h1 : i < 64) (hm : a + 64 ≤ m.size) : bt (m.extract a (a + 64)) i = bt m ((a : Int) + i) := by
  have h2 : i.toNat < (m.extract a (a + 64)).size := by rw [ByteArray.size_extract]; omega
  have h3 : ((a : Int) + i).toNat < m.size := by omega
  rw [← bt_at _ _ h2, ← bt_at _ _ h3]
  have e : ((a : Int) + i).toNat = a + i.toNat := by omega
  simp only [ByteArray.getElem_extract, e]

theorem BRow.lt {W : World} {base g n cap : Nat} {xs : List Int} (h : BRow W base (.slice (some ⟨g, 0, none⟩) n cap) xs) : g < W.heap.size := by
  obtain ⟨g', cap', cur, fr, he, _, hc, _⟩ := h
  have := congrArg Value.ownBlock he
  simp [Value.ownBlock] at this
  subst this
  exact (Array.getElem?_eq_some_iff.1 hc).1
theorem cell_off {W : World} {n g i j : Nat} {u x : Value} (h : W.cell? ⟨g, i, none⟩ = some x) (hne : i ≠ j) : ((W.drewN n).setCell ⟨g, j, none⟩ u).cell? ⟨g, i, none⟩ = some x := by
  have : (W.drewN n).cell? ⟨g, i, none⟩ = some x := h
  rw [← this]
  exact World.cell?_setCell_other _ _ _ _ (by intro e; cases e; exact hne rfl)
theorem prow_cells {W : World} {g : Nat} {ws : List Int} (h : PRow W g 36 ws) : ∀ j u, (nums .u32 ws)[j]? = some u → W.cell? ((⟨g, 0, none⟩ : Addr).add j) = some u := by
  intro j u hj
  obtain ⟨cur, hc, hp⟩ := h
  rw [add_plain, blk_cell hc]
  exact hp j u hj
theorem ones_nums (k : IntKind) (ws : List Int) : ∀ u ∈ nums k ws, u.oneCell' = true := by
  intro u hu
  simp only [nums, List.mem_map] at hu
  obtain ⟨x, _, rfl⟩ := hu
  rfl
theorem PRow.c8 {W : World} {g t : Nat} {a0 a1 a2 a3 a4 a5 a6 a7 : Int} (h : PRow W g t [a0, a1, a2, a3, a4, a5, a6, a7]) :
    W.cell? ⟨g, 0, none⟩ = some (.int .u32 a0) ∧ W.cell? ⟨g, 1, none⟩ = some (.int .u32 a1) ∧ W.cell? ⟨g, 2, none⟩ = some (.int .u32 a2) ∧ W.cell? ⟨g, 3, none⟩ = some (.int .u32 a3) ∧ W.cell? ⟨g, 4, none⟩ = some (.int .u32 a4) ∧ W.cell? ⟨g, 5, none⟩ = some (.int .u32 a5) ∧ W.cell? ⟨g, 6, none⟩ = some (.int .u32 a6) ∧ W.cell? ⟨g, 7, none⟩ = some (.int .u32 a7) := by
  obtain ⟨cur, hc, hp⟩ := h
  exact ⟨(blk_cell hc 0).trans (hp 0 _ rfl), (blk_cell hc 1).trans (hp 1 _ rfl), (blk_cell hc 2).trans (hp 2 _ rfl), (blk_cell hc 3).trans (hp 3 _ rfl), (blk_cell hc 4).trans (hp 4 _ rfl), (blk_cell hc 5).trans (hp 5 _ rfl), (blk_cell hc 6).trans (hp 6 _ rfl), (blk_cell hc 7).trans (hp 7 _ rfl)⟩
theorem rs_step {W : World} {h ws : List Int} {t : Nat} {a0 a1 a2 a3 a4 a5 a6 a7 X K x y : Int} (ha : vrun h ws t = [a0, a1, a2, a3, a4, a5, a6, a7]) (hX : X = rd ws (t : Int)) (hK : K = rd K64 (t : Int))
    (hx : x = (a7 + Go.bits .xor .u32 (Go.bits .xor .u32 (rotr a4 6) (rotr a4 11)) (rotr a4 25) + Go.bits .or .u32 (Go.bits .and .u32 a4 a5) (Go.bits .and .u32 (Go.bits .xor .u32 IntKind.u32.max a4) a6) + K + X + (Go.bits .xor .u32 (Go.bits .xor .u32 (rotr a0 2) (rotr a0 13)) (rotr a0 22) + Go.bits .or .u32 (Go.bits .or .u32 (Go.bits .and .u32 a0 a1) (Go.bits .and .u32 a0 a2)) (Go.bits .and .u32 a1 a2))) % 4294967296)
    (hy : y = (a3 + (a7 + Go.bits .xor .u32 (Go.bits .xor .u32 (rotr a4 6) (rotr a4 11)) (rotr a4 25) + Go.bits .or .u32 (Go.bits .and .u32 a4 a5) (Go.bits .and .u32 (Go.bits .xor .u32 IntKind.u32.max a4) a6) + K + X)) % 4294967296) :
    Hid (PRow (W.alloc (.cells #[.int .u32 x, .int .u32 a0, .int .u32 a1, .int .u32 a2, .int .u32 y, .int .u32 a4, .int .u32 a5, .int .u32 a6] 36)) W.heap.size 36 (vrun h ws (t + 1))) := by
  rw [← choose_eq, ← most_eq] at hx
  rw [← choose_eq] at hy
  have e : vrun h ws (t + 1) = [x, a0, a1, a2, y, a4, a5, a6] := by
    rw [vrun, ha, ← hX, ← hK, vstep, List.cons.injEq]
    refine ⟨?_, ?_⟩
    · rw [hx]; unfold big maj; omega
    · have : y = (a3 + big a4 a5 a6 a7 K X) % 4294967296 := by rw [hy]; unfold big; omega
      rw [this]
  rw [e]
  refine ⟨_, blk_new W _, fun j u hj => ?_⟩
  rw [← Array.getElem?_toList]
  exact hj
theorem rs_step2 {W : World} {h ws : List Int} {t : Nat} {a0 a1 a2 a3 a4 a5 a6 a7 X K one two : Int} (ha : vrun h ws t = [a0, a1, a2, a3, a4, a5, a6, a7]) (hX : X = rd ws (t : Int)) (hK : K = rd K64 (t : Int))
    (h1 : one = (a7 + Go.bits .xor .u32 (Go.bits .xor .u32 (rotr a4 6) (rotr a4 11)) (rotr a4 25) + Go.bits .or .u32 (Go.bits .and .u32 a4 a5) (Go.bits .and .u32 (Go.bits .xor .u32 IntKind.u32.max a4) a6) + K + X) % 4294967296)
    (h2 : two = (Go.bits .xor .u32 (Go.bits .xor .u32 (rotr a0 2) (rotr a0 13)) (rotr a0 22) + Go.bits .or .u32 (Go.bits .or .u32 (Go.bits .and .u32 a0 a1) (Go.bits .and .u32 a0 a2)) (Go.bits .and .u32 a1 a2)) % 4294967296) :
    Hid (PRow (W.alloc (.cells #[.int .u32 ((one + two) % 4294967296), .int .u32 a0, .int .u32 a1, .int .u32 a2, .int .u32 ((a3 + one) % 4294967296), .int .u32 a4, .int .u32 a5, .int .u32 a6] 36)) W.heap.size 36 (vrun h ws (t + 1))) := by
  refine rs_step ha hX hK ?_ ?_
  · rw [h1, h2]
    exact (Int.add_emod _ _ _).symm
  · rw [h1]
    exact Int.add_emod_emod _ _ _
set_option maxRecDepth 100000 in
theorem wp_build8 {a : Act} {w : World} {K : Act → World → Prop} {Q : Exit → Act → World → Prop} {dst : Option Tmp} {pos : String} {after : Array Edge} (t0 t1 t2 t3 t4 t5 t6 t7 : Operand)
    (v0 v1 v2 v3 v4 v5 v6 v7 : Int) (h0 : a.eval t0 = .int .u32 v0) (h1 : a.eval t1 = .int .u32 v1) (h2 : a.eval t2 = .int .u32 v2) (h3 : a.eval t3 = .int .u32 v3) (h4 : a.eval t4 = .int .u32 v4) (h5 : a.eval t5 = .int .u32 v5) (h6 : a.eval t6 = .int .u32 v6) (h7 : a.eval t7 = .int .u32 v7)
    (hK : K (a.put dst (.slice (some ⟨w.heap.size, 0, none⟩) 8 8)) (w.alloc (.cells #[.int .u32 v0, .int .u32 v1, .int .u32 v2, .int .u32 v3, .int .u32 v4, .int .u32 v5, .int .u32 v6, .int .u32 v7] 36))) :
    Oper.wp Try.prog { dst := dst, op := Op.buildSlice 42 8 #[(0, t0), (1, t1), (2, t2), (3, t3), (4, t4), (5, t5), (6, t6), (7, t7)], type := 42, pos := pos, after := after, guard := none } a w K Q := by
  unfold Oper.wp
  simp only [execOp]
  simp only [List.map_toArray, List.map_cons, List.map_nil, h0, h1, h2, h3, h4, h5, h6, h7]
  go_simp
  exact hK
theorem brow_far {W : World} {base g n cap v i : Nat} {xs : List Int} {u : Value} (h : Hid (BRow W base (.slice (some ⟨g, 0, none⟩) n cap) xs)) (hne : g ≠ v) : Hid (BRow (W.setCell ⟨v, i, none⟩ u) base (.slice (some ⟨g, 0, none⟩) n cap) xs) := by
  obtain ⟨g', cap', cur, fr, he, hb, hc, h4⟩ := h
  have e := congrArg Value.ownBlock he
  simp [Value.ownBlock] at e
  subst e
  exact ⟨g, cap', cur, fr, he, hb, (Below.heap_setCell W ⟨v, i, none⟩ u g hne).trans hc, h4⟩
theorem brow_below {W W' : World} {base g n cap B : Nat} {xs : List Int} (h : Hid (BRow W base (.slice (some ⟨g, 0, none⟩) n cap) xs)) (hb : Hid (Below B W W')) (hg : g < B) : Hid (BRow W' base (.slice (some ⟨g, 0, none⟩) n cap) xs) := by
  obtain ⟨g', cap', cur, fr, he, hbb, hc, h4⟩ := h
  have e := congrArg Value.ownBlock he
  simp [Value.ownBlock] at e
  subst e
  exact ⟨g, cap', cur, fr, he, hbb, (hb.out.block g hg).trans hc, h4⟩
theorem rs_add {W : World} {g i : Nat} {h v : List Int} {X Y : Int} (hg : Hid (PRow W g 36 (hadd h v i))) (hX : X = rd v (i : Int)) (hY : Y = rd (hadd h v i) (i : Int)) :
    Hid (PRow (W.setCell ⟨g, i, none⟩ (.int .u32 ((Y + X) % 4294967296))) g 36 (hadd h v (i + 1))) := by
  have h0 : ∀ j, j ≤ i → rd (hadd h v j) (i : Int) = rd h (i : Int) := by
    intro j
    induction j with
    | zero => intro _; rfl
    | succ j ih => intro hj; rw [hadd, rd_set_ne _ _ _ _ (by omega) (by omega)]; exact ih (by omega)
  have := PRow.set hg.out i ((Y + X) % 4294967296)
  rw [hadd, ← hX, ← h0 i (Nat.le_refl _), ← hY]
  exact this
theorem strOfNums_append (a b : List Int) : strOfNums (a ++ b) = strOfNums a ++ strOfNums b := by
  ext1; rw [ByteArray.data_append]; simp [strOfNums]
theorem out_succ (l : List Int) (i : Nat) : strOfNums (outL l i) ++ strOfNums [rd l i / 16777216 % 256, rd l i / 65536 % 256, rd l i / 256 % 256, rd l i % 256] = strOfNums (outL l (i + 1)) := by
  rw [outL, strOfNums_append]
def rs_T41 : Bool × List (List Nat × List Nat) := (true, [([], []), ([], []), ([], []), ([1, 2], [1, 2]), ([3], [3]), ([4], [4]), ([5], [5]), ([], []), ([], []), ([7, 8], [7, 8]), ([9], [9]), ([10], [10]), ([11], [11]), ([], []), ([], []), ([13, 14], [13, 14]), ([15], [15]), ([16], [16]), ([17], [17]), ([], []), ([], []), ([19, 20], [19, 20]), ([21], [21]), ([22], [22]), ([6, 12, 18, 23], [6, 12, 18, 23]), ([24], [24]), ([0, 25], [0, 25]), ([26, 0, 1, 2, 3, 4, 5, 6, 7, 8, 9, 10, 11, 12, 13, 14, 15, 16, 17, 18, 19, 20, 21, 22, 23, 24, 25, 26], [0, 26])])
def rs_B41 : List Nat := [0, 0, 0, 6, 14, 30, 62, 0, 0, 384, 896, 1920, 3968, 0, 0, 24576, 57344, 122880, 253952, 0, 0, 1572864, 3670016, 7864320, 16777214, 33554430, 67108863, 134217727]
theorem rs_tab41 : rtab .any (opsOf Try.f11 41) = rs_T41 := by kernel_rfl
theorem rs_bits41 : waitsOk rs_T41.2 rs_B41 = true := by kernel_rfl
theorem cell_new {W : World} {a : Addr} {x : Value} {o : Obj} (h : W.cell? a = some x) : ((W.alloc o).drew).cell? a = some x :=
  (World.cell?_alloc_lt _ _ _ (World.block_lt_of_cell? W a h)).trans h
theorem hfold_add (h : List Int) (m a b : ByteArray) (q : Nat) (hm : m = a ++ b) (ha : 64 * q = a.size) : ∀ k, hfold h m (q + k) = hfold (hfold h a q) b k := by
  have h0 : ∀ j, j ≤ q → hfold h m j = hfold h a j := by
    intro j
    induction j with
    | zero => intro _; rfl
    | succ j ih =>
      intro hj
      rw [hfold, hfold, ih (by omega), hm]
      congr 1
      ext1
      rw [ByteArray.data_extract, ByteArray.data_extract, ByteArray.data_append, Array.extract_append]
      have : a.data.size = a.size := rfl
      rw [this, show 64 * j - a.size = 0 by omega, show 64 * j + 64 - a.size = 0 by omega]
      simp
  intro k
  induction k with
  | zero => exact h0 q (Nat.le_refl _)
  | succ k ih =>
    rw [← Nat.add_assoc, hfold, hfold, ih, hm]
    congr 1
    ext1
    rw [ByteArray.data_extract, ByteArray.data_extract, ByteArray.data_append, Array.extract_append]
    have e : a.data.size = a.size := rfl
    rw [e, show 64 * (q + k) - a.size = 64 * k by omega, show 64 * (q + k) + 64 - a.size = 64 * k + 64 by omega]
    rw [Array.extract_empty_of_size_le_start]
    · simp
    · rw [e]; omega
theorem hfold_pre (h : List Int) (s : ByteArray) (q : Nat) (hq : 64 * q ≤ s.size) : ∀ j, j ≤ q → hfold h (s.extract 0 (64 * q)) j = hfold h s j := by
  intro j
  induction j with
  | zero => intro _; rfl
  | succ j ih =>
    intro hj
    rw [hfold, hfold, ih (by omega), ext_ext _ _ _ _ _ (by omega) hq]
    simp
theorem rs_fin {s m : ByteArray} {z nb : Nat} (hz : z = (119 - s.size % 64) % 64) (hm : m = s ++ ⟨#[128]⟩ ++ zeros z ++ lenB s.size 8) (hnb : m.size = 64 * nb) : strOfNums (outL (hfold H0 m nb) 8) = digest s := by
  have hp : m = s.extract 0 (64 * (s.size / 64)) ++ padTail s := by
    rw [hm, hz]
    unfold padTail
    rw [← ByteArray.append_assoc, ← ByteArray.append_assoc, ← ByteArray.append_assoc]
    congr 3
    rw [ByteArray.extract_append_extract]
    simp
  have hs : m.size = 64 * (s.size / 64) + (padTail s).size := by rw [hp, ByteArray.size_append, ext_size _ _ _ (by omega) (by omega)]; omega
  have hn : nb = s.size / 64 + (padTail s).size / 64 := by omega
  unfold digest
  rw [hn, hfold_add H0 m (s.extract 0 (64 * (s.size / 64))) (padTail s) (s.size / 64) hp (by rw [ext_size _ _ _ (by omega) (by omega)]; omega), hfold_pre _ _ _ (by omega) _ (Nat.le_refl _)]
theorem rs_new {W : World} {g : Nat} {b : ByteArray} {t : Nat} {X Y Z V x : Int} (h : Hid (PRow W g 36 (wsch b t))) (h16 : ¬ t < 16) (hX : X = rd (wsch b t) ((t : Int) - 15)) (hY : Y = rd (wsch b t) ((t : Int) - 2)) (hZ : Z = rd (wsch b t) ((t : Int) - 16)) (hV : V = rd (wsch b t) ((t : Int) - 7))
    (hx : x = (Z + Go.bits .xor .u32 (Go.bits .xor .u32 (rotr X 7) (rotr X 18)) (X / 8) + V + Go.bits .xor .u32 (Go.bits .xor .u32 (rotr Y 17) (rotr Y 19)) (Y / 1024)) % 4294967296) :
    Hid (PRow (W.setCell ⟨g, t, none⟩ (.int .u32 x)) g 36 (wsch b (t + 1))) := by
  have := PRow.set h.out t x
  rw [show wsch b (t + 1) = (wsch b t).set t x from by
    rw [wsch, wword, if_neg h16, wnew, ← hX, ← hY, ← hZ, ← hV, hx]; rfl]
  exact this
theorem rs_byte {W : World} {g A t : Nat} {m : ByteArray} {x y q u : Int} (h : Hid (PRow W g 36 (wsch (m.extract A (A + 64)) t))) (h16 : t < 16) (bA : A + 64 ≤ m.size)
    (bx : 0 ≤ x ∧ x ≤ 255) (by_ : 0 ≤ y ∧ y ≤ 255) (bq : 0 ≤ q ∧ q ≤ 255) (bu : 0 ≤ u ∧ u ≤ 255) (hx : x = bt m ((A : Int) + 4 * (t : Int))) (hy : y = bt m ((A : Int) + 4 * (t : Int) + 1)) (hq : q = bt m ((A : Int) + 4 * (t : Int) + 2)) (hu : u = bt m ((A : Int) + 4 * (t : Int) + 3)) :
    Hid (PRow (W.setCell ⟨g, t, none⟩ (.int .u32 (Go.bits .or .u32 (Go.bits .or .u32 (Go.bits .or .u32 (x * 16777216) (y * 65536)) (q * 256)) u))) g 36 (wsch (m.extract A (A + 64)) (t + 1))) := by
  have := PRow.set h.out t (x * 16777216 + y * 65536 + q * 256 + u)
  rw [rword_eq _ _ _ _ bx by_ bq bu, wsch, wword, if_pos h16, wacc4, bt_ext _ _ _ (by omega) (by omega) bA, bt_ext _ _ _ (by omega) (by omega) bA, bt_ext _ _ _ (by omega) (by omega) bA, bt_ext _ _ _ (by omega) (by omega) bA]
  rw [← Int.add_assoc, ← Int.add_assoc, ← Int.add_assoc, ← hx, ← hy, ← hq, ← hu]
  exact this

set_option maxHeartbeats 200000000 in
set_option maxRecDepth 100000 in
theorem rsum_calls (s : ByteArray) (hs : s.size ≤ 4000) (w : World) :
    Calls Try.prog 11 #[.string s] w fun e w' => e = .returned (.string (digest s)) ∧ Below w.heap.size w w' := by
  obtain ⟨z, hz⟩ : ∃ z, z = (119 - s.size % 64) % 64 := ⟨_, rfl⟩
  have hz1 : z < 64 := by omega
  have hz2 : (s.size + 1 + z) % 64 = 56 := by omega
  have HZ := Lib.hid hz
  have HZ2 := Lib.hid hz2
  clear hz hz2
  obtain ⟨T, hT⟩ : ∃ T : ByteArray, T = s ++ ⟨#[128]⟩ := ⟨_, rfl⟩
  have hTs : T.size = s.size + 1 := by rw [hT, ByteArray.size_append]; rfl
  have HT := Lib.hid hT
  have HTs := Lib.hid hTs
  have bT : T.size ≤ 4001 := by omega
  clear hT hTs
  have hcv := fun W => Lib.run_convert_string_bytes (P := Try.prog) W 9 31 5 T Try.underlying9 Try.underlying31 Try.underlying5
  rw [HT.out] at hcv
  go_enter Try.func11, Try.ntmps11
  go_wp2_with fail
  refine (table8_calls w).mono ?_
  rintro e w1 ⟨gh, ch, rfl, hgh, hh, hb1⟩
  go_wp2_with fail
  refine (table64_calls w1).mono ?_
  rintro e w2 ⟨gk, ck, rfl, hgk, hk, hb2⟩
  have hstart : Hid (BRow (Lib.bytesWorld w2 5 (s ++ ⟨#[128]⟩)) w2.heap.size (.slice (some ⟨w2.heap.size, 0, none⟩) (s.size + 1) (grownCap w2 (s.size + 1) 0 5)) (bytesOf (T ++ zeros 0))) := by
    have := BRow.of_conv w2 w2.heap.size (Nat.le_refl _) T
    rw [HTs.out, HT.out] at this
    rw [HT.out, show (s ++ ⟨#[128]⟩ ++ zeros 0 : ByteArray) = s ++ ⟨#[128]⟩ from by ext1; simp [zeros]]
    exact this
  have hbl0 : Hid (Below w2.heap.size w2 (Lib.bytesWorld w2 5 (s ++ ⟨#[128]⟩))) := bytes_below (Below.refl _ _) (Nat.le_refl _) 5 _
  have hsz0 : w2.heap.size ≤ (Lib.bytesWorld w2 5 (s ++ ⟨#[128]⟩)).heap.size := hbl0.out.size
  go_wp2
  generalize Lib.bytesWorld w2 5 (s ++ ⟨#[128]⟩) = W0 at *
  go_loopw [5] (fun v5 wr => ∃ k : Nat, k ≤ z ∧ Hid (BRow wr w2.heap.size v5 (bytesOf (T ++ zeros k))) ∧ Hid (Below w2.heap.size w2 wr)) (fun v5 _ => match v5 with | .slice _ n _ => 5000 - n | _ => 0)
  case atStart => exact ⟨0, by omega, hstart, hbl0⟩
  case round =>
    obtain ⟨k, hk, hB, hbl⟩ := hrel
    clear hstart hbl0 hsz0
    obtain ⟨g, cap, rfl, hg, hgs⟩ := hB.out.form
    rw [bytes_len] at hB ⊢
    obtain ⟨L, hL⟩ : ∃ L, L = T.size + k := ⟨_, rfl⟩
    rw [← hL] at hB ⊢
    have bL : L ≤ 4100 := by omega
    have HL := Lib.hid hL
    clear hL
    by_cases hkz : k < z
    · have t1 : (((L : Int) % 64) == 56) = false := by
        have := HL.out; have := HZ2.out; have := HTs.out
        rw [beq_eq_false_iff_ne]; omega
      have t2 : (((L : Int) % 64) != 56) = true := by rw [bne, t1]; rfl
      go_wp2_with (at_builtin; refine wpList_append_brow (w0 := w2) rfl (.tmp 32) (.tmp 33) rfl w2.heap.size _ (bytesOf (T ++ zeros k)) 0 rfl rfl hB.out hbl.out hbl.out.size (by rw [bytes_len]; omega) ?_; intro v' w' hB' hbl' hsz')
      have hf' := hB'.form
      obtain ⟨g', cap', rfl, hg', hgs'⟩ := hf'
      rw [List.length_append, bytes_len] at hB' ⊢
      go_roundw
      case rel => exact ⟨k + 1, by omega, by rw [show T.size + k + [(0 : Int)].length = T.size + k + 1 from rfl] at *; exact brow_zero hB', hbl'⟩
      case measure => have := HL.out; simp; omega
    · have hk2 : k = z := by omega
      have t1 : (((L : Int) % 64) == 56) = true := by
        have := HL.out; have := HZ2.out; have := HTs.out
        rw [beq_iff_eq]; omega
      have t2 : (((L : Int) % 64) != 56) = false := by rw [bne, t1]; rfl
      obtain ⟨U, hU⟩ : ∃ U, U = T ++ zeros k := ⟨_, rfl⟩
      have hUs : U.size = L := by rw [hU, ByteArray.size_append, zeros_size]; exact HL.out.symm
      rw [← hU] at hB
      have hB2 : Hid (BRow wr w2.heap.size (.slice (some ⟨g, 0, none⟩) L cap) (bytesOf (U ++ lenB s.size 0))) := by rw [lenB_zero]; exact hB
      have HU := Lib.hid hU
      have HUs := Lib.hid hUs
      have HK2 := Lib.hid hk2
      clear hU hUs hk2 hB hkz hk
      have bs : (s.size : Int) ≤ 4000 := by omega
      go_wp2
      go_loopw [5, 7] (fun v5 v7 wx => ∃ i : Nat, i ≤ 8 ∧ v7 = .int .i64 (7 - (i : Int)) ∧ Hid (BRow wx w2.heap.size v5 (bytesOf (U ++ lenB s.size i))) ∧ Hid (Below w2.heap.size w2 wx)) (fun _ v7 _ => (intOf v7 + 1).toNat)
      case atStart => exact ⟨0, by omega, rfl, hB2, hbl⟩
      case round =>
        obtain ⟨i, hi, rfl, hB3, hbl3⟩ := hrel
        clear hB2 hbl
        by_cases hi8 : i < 8
        · have p0 : (0 : Int) ≤ 7 - (i : Int) := by omega
          have p1 : (i : Int) ≤ 7 := by omega
          have d0 : decide ((0 : Int) ≤ 7 - (i : Int)) = true := decide_eq_true p0
          go_wp2_with (at_builtin; refine wpList_append_brow (w0 := w2) rfl (.tmp 43) (.tmp 49) rfl w2.heap.size _ (bytesOf (U ++ lenB s.size i)) _ rfl rfl hB3.out hbl3.out hbl3.out.size (by rw [bytes_len2]; have := HUs.out; omega) ?_; intro v' w' hB' hbl' hsz')
          go_roundw
          case rel => exact ⟨i + 1, by omega, by congr 1; omega, brow_len hB', hbl'⟩
          case measure => simp [intOf]; omega
        · have hi2 : i = 8 := by omega
          rw [hi2] at hB3
          obtain ⟨m, hm⟩ : ∃ m, m = U ++ lenB s.size 8 := ⟨_, rfl⟩
          rw [← hm] at hB3
          have hms : m.size = L + 8 := by rw [hm, ByteArray.size_append, lenB_size, HUs.out]
          obtain ⟨nb, hnb⟩ : ∃ nb, m.size = 64 * nb := ⟨m.size / 64, by have := HL.out; have := HZ2.out; have := HTs.out; have := HK2.out; omega⟩
          have bM : m.size ≤ 5000 := by omega
          have HM := Lib.hid hm
          have HNB := Lib.hid hnb
          clear hm hms hnb hi2
          obtain ⟨g2, cap2, rfl, hg2, hgs2⟩ := hB3.out.form
          rw [bytesOf_length] at hB3 ⊢
          have d0 : decide ((0 : Int) ≤ 7 - (i : Int)) = false := decide_eq_false (by omega)
          have d1 : decide ((i : Int) ≤ 7) = false := decide_eq_false (by omega)
          have l1 : gh < w1.heap.size := hh.out.lt
          have l2 : gk < w2.heap.size := hk.out.lt
          have hh3 : Hid (PRow wr gh 36 (hfold H0 m 0)) := (hh.out.below hb2.out l1).below hbl3.out (Nat.lt_of_lt_of_le l1 hb2.out.size)
          have hk3 : Hid (PRow wr gk 36 K64) := hk.out.below hbl3.out l2
          have hw3 : Hid (Below w.heap.size w wr) := (hb1.out.trans (hb2.out.mono hb1.out.size)).trans (hbl3.out.mono (Nat.le_trans hb1.out.size hb2.out.size))
          have l3 : gh < gk := Nat.lt_of_lt_of_le l1 hgk
          have l4 : gk < g2 := Nat.lt_of_lt_of_le l2 hg2
          clear hh hk hbl3 hb1 hb2 hi hi8
          go_wp2
          clear d0 d1
          go_loopw [8] (fun v8 wx => ∃ j : Nat, j ≤ nb ∧ v8 = .int .i64 ((64 * j : Nat) : Int) ∧ Hid (PRow wx gh 36 (hfold H0 m j)) ∧ Hid (PRow wx gk 36 K64) ∧ Hid (BRow wx w2.heap.size (.slice (some ⟨g2, 0, none⟩) m.size cap2) (bytesOf m)) ∧ Hid (Below w.heap.size w wx)) (fun v8 _ => 5000 - (intOf v8).toNat)
          case atStart => exact ⟨0, by omega, rfl, hh3, hk3, hB3, hw3⟩
          case round =>
            obtain ⟨j, hj, rfl, hh4, hk4, hB4, hw4⟩ := hrel
            clear hh3 hk3 hB3 hw3 hgs2
            obtain ⟨A, hA⟩ : ∃ A, A = 64 * j := ⟨_, rfl⟩
            rw [← hA]
            have HA := Lib.hid hA
            clear hA
            by_cases hjn : j < nb
            · have bA : A + 64 ≤ m.size := by have := HA.out; have := HNB.out; omega
              have hmk : ∀ W : World, (Instr.makeSlice 42 (.int .i64 64) (.int .i64 64)).run Try.prog W = .ok (.slice (some ⟨W.heap.size, 0, none⟩) 64 64) (W.alloc (.cells (madeCells #[.int .u32 0] 64) 36)) := print_make (P := Try.prog) 42 36 .u32 4 Try.underlying42 info36 (by decide) 64 (by omega)
              have hrow : Hid (PRow (wr.alloc (.cells (madeCells #[.int .u32 0] 64) 36)) wr.heap.size 36 (wsch (m.extract A (A + 64)) 0)) := PRow.of_own (own_made wr wr.heap.size 36 .u32 64 (Nat.le_refl _) (by omega))
              have hbl5 : Hid (Below wr.heap.size wr (wr.alloc (.cells (madeCells #[.int .u32 0] 64) 36))) := (Below.refl _ _).alloc (Nat.le_refl _) _
              have dA : decide ((A : Int) < (m.size : Int)) = true := decide_eq_true (by omega)
              have dA2 : decide (A < m.size) = true := decide_eq_true (by omega)
              go_wp2
              obtain ⟨W0, hW0⟩ : ∃ W0, W0 = wr := ⟨_, rfl⟩
              obtain ⟨gw, hgw⟩ : ∃ gw, gw = wr.heap.size := ⟨_, rfl⟩
              rw [← hgw] at hrow hbl5 ⊢
              have hbl6 : Hid (Below gw W0 (wr.alloc (.cells (madeCells #[.int .u32 0] 64) 36))) := by rw [hW0]; exact hbl5
              have HW0 := Lib.hid hW0
              have l5 : g2 < gw := by rw [hgw]; exact hB4.out.lt
              rw [← hW0] at hh4 hk4 hB4 hw4 hgw
              have HGW := Lib.hid hgw
              clear hW0 hgw hbl5 hmk dA dA2
              go_loopw [10] (fun v10 wx => ∃ t : Nat, t ≤ 64 ∧ v10 = .int .i64 t ∧ Hid (PRow wx gw 36 (wsch (m.extract A (A + 64)) t)) ∧ Hid (Below gw W0 wx)) (fun v10 _ => 64 - (intOf v10).toNat)
              case atStart => exact ⟨0, by omega, rfl, hrow, hbl6⟩
              case round =>
                obtain ⟨t, ht, rfl, hw, hbw⟩ := hrel
                clear hrow hbl6
                by_cases hlt : t < 64
                · have d0 : decide ((t : Int) < 64) = true := decide_eq_true (by omega)
                  have hBx : Hid (BRow wr w2.heap.size (.slice (some ⟨g2, 0, none⟩) m.size cap2) (bytesOf m)) := BRow.below hB4 (by rw [← HGW.out]; exact hbw)
                  by_cases h16 : t < 16
                  · obtain ⟨x, hx⟩ : ∃ x, x = bt m ((A : Int) + 4 * (t : Int)) := ⟨_, rfl⟩
                    obtain ⟨y, hy⟩ : ∃ y, y = bt m ((A : Int) + 4 * (t : Int) + 1) := ⟨_, rfl⟩
                    obtain ⟨q, hq⟩ : ∃ q, q = bt m ((A : Int) + 4 * (t : Int) + 2) := ⟨_, rfl⟩
                    obtain ⟨u, hu⟩ : ∃ u, u = bt m ((A : Int) + 4 * (t : Int) + 3) := ⟨_, rfl⟩
                    have bx := bt_range m ((A : Int) + 4 * (t : Int))
                    have by_ := bt_range m ((A : Int) + 4 * (t : Int) + 1)
                    have bq := bt_range m ((A : Int) + 4 * (t : Int) + 2)
                    have bu := bt_range m ((A : Int) + 4 * (t : Int) + 3)
                    rw [← hx] at bx
                    rw [← hy] at by_
                    rw [← hq] at bq
                    rw [← hu] at bu
                    have cx := BRow.cell hBx ((A : Int) + 4 * (t : Int)) (by omega) (by rw [bytesOf_length]; omega)
                    have cy := BRow.cell hBx ((A : Int) + 4 * (t : Int) + 1) (by omega) (by rw [bytesOf_length]; omega)
                    have cq := BRow.cell hBx ((A : Int) + 4 * (t : Int) + 2) (by omega) (by rw [bytesOf_length]; omega)
                    have cu := BRow.cell hBx ((A : Int) + 4 * (t : Int) + 3) (by omega) (by rw [bytesOf_length]; omega)
                    rw [rd_bytesOf, ← hx] at cx
                    rw [rd_bytesOf, ← hy] at cy
                    rw [rd_bytesOf, ← hq] at cq
                    rw [rd_bytesOf, ← hu] at cu
                    have HX := Lib.hid hx
                    have HY := Lib.hid hy
                    have HQ := Lib.hid hq
                    have HU_ := Lib.hid hu
                    obtain ⟨O, hO⟩ : ∃ O, O = rd (wsch (m.extract A (A + 64)) t) (t : Int) := ⟨_, rfl⟩
                    have cO := PRow.cell hw (t : Int) (by omega) (by rw [wsch_length]; omega)
                    rw [← hO, Int.toNat_natCast] at cO
                    have fO := PRow.frozen hw t
                    clear hx hy hq hu hO hBx
                    have d1 : decide ((t : Int) < 16) = true := decide_eq_true (by omega)
                    have e1 : IntKind.i64.wrap ((A : Int) + 4 * (t : Int) + 1) = (A : Int) + 4 * (t : Int) + 1 := IntWalk.i64_in _ (by omega)
                    have e2 : IntKind.i64.wrap ((A : Int) + 4 * (t : Int) + 2) = (A : Int) + 4 * (t : Int) + 2 := IntWalk.i64_in _ (by omega)
                    have e3 : IntKind.i64.wrap ((A : Int) + 4 * (t : Int) + 3) = (A : Int) + 4 * (t : Int) + 3 := IntWalk.i64_in _ (by omega)
                    have p0 : (0 : Int) ≤ (A : Int) + 4 * (t : Int) := by omega
                    have p1 : (0 : Int) ≤ (A : Int) + 4 * (t : Int) + 1 := by omega
                    have p2 : (0 : Int) ≤ (A : Int) + 4 * (t : Int) + 2 := by omega
                    have p3 : (0 : Int) ≤ (A : Int) + 4 * (t : Int) + 3 := by omega
                    have q0 : (A : Int) + 4 * (t : Int) < (m.size : Int) := by omega
                    have q1 : (A : Int) + 4 * (t : Int) + 1 < (m.size : Int) := by omega
                    have q2 : (A : Int) + 4 * (t : Int) + 2 < (m.size : Int) := by omega
                    have q3 : (A : Int) + 4 * (t : Int) + 3 < (m.size : Int) := by omega
                    have r0 : (t : Int) < 64 := by omega
                    have r1 : (0 : Int) ≤ (t : Int) := by omega
                    -- <<
                    as_aux_lemma =>
                    go_wp2
                    refine wp_region_still_tail 31 (by kernel_rfl) (by kernel_rfl) ?_
                    simp only [List.take_succ_cons, List.take_zero, List.drop_succ_cons, List.drop_zero]
                    change wpStill _ _ (wr.drew) _ _ _
                    have hw2 : Hid (PRow wr.drew gw 36 (wsch (m.extract A (A + 64)) t)) := hw
                    have hbw2 : Hid (Below gw W0 wr.drew) := below_drew hbw
                    have cx2 : wr.drew.cell? ⟨g2, ((A : Int) + 4 * (t : Int)).toNat, none⟩ = some (.int .u8 x) := cx
                    have cy2 : wr.drew.cell? ⟨g2, ((A : Int) + 4 * (t : Int) + 1).toNat, none⟩ = some (.int .u8 y) := cy
                    have cq2 : wr.drew.cell? ⟨g2, ((A : Int) + 4 * (t : Int) + 2).toNat, none⟩ = some (.int .u8 q) := cq
                    have cu2 : wr.drew.cell? ⟨g2, ((A : Int) + 4 * (t : Int) + 3).toNat, none⟩ = some (.int .u8 u) := cu
                    have cO2 : wr.drew.cell? ⟨gw, t, none⟩ = some (.int .u32 O) := cO
                    have fO2 : wr.drew.frozen? ⟨gw, t, none⟩ = false := fO
                    generalize hW2 : wr.drew = W2 at hw2 hbw2 cx2 cy2 cq2 cu2 cO2 fO2 ⊢
                    have HW2 := Lib.hid hW2
                    clear hW2 cx cy cq cu cO fO hw hbw
                    repeat still_step
                    refine wpStill_nil ?_
                    change wpList _ _ _ _ _ (wr.drew)
                    rw [HW2.out]
                    clear HW2
                    go_wp2
                    go_roundw
                    case rel => exact ⟨t + 1, by omega, by go_num, rs_byte hw2 h16 bA bx by_ bq bu HX.out HY.out HQ.out HU_.out, hbw2.out.setCell (Nat.le_refl _) _⟩
                    case measure => simp [intOf]; omega
                    -- >>
                  ·
                    -- <<
                    as_aux_lemma =>
                    have b16  : (16 : Int) ≤ (t : Int) := by omega
                    have hlen := wsch_length (m.extract A (A + 64)) t
                    obtain ⟨X, hX⟩ : ∃ X, X = rd (wsch (m.extract A (A + 64)) t) ((t : Int) - 15) := ⟨_, rfl⟩
                    obtain ⟨Y, hY⟩ : ∃ Y, Y = rd (wsch (m.extract A (A + 64)) t) ((t : Int) - 2) := ⟨_, rfl⟩
                    obtain ⟨Z, hZ⟩ : ∃ Z, Z = rd (wsch (m.extract A (A + 64)) t) ((t : Int) - 16) := ⟨_, rfl⟩
                    obtain ⟨V, hV⟩ : ∃ V, V = rd (wsch (m.extract A (A + 64)) t) ((t : Int) - 7) := ⟨_, rfl⟩
                    obtain ⟨O, hO⟩ : ∃ O, O = rd (wsch (m.extract A (A + 64)) t) (t : Int) := ⟨_, rfl⟩
                    have cX := PRow.cell hw ((t : Int) - 15) (by omega) (by omega)
                    have cY := PRow.cell hw ((t : Int) - 2) (by omega) (by omega)
                    have cZ := PRow.cell hw ((t : Int) - 16) (by omega) (by omega)
                    have cV := PRow.cell hw ((t : Int) - 7) (by omega) (by omega)
                    have cO := PRow.cell hw (t : Int) (by omega) (by omega)
                    rw [← hX] at cX
                    rw [← hY] at cY
                    rw [← hZ] at cZ
                    rw [← hV] at cV
                    rw [← hO, Int.toNat_natCast] at cO
                    have fO := PRow.frozen hw t
                    have HX := Lib.hid hX
                    have HY := Lib.hid hY
                    have HZ := Lib.hid hZ
                    have HV := Lib.hid hV
                    clear hX hY hZ hV hO hlen hBx
                    have d1 : decide ((t : Int) < 16) = false := decide_eq_false (by omega)
                    have e15 : IntKind.i64.wrap ((t : Int) - 15) = (t : Int) - 15 := IntWalk.i64_in _ (by omega)
                    have e2 : IntKind.i64.wrap ((t : Int) - 2) = (t : Int) - 2 := IntWalk.i64_in _ (by omega)
                    have e16 : IntKind.i64.wrap ((t : Int) - 16) = (t : Int) - 16 := IntWalk.i64_in _ (by omega)
                    have e7 : IntKind.i64.wrap ((t : Int) - 7) = (t : Int) - 7 := IntWalk.i64_in _ (by omega)
                    have p15 : (0 : Int) ≤ (t : Int) - 15 := by omega
                    have p2 : (0 : Int) ≤ (t : Int) - 2 := by omega
                    have p16 : (0 : Int) ≤ (t : Int) - 16 := by omega
                    have p7 : (0 : Int) ≤ (t : Int) - 7 := by omega
                    have q15 : (t : Int) - 15 < 64 := by omega
                    have q2 : (t : Int) - 2 < 64 := by omega
                    have q16 : (t : Int) - 16 < 64 := by omega
                    have q7 : (t : Int) - 7 < 64 := by omega
                    have q0 : (t : Int) < 64 := by omega
                    have r0 : (0 : Int) ≤ (t : Int) := by omega
                    have r15 : (15 : Int) ≤ (t : Int) := by omega
                    have r2 : (2 : Int) ≤ (t : Int) := by omega
                    have r7 : (7 : Int) ≤ (t : Int) := by omega
                    rw [show ((t : Int) - 15).toNat = t - 15 by omega] at cX
                    rw [show ((t : Int) - 2).toNat = t - 2 by omega] at cY
                    go_wp2
                    clear cX cY
                    go_region_held3 (fun w' => w'.cell? ⟨gw, ((t : Int) - 16).toNat, none⟩ = some (.int .u32 Z) ∧ w'.cell? ⟨gw, ((t : Int) - 7).toNat, none⟩ = some (.int .u32 V)) (first | exact ⟨cZ, cV⟩ | exact ⟨cell_off cZ (by omega), cell_off cV (by omega)⟩) ((go_at_call 17; refine (rturn_any _ _ _ (by decide)).mono ?_; rintro e w' ⟨rfl, m', rfl⟩))
                    go_wp2
                    go_roundw
                    case rel => exact ⟨t + 1, by omega, by go_num, rs_new (W := wr.drewN _) hw h16 HX.out HY.out HZ.out HV.out (by omega), (pw_below_drewN hbw _).setCell (Nat.le_refl _) _⟩
                    case measure => simp [intOf]; omega
                    -- >>
                · have ht64 : t = 64 := by omega
                  rw [ht64] at hw
                  have d0 : decide ((t : Int) < 64) = false := decide_eq_false (by omega)
                  have l6 : gw < wr.heap.size := hw.out.lt
                  have hW0s := HGW.out
                  have hh5 : Hid (PRow wr gh 36 (hfold H0 m j)) := hh4.out.below hbw.out (by omega)
                  have hk5 : Hid (PRow wr gk 36 K64) := hk4.out.below hbw.out (by omega)
                  have hB5 : Hid (BRow wr w2.heap.size (.slice (some ⟨g2, 0, none⟩) m.size cap2) (bytesOf m)) := BRow.below hB4 (by rw [← hW0s]; exact hbw)
                  have hw5 : Hid (Below w.heap.size w wr) := hw4.out.trans (hbw.out.mono (by rw [hW0s]; exact hw4.out.size))
                  obtain ⟨a0, a1, a2, a3, a4, a5, a6, a7, ha⟩ := eight _ (hfold_length H0 m j rfl)
                  obtain ⟨i0, hi0, hz0, hz1, hz2⟩ := info_parts info36
                  have hown0 : (wr.alloc (.cells #[] 36)).ownsRow (gw + 1) 36 1 (.slice (some ⟨wr.heap.size, 0, none⟩) 0 0) 0 [] := ⟨rfl, .inr ⟨wr.heap.size, 0, #[], rfl, by omega, blk_new wr _, Nat.le_refl _, by unfold maxLen; omega, rfl, rfl⟩⟩
                  have hcs := prow_cells (show PRow (wr.alloc (.cells #[] 36)) gh 36 [a0, a1, a2, a3, a4, a5, a6, a7] from by rw [← ha]; exact hh5.out.below (B := wr.heap.size) ((Below.refl _ _).alloc (Nat.le_refl _) _) hh5.out.lt)
                  have Ha := Lib.hid ha
                  have HT64 := Lib.hid ht64
                  clear ha ht64 hh4 hk4 hB4 hw4 hW0s ht hlt
                  go_wp2_with (at_builtin; refine wpList_append_own _ rfl (.tmp 142) (.tmp 143) 42 rfl (gw + 1) 36 i0 (.int .u32 0) 1 4 Try.underlying42 hi0 hz0 hz1 hz2 rfl (by decide) _ _ _ rfl hown0 ⟨gh, 0, none⟩ 8 ch (nums .u32 [a0, a1, a2, a3, a4, a5, a6, a7]) rfl rfl hcs (ones_nums _ _) (by unfold maxLen; omega) (by omega) (by simp; omega) ?_; intro v' w3 hown3 hgr3 hnil; clear hnil)
                  simp only [Nat.zero_add, List.nil_append] at hown3
                  obtain ⟨gv, cv, rfl, hgv, hgvs⟩ := hown3.form (by omega)
                  have hpv : Hid (PRow w3 gv 36 (vrun (hfold H0 m j) (wsch (m.extract A (A + 64)) 64) 0)) := by
                    rw [vrun, Ha.out]; exact PRow.of_own hown3
                  have hb3 : Hid (Below wr.heap.size wr w3) := ((Below.refl wr.heap.size wr).alloc (Nat.le_refl _) _).grown hgr3 (by simp) (fun b hb => by cases hb; exact Nat.le_refl _)
                  obtain ⟨W1, hW1⟩ : ∃ W1, W1 = wr := ⟨_, rfl⟩
                  rw [← hW1] at hw hh5 hk5 hB5 hw5 hb3 l6
                  have hbv : Hid (Below (gw + 1) W1 w3) := hb3.out.mono (by omega)
                  clear hown3 hgr3 hown0 hcs hb3 hW1 hbw i0 hi0 hz0 hz1 hz2
                  go_loopw [14, 15] (fun v14 v15 wx => ∃ (t : Nat) (gv cv : Nat), t ≤ 64 ∧ v15 = .int .i64 t ∧ v14 = .slice (some ⟨gv, 0, none⟩) 8 cv ∧ gw + 1 ≤ gv ∧ Hid (PRow wx gv 36 (vrun (hfold H0 m j) (wsch (m.extract A (A + 64)) 64) t)) ∧ Hid (Below (gw + 1) W1 wx)) (fun _ v15 _ => 64 - (intOf v15).toNat)
                  case atStart => exact ⟨0, gv, cv, by omega, rfl, rfl, hgv, hpv, hbv⟩
                  case round =>
                    obtain ⟨t', gv', cv', ht', rfl, rfl, hgv', hpv', hbv'⟩ := hrel
                    clear hpv hbv hgv hgvs
                    by_cases hlt' : t' < 64
                    ·
                      -- <<
                      as_aux_lemma =>
                      obtain ⟨b0, b1, b2, b3, b4, b5, b6, b7, hb⟩ := eight _ (vrun_length (hfold H0 m j) (wsch (m.extract A (A + 64)) 64) (hfold_length H0 m j rfl) t')
                      rw [hb] at hpv'
                      have Hb := Lib.hid hb
                      clear hb
                      obtain ⟨c0, c1, c2, c3, c4, c5, c6, c7⟩ := hpv'.out.c8
                      obtain ⟨X, hX⟩ : ∃ X, X = rd (wsch (m.extract A (A + 64)) 64) (t' : Int) := ⟨_, rfl⟩
                      have cX := PRow.cell (hw.out.below hbv'.out (Nat.lt_succ_self _)) (t' : Int) (by omega) (by rw [wsch_length]; omega)
                      rw [← hX, Int.toNat_natCast] at cX
                      obtain ⟨Kt, hKt⟩ : ∃ Kt, Kt = rd K64 (t' : Int) := ⟨_, rfl⟩
                      have cK := PRow.cell (hk5.out.below hbv'.out (by omega)) (t' : Int) (by omega) (by show (t' : Int) < 64; omega)
                      rw [← hKt, Int.toNat_natCast] at cK
                      have HX := Lib.hid hX
                      have HK := Lib.hid hKt
                      clear hX hKt
                      have d0 : decide ((t' : Int) < 64) = true := decide_eq_true (by omega)
                      have q0 : (t' : Int) < 64 := by omega
                      have p0 : (0 : Int) ≤ (t' : Int) := by omega
                      go_wp2
                      go_quiet ((go_at_call 17; exact Calls.quiet_of (rturn_any _ _ _ (by decide))))
                      go_wp2
                      have hpv1 : Hid (PRow (wr.drewN nq) gv' 36 [b0, b1, b2, b3, b4, b5, b6, b7]) := hpv'
                      have hbv1 : Hid (Below (gw + 1) W1 (wr.drewN nq)) := pw_below_drewN hbv' _
                      generalize wr.drewN nq = W2 at hpv1 hbv1 ⊢
                      clear c0 c1 c2 c3 c4 c5 c6 c7 cX cK hpv' hbv' nq
                      obtain ⟨c0, c1, c2, c3, c4, c5, c6, c7⟩ := hpv1.out.c8
                      go_quiet ((go_at_call 17; exact Calls.quiet_of (rturn_any _ _ _ (by decide))))
                      go_wp2
                      obtain ⟨one, hone⟩ : ∃ o, o = (b7 + Go.bits .xor .u32 (Go.bits .xor .u32 (rotr b4 6) (rotr b4 11)) (rotr b4 25) + Go.bits .or .u32 (Go.bits .and .u32 b4 b5) (Go.bits .and .u32 (Go.bits .xor .u32 IntKind.u32.max b4) b6) + Kt + X) % 4294967296 := ⟨_, rfl⟩
                      rw [← hone]
                      obtain ⟨two, htwo⟩ : ∃ o, o = (Go.bits .xor .u32 (Go.bits .xor .u32 (rotr b0 2) (rotr b0 13)) (rotr b0 22) + Go.bits .or .u32 (Go.bits .or .u32 (Go.bits .and .u32 b0 b1) (Go.bits .and .u32 b0 b2)) (Go.bits .and .u32 b1 b2)) % 4294967296 := ⟨_, rfl⟩
                      rw [← htwo]
                      have HONE := Lib.hid hone
                      have HTWO := Lib.hid htwo
                      clear hone htwo
                      have hpv2 : Hid (PRow (W2.drewN nq) gv' 36 [b0, b1, b2, b3, b4, b5, b6, b7]) := hpv1
                      have hbv2 : Hid (Below (gw + 1) W1 (W2.drewN nq)) := pw_below_drewN hbv1 _
                      generalize W2.drewN nq = W3 at hpv2 hbv2 ⊢
                      clear c0 c1 c2 c3 c4 c5 c6 c7 hpv1 hbv1 nq
                      refine wp_region_still_tail 26 (by kernel_rfl) (by kernel_rfl) ?_
                      simp only [List.take_succ_cons, List.take_zero, List.drop_succ_cons, List.drop_zero]
                      change wpStill _ _ (W3.drew) _ _ _
                      have hpv3 : Hid (PRow (W3.drew) gv' 36 [b0, b1, b2, b3, b4, b5, b6, b7]) := hpv2
                      have hbv3 : Hid (Below (gw + 1) W1 (W3.drew)) := below_drew hbv2
                      generalize hW4 : W3.drew = W4 at hpv3 hbv3 ⊢
                      have HW4 := Lib.hid hW4
                      clear hW4 hpv2 hbv2
                      obtain ⟨c0, c1, c2, c3, c4, c5, c6, c7⟩ := hpv3.out.c8
                      repeat still_step
                      refine wpStill_nil ?_
                      change wpList _ _ _ _ _ (W3.drew)
                      rw [HW4.out]
                      clear HW4
                      go_step
                      refine wp_build8 _ _ _ _ _ _ _ _ _ _ _ _ _ _ _ _ (by rfl) (by rfl) (by rfl) (by rfl) (by rfl) (by rfl) (by rfl) (by rfl) ?_
                      simp only [Act.put, List.setIfInBounds_toArray, List.set_cons_zero, List.set_cons_succ]
                      go_wp2
                      go_roundw
                      case rel => exact ⟨t' + 1, W4.heap.size, 8, by omega, by go_num, rfl, by have := hpv3.out.lt; omega, rs_step2 Hb.out HX.out HK.out HONE.out HTWO.out, hbv3.out.alloc (by have := hpv3.out.lt; omega) _⟩
                      case measure => simp [intOf]; omega
                      -- >>
                    ·
                      -- <<
                      as_aux_lemma =>
                      have ht64 : t' = 64 := by omega
                      rw [ht64] at hpv'
                      clear ht64
                      have hh6 : Hid (PRow wr gh 36 (hadd (hfold H0 m j) (vrun (hfold H0 m j) (wsch (m.extract A (A + 64)) 64) 64) 0)) := hh5.out.below hbv'.out (by omega)
                      have hk6 : Hid (PRow wr gk 36 K64) := hk5.out.below hbv'.out (by omega)
                      have hB6 : Hid (BRow wr w2.heap.size (.slice (some ⟨g2, 0, none⟩) m.size cap2) (bytesOf m)) := brow_below hB5 hbv' (by omega)
                      have hw6 : Hid (Below w.heap.size w wr) := hw5.out.trans (hbv'.out.mono (by have := hw5.out.size; omega))
                      have d0 : decide ((t' : Int) < 64) = false := decide_eq_false (by omega)
                      have l7 : gv' ≠ gh := by omega
                      have l8 : gk ≠ gh := by omega
                      have l9 : g2 ≠ gh := by omega
                      have l10 : w.heap.size ≤ gh := hgh
                      clear hh5 hk5 hB5 hw5 hw hbv' hlt' ht'
                      go_wp2
                      clear d0
                      go_loopw [20] (fun v20 wx => ∃ i : Nat, i ≤ 8 ∧ v20 = .int .i64 i ∧ Hid (PRow wx gv' 36 (vrun (hfold H0 m j) (wsch (m.extract A (A + 64)) 64) 64)) ∧ Hid (PRow wx gh 36 (hadd (hfold H0 m j) (vrun (hfold H0 m j) (wsch (m.extract A (A + 64)) 64) 64) i)) ∧ Hid (PRow wx gk 36 K64) ∧ Hid (BRow wx w2.heap.size (.slice (some ⟨g2, 0, none⟩) m.size cap2) (bytesOf m)) ∧ Hid (Below w.heap.size w wx)) (fun v20 _ => 8 - (intOf v20).toNat)
                      case atStart => exact ⟨0, by omega, rfl, hpv', hh6, hk6, hB6, hw6⟩
                      case round =>
                        obtain ⟨i3, hi3, rfl, hv7, hh7, hk7, hB7, hw7⟩ := hrel
                        clear hpv' hh6 hk6 hB6 hw6
                        by_cases hi8 : i3 < 8
                        · obtain ⟨X, hX⟩ : ∃ X, X = rd (vrun (hfold H0 m j) (wsch (m.extract A (A + 64)) 64) 64) (i3 : Int) := ⟨_, rfl⟩
                          obtain ⟨Y, hY⟩ : ∃ Y, Y = rd (hadd (hfold H0 m j) (vrun (hfold H0 m j) (wsch (m.extract A (A + 64)) 64) 64) i3) (i3 : Int) := ⟨_, rfl⟩
                          have cX := PRow.cell hv7 (i3 : Int) (by omega) (by rw [vrun_length _ _ (hfold_length H0 m j rfl)]; omega)
                          have cY := PRow.cell hh7 (i3 : Int) (by omega) (by rw [hadd_length, hfold_length H0 m j rfl]; omega)
                          rw [← hX, Int.toNat_natCast] at cX
                          rw [← hY, Int.toNat_natCast] at cY
                          have fY := PRow.frozen hh7 i3
                          have HX := Lib.hid hX
                          have HY := Lib.hid hY
                          clear hX hY
                          have d0 : decide ((i3 : Int) < 8) = true := decide_eq_true (by omega)
                          have q0 : (i3 : Int) < 8 := by omega
                          have p0 : (0 : Int) ≤ (i3 : Int) := by omega
                          go_wp2
                          refine wp_region_still_tail 12 (by kernel_rfl) (by kernel_rfl) ?_
                          simp only [List.take_succ_cons, List.take_zero, List.drop_succ_cons, List.drop_zero]
                          change wpStill _ _ (wr.drew) _ _ _
                          have hv8 : Hid (PRow (wr.drew) gv' 36 (vrun (hfold H0 m j) (wsch (m.extract A (A + 64)) 64) 64)) := hv7
                          have hh8 : Hid (PRow (wr.drew) gh 36 (hadd (hfold H0 m j) (vrun (hfold H0 m j) (wsch (m.extract A (A + 64)) 64) 64) i3)) := hh7
                          have hk8 : Hid (PRow (wr.drew) gk 36 K64) := hk7
                          have hB8 : Hid (BRow (wr.drew) w2.heap.size (.slice (some ⟨g2, 0, none⟩) m.size cap2) (bytesOf m)) := hB7
                          have hw8 : Hid (Below w.heap.size w (wr.drew)) := below_drew hw7
                          have cX2 : (wr.drew).cell? ⟨gv', i3, none⟩ = some (.int .u32 X) := cX
                          have cY2 : (wr.drew).cell? ⟨gh, i3, none⟩ = some (.int .u32 Y) := cY
                          have fY2 : (wr.drew).frozen? ⟨gh, i3, none⟩ = false := fY
                          generalize hW2 : wr.drew = W2 at hv8 hh8 hk8 hB8 hw8 cX2 cY2 fY2 ⊢
                          have HW2 := Lib.hid hW2
                          clear hW2 cX cY fY hv7 hh7 hk7 hB7 hw7
                          repeat still_step
                          refine wpStill_nil ?_
                          change wpList _ _ _ _ _ (wr.drew)
                          rw [HW2.out]
                          clear HW2
                          go_wp2
                          go_roundw
                          case rel => exact ⟨i3 + 1, by omega, by go_num, hv8.out.far l7, rs_add hh8 HX.out HY.out, hk8.out.far l8, brow_far hB8 l9, below_set hw8 l10⟩
                          case measure => simp [intOf]; omega
                        · have h8 : i3 = 8 := by omega
                          rw [h8] at hh7
                          have d0 : decide ((i3 : Int) < 8) = false := decide_eq_false (by omega)
                          have eA := HA.out
                          go_wp2
                          go_roundw
                          case rel => exact ⟨j + 1, by omega, by congr 1 <;> omega, by rw [hfold, ← eA]; exact hh7, hk7, hB7, hw7⟩
                          case measure => simp [intOf]; omega
                      -- >>
            · have hj2 : j = nb := by omega
              rw [hj2] at hh4
              have dA : decide ((A : Int) < (m.size : Int)) = false := decide_eq_false (by have := HA.out; have := HNB.out; omega)
              have dA2 : decide (A < m.size) = false := decide_eq_false (by have := HA.out; have := HNB.out; omega)
              go_wp2
              clear dA dA2 hk4 hB4
              go_loopw [21, 22] (fun v21 v22 wx => ∃ i : Nat, i ≤ 8 ∧ v22 = .int .i64 i ∧ v21 = .string (strOfNums (outL (hfold H0 m nb) i)) ∧ Hid (PRow wx gh 36 (hfold H0 m nb)) ∧ Hid (Below w.heap.size w wx)) (fun _ v22 _ => 8 - (intOf v22).toNat)
              case atStart => exact ⟨0, by omega, rfl, rfl, hh4, hw4⟩
              case round =>
                obtain ⟨i4, hi4, rfl, rfl, hh9, hw9⟩ := hrel
                clear hh4 hw4
                by_cases hi8 : i4 < 8
                ·
                  -- <<
                  as_aux_lemma =>
                  obtain ⟨X, hX⟩ : ∃ X, X = rd (hfold H0 m nb) (i4 : Int) := ⟨_, rfl⟩
                  have cX := PRow.cell hh9 (i4 : Int) (by omega) (by rw [hfold_length H0 m nb rfl]; omega)
                  rw [← hX, Int.toNat_natCast] at cX
                  have HX := Lib.hid hX
                  clear hX
                  have d0 : decide ((i4 : Int) < 8) = true := decide_eq_true (by omega)
                  have q0 : (i4 : Int) < 8 := by omega
                  have p0 : (0 : Int) ≤ (i4 : Int) := by omega
                  have z1 : (strOfNums (outL (hfold H0 m nb) i4)).size ≤ 32 := by rw [strOfNums_size, outL_length]; omega
                  have z2 : (strOfNums [X / 16777216 % 256, X / 65536 % 256, X / 256 % 256, X % 256]).size ≤ 4 := by rw [strOfNums_size]; simp
                  have z3 : (9223372036854775807 < (strOfNums (outL (hfold H0 m nb) i4)).size + (strOfNums [X / 16777216 % 256, X / 65536 % 256, X / 256 % 256, X % 256]).size) = False := eq_false (by omega)
                  go_wp2
                  refine start_ (n := 28) (S := fun w' => w'.cell? ⟨gh, i4, none⟩ = some (.int .u32 X)) (ds := [25]) #[false, false, false, false, false, false, false, false, false, false, false, false, false, false, false, false, false, false, false, false, false, false, false, false, false, false, false, false] (by kernel_rfl) rfl rfl cX (fun hHeld => ?_)
                  refine with_tabW rs_tab41 rs_bits41 (fun HT_ HW_ => ?_)
                  have hh10 : Hid (PRow wr.drew gh 36 (hfold H0 m nb)) := hh9
                  have hw10 : Hid (Below w.heap.size w wr.drew) := below_drew hw9
                  generalize wr.drew = w107 at hh10 hw10 hHeld ⊢
                  clear hh9 hw9 cX
                  refine pure_ (i := 0) (N := some 265) (v := ?_) (a' := ?_) #[true, false, false, false, false, false, false, false, false, false, false, false, false, false, false, false, false, false, false, false, false, false, false, false, false, false, false, false] rfl rfl (any_of HT_.out (by kernel_rfl)) (fun _ _ _ h => h) (Or.inl ⟨by rfl, ?_⟩) ?_ ?_
                  rotate_left
                  · intro w'
                    go_simp
                    with_reducible rfl
                  rotate_left
                  · simp only [Act.put, List.setIfInBounds_toArray, List.set_cons_zero, List.set_cons_succ, i64_w, i32_w]
                    rfl
                  refine pure_ (i := 1) (N := some 266) (v := ?_) (a' := ?_) #[true, true, false, false, false, false, false, false, false, false, false, false, false, false, false, false, false, false, false, false, false, false, false, false, false, false, false, false] rfl rfl (any_of HT_.out (by kernel_rfl)) (fun _ _ _ h => h) (Or.inl ⟨by rfl, ?_⟩) ?_ ?_
                  rotate_left
                  · intro w'
                    go_simp
                    with_reducible rfl
                  rotate_left
                  · simp only [Act.put, List.setIfInBounds_toArray, List.set_cons_zero, List.set_cons_succ, i64_w, i32_w]
                    rfl
                  refine pure_ (i := 2) (N := some 267) (v := ?_) (a' := ?_) #[true, true, true, false, false, false, false, false, false, false, false, false, false, false, false, false, false, false, false, false, false, false, false, false, false, false, false, false] rfl rfl (any_of HT_.out (by kernel_rfl)) (fun _ _ _ h => h) (Or.inl ⟨by rfl, ?_⟩) ?_ ?_
                  rotate_left
                  · intro w'
                    go_simp
                    with_reducible rfl
                  rotate_left
                  · simp only [Act.put, List.setIfInBounds_toArray, List.set_cons_zero, List.set_cons_succ, i64_w, i32_w]
                    rfl
                  refine pure_ (i := 3) (N := some 268) (v := ?_) (a' := ?_) #[true, true, true, true, false, false, false, false, false, false, false, false, false, false, false, false, false, false, false, false, false, false, false, false, false, false, false, false] rfl rfl (any_of HT_.out (by kernel_rfl)) (fun _ _ _ h => h) (Or.inl ⟨by rfl, ?_⟩) ?_ ?_
                  rotate_left
                  · intro w'
                    go_simp
                    with_reducible rfl
                  rotate_left
                  · simp only [Act.put, List.setIfInBounds_toArray, List.set_cons_zero, List.set_cons_succ, i64_w, i32_w]
                    rfl
                  refine pure_ (i := 7) (N := some 272) (v := ?_) (a' := ?_) #[true, true, true, true, false, false, false, true, false, false, false, false, false, false, false, false, false, false, false, false, false, false, false, false, false, false, false, false] rfl rfl (any_of HT_.out (by kernel_rfl)) (fun _ _ _ h => h) (Or.inl ⟨by rfl, ?_⟩) ?_ ?_
                  rotate_left
                  · intro w'
                    go_simp
                    with_reducible rfl
                  rotate_left
                  · simp only [Act.put, List.setIfInBounds_toArray, List.set_cons_zero, List.set_cons_succ, i64_w, i32_w]
                    rfl
                  refine pure_ (i := 8) (N := some 273) (v := ?_) (a' := ?_) #[true, true, true, true, false, false, false, true, true, false, false, false, false, false, false, false, false, false, false, false, false, false, false, false, false, false, false, false] rfl rfl (any_of HT_.out (by kernel_rfl)) (fun _ _ _ h => h) (Or.inl ⟨by rfl, ?_⟩) ?_ ?_
                  rotate_left
                  · intro w'
                    go_simp
                    with_reducible rfl
                  rotate_left
                  · simp only [Act.put, List.setIfInBounds_toArray, List.set_cons_zero, List.set_cons_succ, i64_w, i32_w]
                    rfl
                  refine pure_ (i := 9) (N := some 274) (v := ?_) (a' := ?_) #[true, true, true, true, false, false, false, true, true, true, false, false, false, false, false, false, false, false, false, false, false, false, false, false, false, false, false, false] rfl rfl (any_of HT_.out (by kernel_rfl)) (fun _ _ _ h => h) (Or.inl ⟨by rfl, ?_⟩) ?_ ?_
                  rotate_left
                  · intro w'
                    go_simp
                    with_reducible rfl
                  rotate_left
                  · simp only [Act.put, List.setIfInBounds_toArray, List.set_cons_zero, List.set_cons_succ, i64_w, i32_w]
                    rfl
                  refine pure_ (i := 13) (N := some 278) (v := ?_) (a' := ?_) #[true, true, true, true, false, false, false, true, true, true, false, false, false, true, false, false, false, false, false, false, false, false, false, false, false, false, false, false] rfl rfl (any_of HT_.out (by kernel_rfl)) (fun _ _ _ h => h) (Or.inl ⟨by rfl, ?_⟩) ?_ ?_
                  rotate_left
                  · intro w'
                    go_simp
                    with_reducible rfl
                  rotate_left
                  · simp only [Act.put, List.setIfInBounds_toArray, List.set_cons_zero, List.set_cons_succ, i64_w, i32_w]
                    rfl
                  refine pure_ (i := 14) (N := some 279) (v := ?_) (a' := ?_) #[true, true, true, true, false, false, false, true, true, true, false, false, false, true, true, false, false, false, false, false, false, false, false, false, false, false, false, false] rfl rfl (any_of HT_.out (by kernel_rfl)) (fun _ _ _ h => h) (Or.inl ⟨by rfl, ?_⟩) ?_ ?_
                  rotate_left
                  · intro w'
                    go_simp
                    with_reducible rfl
                  rotate_left
                  · simp only [Act.put, List.setIfInBounds_toArray, List.set_cons_zero, List.set_cons_succ, i64_w, i32_w]
                    rfl
                  refine pure_ (i := 15) (N := some 280) (v := ?_) (a' := ?_) #[true, true, true, true, false, false, false, true, true, true, false, false, false, true, true, true, false, false, false, false, false, false, false, false, false, false, false, false] rfl rfl (any_of HT_.out (by kernel_rfl)) (fun _ _ _ h => h) (Or.inl ⟨by rfl, ?_⟩) ?_ ?_
                  rotate_left
                  · intro w'
                    go_simp
                    with_reducible rfl
                  rotate_left
                  · simp only [Act.put, List.setIfInBounds_toArray, List.set_cons_zero, List.set_cons_succ, i64_w, i32_w]
                    rfl
                  refine pure_ (i := 19) (N := some 284) (v := ?_) (a' := ?_) #[true, true, true, true, false, false, false, true, true, true, false, false, false, true, true, true, false, false, false, true, false, false, false, false, false, false, false, false] rfl rfl (any_of HT_.out (by kernel_rfl)) (fun _ _ _ h => h) (Or.inl ⟨by rfl, ?_⟩) ?_ ?_
                  rotate_left
                  · intro w'
                    go_simp
                    with_reducible rfl
                  rotate_left
                  · simp only [Act.put, List.setIfInBounds_toArray, List.set_cons_zero, List.set_cons_succ, i64_w, i32_w]
                    rfl
                  refine pure_ (i := 20) (N := some 285) (v := ?_) (a' := ?_) #[true, true, true, true, false, false, false, true, true, true, false, false, false, true, true, true, false, false, false, true, true, false, false, false, false, false, false, false] rfl rfl (any_of HT_.out (by kernel_rfl)) (fun _ _ _ h => h) (Or.inl ⟨by rfl, ?_⟩) ?_ ?_
                  rotate_left
                  · intro w'
                    go_simp
                    with_reducible rfl
                  rotate_left
                  · simp only [Act.put, List.setIfInBounds_toArray, List.set_cons_zero, List.set_cons_succ, i64_w, i32_w]
                    rfl
                  refine pure_ (i := 21) (N := some 286) (v := ?_) (a' := ?_) #[true, true, true, true, false, false, false, true, true, true, false, false, false, true, true, true, false, false, false, true, true, true, false, false, false, false, false, false] rfl rfl (any_of HT_.out (by kernel_rfl)) (fun _ _ _ h => h) (Or.inl ⟨by rfl, ?_⟩) ?_ ?_
                  rotate_left
                  · intro w'
                    go_simp
                    with_reducible rfl
                  rotate_left
                  · simp only [Act.put, List.setIfInBounds_toArray, List.set_cons_zero, List.set_cons_succ, i64_w, i32_w]
                    rfl
                  refine take_ (i := 4) (N := some 269) (v := ?_) (a' := ?_) #[true, true, true, true, true, false, false, true, true, true, false, false, false, true, true, true, false, false, false, true, true, true, false, false, false, false, false, false] rfl rfl (take_ofW HT_.out HW_.out (by kernel_rfl)) (fun _ _ _ h => h) (Or.inl ⟨by rfl, ?_⟩) hHeld ?_ ?_
                  rotate_left
                  · intro w' s0
                    go_simp
                    with_reducible rfl
                  rotate_left
                  · simp only [Act.put, List.setIfInBounds_toArray, List.set_cons_zero, List.set_cons_succ, i64_w, i32_w]
                    rfl
                  refine pure_ (i := 5) (N := some 270) (v := ?_) (a' := ?_) #[true, true, true, true, true, true, false, true, true, true, false, false, false, true, true, true, false, false, false, true, true, true, false, false, false, false, false, false] rfl rfl (any_of HT_.out (by kernel_rfl)) (fun _ _ _ h => h) (Or.inl ⟨by rfl, ?_⟩) ?_ ?_
                  rotate_left
                  · intro w'
                    go_simp
                    with_reducible rfl
                  rotate_left
                  · simp only [Act.put, List.setIfInBounds_toArray, List.set_cons_zero, List.set_cons_succ, i64_w, i32_w]
                    rfl
                  refine pure_ (i := 6) (N := some 271) (v := ?_) (a' := ?_) #[true, true, true, true, true, true, true, true, true, true, false, false, false, true, true, true, false, false, false, true, true, true, false, false, false, false, false, false] rfl rfl (any_of HT_.out (by kernel_rfl)) (fun _ _ _ h => h) (Or.inl ⟨by rfl, ?_⟩) ?_ ?_
                  rotate_left
                  · intro w'
                    go_simp
                    with_reducible rfl
                  rotate_left
                  · simp only [Act.put, List.setIfInBounds_toArray, List.set_cons_zero, List.set_cons_succ, i64_w, i32_w]
                    rfl
                  refine take_ (i := 10) (N := some 275) (v := ?_) (a' := ?_) #[true, true, true, true, true, true, true, true, true, true, true, false, false, true, true, true, false, false, false, true, true, true, false, false, false, false, false, false] rfl rfl (take_ofW HT_.out HW_.out (by kernel_rfl)) (fun _ _ _ h => h) (Or.inl ⟨by rfl, ?_⟩) hHeld ?_ ?_
                  rotate_left
                  · intro w' s0
                    go_simp
                    with_reducible rfl
                  rotate_left
                  · simp only [Act.put, List.setIfInBounds_toArray, List.set_cons_zero, List.set_cons_succ, i64_w, i32_w]
                    rfl
                  refine pure_ (i := 11) (N := some 276) (v := ?_) (a' := ?_) #[true, true, true, true, true, true, true, true, true, true, true, true, false, true, true, true, false, false, false, true, true, true, false, false, false, false, false, false] rfl rfl (any_of HT_.out (by kernel_rfl)) (fun _ _ _ h => h) (Or.inl ⟨by rfl, ?_⟩) ?_ ?_
                  rotate_left
                  · intro w'
                    go_simp
                    with_reducible rfl
                  rotate_left
                  · simp only [Act.put, List.setIfInBounds_toArray, List.set_cons_zero, List.set_cons_succ, i64_w, i32_w]
                    rfl
                  refine pure_ (i := 12) (N := some 277) (v := ?_) (a' := ?_) #[true, true, true, true, true, true, true, true, true, true, true, true, true, true, true, true, false, false, false, true, true, true, false, false, false, false, false, false] rfl rfl (any_of HT_.out (by kernel_rfl)) (fun _ _ _ h => h) (Or.inl ⟨by rfl, ?_⟩) ?_ ?_
                  rotate_left
                  · intro w'
                    go_simp
                    with_reducible rfl
                  rotate_left
                  · simp only [Act.put, List.setIfInBounds_toArray, List.set_cons_zero, List.set_cons_succ, i64_w, i32_w]
                    rfl
                  refine take_ (i := 16) (N := some 281) (v := ?_) (a' := ?_) #[true, true, true, true, true, true, true, true, true, true, true, true, true, true, true, true, true, false, false, true, true, true, false, false, false, false, false, false] rfl rfl (take_ofW HT_.out HW_.out (by kernel_rfl)) (fun _ _ _ h => h) (Or.inl ⟨by rfl, ?_⟩) hHeld ?_ ?_
                  rotate_left
                  · intro w' s0
                    go_simp
                    with_reducible rfl
                  rotate_left
                  · simp only [Act.put, List.setIfInBounds_toArray, List.set_cons_zero, List.set_cons_succ, i64_w, i32_w]
                    rfl
                  refine pure_ (i := 17) (N := some 282) (v := ?_) (a' := ?_) #[true, true, true, true, true, true, true, true, true, true, true, true, true, true, true, true, true, true, false, true, true, true, false, false, false, false, false, false] rfl rfl (any_of HT_.out (by kernel_rfl)) (fun _ _ _ h => h) (Or.inl ⟨by rfl, ?_⟩) ?_ ?_
                  rotate_left
                  · intro w'
                    go_simp
                    with_reducible rfl
                  rotate_left
                  · simp only [Act.put, List.setIfInBounds_toArray, List.set_cons_zero, List.set_cons_succ, i64_w, i32_w]
                    rfl
                  refine pure_ (i := 18) (N := some 283) (v := ?_) (a' := ?_) #[true, true, true, true, true, true, true, true, true, true, true, true, true, true, true, true, true, true, true, true, true, true, false, false, false, false, false, false] rfl rfl (any_of HT_.out (by kernel_rfl)) (fun _ _ _ h => h) (Or.inl ⟨by rfl, ?_⟩) ?_ ?_
                  rotate_left
                  · intro w'
                    go_simp
                    with_reducible rfl
                  rotate_left
                  · simp only [Act.put, List.setIfInBounds_toArray, List.set_cons_zero, List.set_cons_succ, i64_w, i32_w]
                    rfl
                  refine take_ (i := 22) (N := some 287) (v := ?_) (a' := ?_) #[true, true, true, true, true, true, true, true, true, true, true, true, true, true, true, true, true, true, true, true, true, true, true, false, false, false, false, false] rfl rfl (take_ofW HT_.out HW_.out (by kernel_rfl)) (fun _ _ _ h => h) (Or.inl ⟨by rfl, ?_⟩) hHeld ?_ ?_
                  rotate_left
                  · intro w' s0
                    go_simp
                    with_reducible rfl
                  rotate_left
                  · simp only [Act.put, List.setIfInBounds_toArray, List.set_cons_zero, List.set_cons_succ, i64_w, i32_w]
                    rfl
                  refine pure_ (i := 23) (N := some 288) (v := ?_) (a' := ?_) #[true, true, true, true, true, true, true, true, true, true, true, true, true, true, true, true, true, true, true, true, true, true, true, true, false, false, false, false] rfl rfl (any_of HT_.out (by kernel_rfl)) (fun _ _ _ h => h) (Or.inl ⟨by rfl, ?_⟩) ?_ ?_
                  rotate_left
                  · intro w'
                    go_simp
                    with_reducible rfl
                  rotate_left
                  · simp only [Act.put, List.setIfInBounds_toArray, List.set_cons_zero, List.set_cons_succ, i64_w, i32_w]
                    rfl
                  refine one_ (i := 24) (N := some 289) #[true, true, true, true, true, true, true, true, true, true, true, true, true, true, true, true, true, true, true, true, true, true, true, true, true, false, false, false] rfl rfl (one_of HT_.out (by kernel_rfl)) (by decide) (fun K hK => ?_)
                  refine Kd.R_lit_step (Kd.int .u8) _ 5 ?hg (N := 289) ?hd (xs := ([X / 16777216 % 256, X / 65536 % 256, X / 256 % 256, X % 256] : List Int)) (inner := [.int .u8 (X / 16777216 % 256), .int .u8 (X / 65536 % 256), .int .u8 (X / 256 % 256), .int .u8 (X % 256)]) (ok := fun _ => True) (okp := fun _ => True) ?hr ?hp (fun _ hk => hk) trivial (Below.refl _ _) (Nat.le_refl _) (by simp) ?_
                  case hd => rfl
                  case hg => rfl
                  case hr => first | (go_simp; done) | (go_simp; rfl)
                  case hp => exact (Reps.one (show Kd.M (Kd.int .u8) _ _ _ (X / 16777216 % 256) [.int .u8 (X / 16777216 % 256)] from rfl) (Reps.one (show Kd.M (Kd.int .u8) _ _ _ (X / 65536 % 256) [.int .u8 (X / 65536 % 256)] from rfl) (Reps.one (show Kd.M (Kd.int .u8) _ _ _ (X / 256 % 256) [.int .u8 (X / 256 % 256)] from rfl) (Reps.one (show Kd.M (Kd.int .u8) _ _ _ (X % 256) [.int .u8 (X % 256)] from rfl) (Reps.none _ _)))))
                  intro v291 w109 ho110 hb hg_ hnew_
                  have HS0_ := (hb.cell (World.block_lt_of_cell? _ _ hHeld)).trans hHeld
                  have hh11 : Hid (PRow w109 gh 36 (hfold H0 m nb)) := hh10.out.below hb hh10.out.lt
                  have hw11 : Hid (Below w.heap.size w w109) := hw10.out.trans (hb.mono hw10.out.size)
                  clear hg_ hnew_ hb hh10 hw10
                  refine hK.out _ _ HS0_ (fun hHeld => ?_)
                  clear hK K
                  refine norm_ (a' := ?_) ?_ ?_
                  rotate_left
                  · show Act.put _ (some 289) _ = _
                    simp only [Act.put, List.setIfInBounds_toArray, List.set_cons_zero, List.set_cons_succ, i64_w, i32_w]
                    rfl
                  refine last_ (i := 25) (N := some 290) #[true, true, true, true, true, true, true, true, true, true, true, true, true, true, true, true, true, true, true, true, true, true, true, true, true, true, false, false] rfl rfl (one_of HT_.out (by kernel_rfl)) (by decide) (fun K hK => ?_)
                  have hcv111 := own_string (P := Try.prog) Try.underlying31 Try.underlying5 Try.underlying9 (Kd.own_of_R ho110)
                  refine value_ (w1 := ?_) (v := ?_) (by rfl) rfl ?_ ?_
                  rotate_left 2
                  · go_simp
                    constructor
                    · rfl
                    · rfl
                  clear hcv111
                  refine hK.out _ _ ?_
                  clear hK K
                  refine norm_ (a' := ?_) ?_ ?_
                  rotate_left
                  · show Act.put _ (some 290) _ = _
                    simp only [Act.put, List.setIfInBounds_toArray, List.set_cons_zero, List.set_cons_succ, i64_w, i32_w]
                    rfl
                  refine pure_ (i := 26) (N := some 291) (v := ?_) (a' := ?_) #[true, true, true, true, true, true, true, true, true, true, true, true, true, true, true, true, true, true, true, true, true, true, true, true, true, true, true, false] rfl rfl (any_of HT_.out (by kernel_rfl)) (fun _ _ _ h => h) (Or.inl ⟨by rfl, ?_⟩) ?_ ?_
                  rotate_left
                  · intro w'
                    go_simp
                    with_reducible rfl
                  rotate_left
                  · simp only [Act.put, List.setIfInBounds_toArray, List.set_cons_zero, List.set_cons_succ, i64_w, i32_w]
                    rfl
                  refine pure_ (i := 27) (N := some 21) (v := ?_) (a' := ?_) #[true, true, true, true, true, true, true, true, true, true, true, true, true, true, true, true, true, true, true, true, true, true, true, true, true, true, true, true] rfl rfl (any_of HT_.out (by kernel_rfl)) (fun _ _ _ h => h) (Or.inl ⟨by rfl, ?_⟩) ?_ ?_
                  rotate_left
                  · intro w'
                    go_simp
                    with_reducible rfl
                  rotate_left
                  · simp only [Act.put, List.setIfInBounds_toArray, List.set_cons_zero, List.set_cons_succ, i64_w, i32_w]
                    rfl
                  refine done_ (done_of HT_.out (by kernel_rfl)) ?_
                  go_wp2
                  go_roundw
                  case rel => exact ⟨i4 + 1, by omega, by go_num, by rw [HX.out, out_succ], hh11, hw11⟩
                  case measure => simp [intOf]; omega
                  -- >>
                · have hi9 : i4 = 8 := by omega
                  have d0 : decide ((i4 : Int) < 8) = false := decide_eq_false (by omega)
                  have hfin : strOfNums (outL (hfold H0 m nb) i4) = digest s := by
                    rw [hi9]
                    exact rs_fin HZ.out (by rw [HM.out, HU.out, HT.out, HK2.out]) HNB.out
                  have HF := Lib.hid hfin
                  clear hfin hi9
                  go_wp2
                  go_ret
                  exact ⟨congrArg (fun b => Ending.returned (Value.string b)) HF.out, hw9⟩
end Go.Proofs.Ytlpkgngjofabaaa.PSaltSeals

/- Walk of the hash's block: what 64 bytes make of eight words. -/
import Derived.Test.YtlpkgngjofabaaaShaDefs
import Derived.IntWalk
import Derived.StillTailTactics
import Derived.Laws.CopyOwn
import Derived.Deep.LoopGhost
namespace Go.Proofs.Ytlpkgngjofabaaa.PSaltSeals
open Go.RowKit Go.Proofs.YtlpkgngjofabaaaW.PrintWords Go.Proofs.YtlpkgngjofabaaaW.PrintLast Go.Proofs.YtlpkgngjofabaaaW.PrintMore
set_option linter.unusedVariables false
set_option linter.unusedSimpArgs false

def WBlk (W : World) (g t : Nat) (ws : List Int) : Prop := W.heap[g]? = some (.cells (nums .u32 ws).toArray t (0, 0))

theorem WBlk.cell {W : World} {g t : Nat} {ws : List Int} (h : WBlk W g t ws) (i : Int) (h0 : 0 ≤ i) (h1 : i < ws.length) : W.cell? ⟨g, i.toNat, none⟩ = some (.int .u32 (rd ws i)) := by
  rw [blk_cell h, List.getElem?_toArray]
  unfold nums rd
  rw [List.getElem?_map, List.getElem?_eq_getElem (by omega)]
  simp [List.getD_eq_getElem?_getD, show i.toNat < ws.length by omega]
theorem WBlk.frozen {W : World} {g t : Nat} {ws : List Int} (h : WBlk W g t ws) (i : Nat) : W.frozen? ⟨g, i, none⟩ = false := blk_frozen h i
theorem WBlk.set {W : World} {g t : Nat} {ws : List Int} (h : WBlk W g t ws) (i : Nat) (x : Int) : WBlk (W.setCell ⟨g, i, none⟩ (.int .u32 x)) g t (ws.set i x) := by
  have := blk_set h i (.int .u32 x)
  unfold WBlk
  rw [this]
  simp [nums, List.map_set]

theorem WBlk.c8 {W : World} {g t : Nat} {a0 a1 a2 a3 a4 a5 a6 a7 : Int} (h : WBlk W g t [a0, a1, a2, a3, a4, a5, a6, a7]) :
    W.cell? ⟨g, 0, none⟩ = some (.int .u32 a0) ∧ W.cell? ⟨g, 1, none⟩ = some (.int .u32 a1) ∧ W.cell? ⟨g, 2, none⟩ = some (.int .u32 a2) ∧ W.cell? ⟨g, 3, none⟩ = some (.int .u32 a3) ∧ W.cell? ⟨g, 4, none⟩ = some (.int .u32 a4) ∧ W.cell? ⟨g, 5, none⟩ = some (.int .u32 a5) ∧ W.cell? ⟨g, 6, none⟩ = some (.int .u32 a6) ∧ W.cell? ⟨g, 7, none⟩ = some (.int .u32 a7) :=
  ⟨(blk_cell h 0).trans rfl, (blk_cell h 1).trans rfl, (blk_cell h 2).trans rfl, (blk_cell h 3).trans rfl, (blk_cell h 4).trans rfl, (blk_cell h 5).trans rfl, (blk_cell h 6).trans rfl, (blk_cell h 7).trans rfl⟩
theorem below_alloc' {w W : World} (h : Hid (Below w.heap.size w W)) (o : Obj) : Hid (Below w.heap.size w (W.alloc o)) := below_alloc h o

theorem below_trans' {w W W' : World} {v : Nat} (h : Hid (Below w.heap.size w W)) (h' : Below v W W') (hv : w.heap.size ≤ v) : Hid (Below w.heap.size w W') := h.trans (h'.mono hv)
theorem WBlk.far2 {W : World} {g t v i j : Nat} {ws : List Int} {u u' : Value} (h : WBlk W g t ws) (hne : g ≠ v) : WBlk ((W.setCell ⟨v, i, none⟩ u).setCell ⟨v, j, none⟩ u') g t ws := blk_far (blk_far h hne u) hne u'
theorem block_step {W : World} {v : Nat} {b : ByteArray} {t : Nat} {h0 h1 h2 h3 h4 h5 h6 h7 a0 a1 a2 a3 a4 a5 a6 a7 X x y : Int} (h : Hid (WBlk W v 38 [a0, a0, a1, a2, a3, a4, a5, a6]))
    (ha : vrun [h0, h1, h2, h3, h4, h5, h6, h7] (wsch b 64) t = [a0, a1, a2, a3, a4, a5, a6, a7]) (hX : X = rd (wsch b 64) (t : Int))
    (hx : x = (big a4 a5 a6 a7 (rd K64 t) X + maj a0 a1 a2) % 4294967296) (hy : y = (a3 + big a4 a5 a6 a7 (rd K64 t) X) % 4294967296) :
    Hid (WBlk ((W.setCell ⟨v, 0, none⟩ (.int .u32 x)).setCell ⟨v, 4, none⟩ (.int .u32 y)) v 38 (vrun [h0, h1, h2, h3, h4, h5, h6, h7] (wsch b 64) (t + 1))) := by
  have := WBlk.set (WBlk.set h 0 x) 4 y
  rw [vrun, ha, ← hX, vstep, ← hx, ← hy]
  exact this

theorem WBlk.far1 {W : World} {g t v i : Nat} {ws : List Int} {u : Value} (h : WBlk W g t ws) (hne : g ≠ v) : WBlk (W.setCell ⟨v, i, none⟩ u) g t ws := blk_far h hne u
theorem grown_set {w W : World} {g : Nat} (h : Hid (w.grownBy W (some g))) (i : Nat) (u : Value) : Hid (w.grownBy (W.setCell ⟨g, i, none⟩ u) (some g)) := by
  have h := h.out
  exact ⟨h.os, h.tape, h.output, by simpa using h.size, fun k hk hne => (Below.heap_setCell W ⟨g, i, none⟩ u k (by intro e; exact hne (by rw [e]))).trans (h.block k hk hne)⟩
theorem grown_drew {w W : World} {r : Option Nat} (h : Hid (w.grownBy W r)) : Hid (w.grownBy W.drew r) := ⟨h.out.os, h.out.tape, h.out.output, h.out.size, h.out.block⟩
theorem block_add {W : World} {g i : Nat} {h v : List Int} {X Y : Int} (hg : Hid (WBlk W g 38 (hadd h v i))) (hX : X = rd v (i : Int)) (hY : Y = rd (hadd h v i) (i : Int)) :
    Hid (WBlk (W.setCell ⟨g, i, none⟩ (.int .u32 ((Y + X) % 4294967296))) g 38 (hadd h v (i + 1))) := by
  have h0 : ∀ j, j ≤ i → rd (hadd h v j) (i : Int) = rd h (i : Int) := by
    intro j
    induction j with
    | zero => intro _; rfl
    | succ j ih => intro hj; rw [hadd, rd_set_ne _ _ _ _ (by omega) (by omega)]; exact ih (by omega)
  have := WBlk.set hg i ((Y + X) % 4294967296)
  rw [hadd, ← hX, ← h0 i (Nat.le_refl _), ← hY]
  exact this

theorem block_new {W : World} {g : Nat} {b : ByteArray} {t : Nat} {X Y Z V : Int} (h : Hid (WBlk W g 46 (wsch b t))) (h16 : ¬ t < 16) (hX : X = rd (wsch b t) ((t : Int) - 15)) (hY : Y = rd (wsch b t) ((t : Int) - 2)) (hZ : Z = rd (wsch b t) ((t : Int) - 16)) (hV : V = rd (wsch b t) ((t : Int) - 7)) :
    Hid (WBlk (W.setCell ⟨g, t, none⟩ (.int .u32 ((Z + Go.bits .xor .u32 (Go.bits .xor .u32 (rotr X 7) (rotr X 18)) (X / 8) + V + Go.bits .xor .u32 (Go.bits .xor .u32 (rotr Y 17) (rotr Y 19)) (Y / 1024)) % 4294967296))) g 46 (wsch b (t + 1))) := by
  have := WBlk.set h t ((Z + Go.bits .xor .u32 (Go.bits .xor .u32 (rotr X 7) (rotr X 18)) (X / 8) + V + Go.bits .xor .u32 (Go.bits .xor .u32 (rotr Y 17) (rotr Y 19)) (Y / 1024)) % 4294967296)
  rw [show wsch b (t + 1) = (wsch b t).set t ((Z + Go.bits .xor .u32 (Go.bits .xor .u32 (rotr X 7) (rotr X 18)) (X / 8) + V + Go.bits .xor .u32 (Go.bits .xor .u32 (rotr Y 17) (rotr Y 19)) (Y / 1024)) % 4294967296) from by
    rw [wsch, wword, if_neg h16, wnew, ← hX, ← hY, ← hZ, ← hV]; rfl]
  exact this

theorem rd_set_self (xs : List Int) (n : Nat) (v : Int) (h : n < xs.length) : rd (xs.set n v) (n : Int) = v := by
  unfold rd; simp [List.getD_eq_getElem?_getD, h]
theorem set_rd (xs : List Int) (n : Nat) (h : n < xs.length) : xs.set n (rd xs (n : Int)) = xs := by
  unfold rd
  rw [Int.toNat_natCast, List.getD_eq_getElem?_getD, List.getElem?_eq_getElem h]
  exact List.set_getElem_self h
theorem wsch_zero (b : ByteArray) (t : Nat) (ht : t < 64) {s : Nat} (hs : s ≤ t) : (wsch b s).set t 0 = wsch b s := by
  have h0 : ∀ s, s ≤ t → rd (wsch b s) (t : Int) = 0 := by
    intro s
    induction s with
    | zero => intro _; unfold rd wsch; rw [List.getD_eq_getElem?_getD, List.getElem?_replicate]; split <;> rfl
    | succ s ih => intro hs; rw [wsch, rd_set_ne _ _ _ _ (by omega) (by omega)]; exact ih (by omega)
  have := set_rd (wsch b s) t (by rw [wsch_length]; omega)
  rwa [h0 s hs] at this
theorem block_byte {W : World} {g : Nat} {b : ByteArray} {ws : List Int} {t i : Nat} (h : Hid (WBlk W g 46 (ws.set t (wacc b t i)))) (hl : t < ws.length) (hb : 4 * t + i < b.size) :
    Hid (WBlk (W.setCell ⟨g, t, none⟩ (.int .u32 (Go.bits .or .u32 (wacc b t i * 256 % 4294967296) (((b[4 * t + i]'hb).toNat : Int) % 4294967296)))) g 46 (ws.set t (wacc b t (i + 1)))) := by
  have hbt := bt_at b (4 * (t : Int) + (i : Int))
  have e3 : (4 * (t : Int) + (i : Int)).toNat = 4 * t + i := by omega
  have hbb : ((b[4 * t + i]'hb).toNat : Int) = bt b (4 * (t : Int) + (i : Int)) := by
    have := hbt (by rw [e3]; exact hb)
    simp only [e3] at this; exact this
  have hr := bt_range b (4 * (t : Int) + (i : Int))
  rw [hbb, Int.emod_eq_of_lt (a := bt b (4 * (t : Int) + (i : Int))) (by omega) (by omega)]
  have := WBlk.set h t (Go.bits .or .u32 (wacc b t i * 256 % 4294967296) (bt b (4 * (t : Int) + (i : Int))))
  rw [List.set_set] at this
  exact this
set_option maxHeartbeats 1000000 in
set_option maxRecDepth 100000 in
theorem block_calls (g : Nat) (h0 h1 h2 h3 h4 h5 h6 h7 : Int) (b : ByteArray) (hb : b.size = 64) (w : World) (hg : WBlk w g 38 [h0, h1, h2, h3, h4, h5, h6, h7]) :
    Calls Try.prog 14 #[.pointer (some ⟨g, 0, none⟩), .string b] w fun e w' => e = .returned (.tuple #[]) ∧ Hid (WBlk w' g 38 (blockL [h0, h1, h2, h3, h4, h5, h6, h7] b)) ∧ Hid (w.grownBy w' (some g)) := by
  have HG := Lib.hid hg
  clear hg
  go_enter Try.func14, Try.ntmps14
  go_wp2
  go_loopw [16] (fun v16 wr => ∃ t : Nat, t ≤ 64 ∧ v16 = .int .i64 t ∧ Hid (WBlk wr w.heap.size 46 (wsch b t)) ∧ Hid (Below w.heap.size w wr)) (fun v16 _ => 64 - (intOf v16).toNat)
  case atStart => exact ⟨0, by omega, rfl, (blk_new w _).trans (by first | rfl | (simp [nums, wsch]; done) | skip), below_alloc (Below.refl _ _) _⟩
  case round =>
    obtain ⟨t, ht, rfl, hw, hbl⟩ := hrel
    by_cases hlt : t < 64
    · by_cases h16 : t < 16
      · have hlen := wsch_length b t
        have d17 : decide ((t : Int) < 64) = true := decide_eq_true (by omega)
        have d20 : decide ((t : Int) < 16) = true := decide_eq_true (by omega)
        have HL := Lib.hid hlen
        clear hlen
        go_wp2
        go_loopw [21] (fun v21 wr2 => ∃ i : Nat, i ≤ 4 ∧ v21 = .int .i64 i ∧ Hid (WBlk wr2 w.heap.size 46 ((wsch b t).set t (wacc b t i))) ∧ Hid (Below w.heap.size w wr2)) (fun v21 _ => 4 - (intOf v21).toNat)
        case atStart => exact ⟨0, by omega, rfl, by rw [show (wsch b t).set t (wacc b t 0) = wsch b t from wsch_zero b t hlt (Nat.le_refl _)]; exact hw, hbl⟩
        case round =>
          obtain ⟨i, hi4, rfl, hw', hbl'⟩ := hrel
          by_cases hi : i < 4
          · have cO := WBlk.cell hw' (t : Int) (by omega) (by rw [List.length_set, HL.out]; omega)
            have hO : rd ((wsch b t).set t (wacc b t i)) (t : Int) = wacc b t i := rd_set_self _ _ _ (by rw [HL.out]; omega)
            rw [hO, Int.toNat_natCast] at cO
            have fO := WBlk.frozen hw' t
            clear hO
            have b4 : 4 * t + i < b.size := by omega
            have e1 : IntKind.i64.wrap (4 * (t : Int)) = 4 * (t : Int) := IntWalk.i64_in _ (by omega)
            have e2 : IntKind.i64.wrap (4 * (t : Int) + (i : Int)) = 4 * (t : Int) + (i : Int) := IntWalk.i64_in _ (by omega)
            have e3 : (4 * (t : Int) + (i : Int)).toNat = 4 * t + i := by omega
            have p1 : (0 : Int) ≤ 4 * (t : Int) + (i : Int) := by omega
            have q1 : 4 * (t : Int) + (i : Int) < 64 := by omega
            have q0 : (t : Int) < 64 := by omega
            have p0 : (0 : Int) ≤ (t : Int) := by omega
            have d22 : decide ((i : Int) < 4) = true := decide_eq_true (by omega)
            go_wp2
            refine wp_region_still_tail 14 (by kernel_rfl) (by kernel_rfl) ?_
            simp only [List.take_succ_cons, List.take_zero, List.drop_succ_cons, List.drop_zero]
            change wpStill _ _ (wr.drew) _ _ _
            have hw2 : Hid (WBlk wr.drew w.heap.size 46 ((wsch b t).set t (wacc b t i))) := hw'
            have hbl2 : Hid (Below w.heap.size w wr.drew) := below_drew hbl'
            have cO2 : wr.drew.cell? ⟨w.heap.size, t, none⟩ = some (.int .u32 (wacc b t i)) := cO
            have fO2 : wr.drew.frozen? ⟨w.heap.size, t, none⟩ = false := fO
            generalize hW2 : wr.drew = W2 at hw2 hbl2 cO2 fO2 ⊢
            have HW2 := Lib.hid hW2
            clear hW2 cO fO hw' hbl'
            repeat still_step
            refine wpStill_nil ?_
            change wpList _ _ _ _ _ (wr.drew)
            rw [HW2.out]
            clear HW2
            go_wp2
            go_roundw
            case rel => exact ⟨i + 1, by omega, by go_num, block_byte hw2 (by rw [HL.out]; omega) b4, below_set hbl2 (Nat.le_refl _)⟩
            case measure => simp [intOf]; omega
          · obtain rfl : i = 4 := by omega
            have d22 : decide (((4 : Nat) : Int) < 4) = false := by decide
            clear hi
            go_wp2
            go_roundw
            case rel => exact ⟨t + 1, by omega, by go_num, by rw [show wsch b (t + 1) = (wsch b t).set t (wacc b t 4) from by rw [wsch, wword, if_pos h16]]; exact hw', hbl'⟩
            case measure => simp [intOf]; omega
      · have hi : (0 : Int) ≤ t := by omega
        have b16 : (16 : Int) ≤ (t : Int) := by omega
        have hlen := wsch_length b t
        obtain ⟨X, hX⟩ : ∃ X, X = rd (wsch b t) ((t : Int) - 15) := ⟨_, rfl⟩
        obtain ⟨Y, hY⟩ : ∃ Y, Y = rd (wsch b t) ((t : Int) - 2) := ⟨_, rfl⟩
        obtain ⟨Z, hZ⟩ : ∃ Z, Z = rd (wsch b t) ((t : Int) - 16) := ⟨_, rfl⟩
        obtain ⟨V, hV⟩ : ∃ V, V = rd (wsch b t) ((t : Int) - 7) := ⟨_, rfl⟩
        obtain ⟨O, hO⟩ : ∃ O, O = rd (wsch b t) (t : Int) := ⟨_, rfl⟩
        have cX := WBlk.cell hw ((t : Int) - 15) (by omega) (by omega)
        have cY := WBlk.cell hw ((t : Int) - 2) (by omega) (by omega)
        have cZ := WBlk.cell hw ((t : Int) - 16) (by omega) (by omega)
        have cV := WBlk.cell hw ((t : Int) - 7) (by omega) (by omega)
        have cO := WBlk.cell hw (t : Int) (by omega) (by omega)
        rw [← hX] at cX
        rw [← hY] at cY
        rw [← hZ] at cZ
        rw [← hV] at cV
        rw [← hO, Int.toNat_natCast] at cO
        have fO := WBlk.frozen hw t
        have HX := Lib.hid hX
        have HY := Lib.hid hY
        have HZ := Lib.hid hZ
        have HV := Lib.hid hV
        clear hX hY hZ hV hO hlen
        go_wp2
        have e15 : IntKind.i64.wrap ((t : Int) - 15) = (t : Int) - 15 := IntWalk.i64_in _ (by omega)
        have e2 : IntKind.i64.wrap ((t : Int) - 2) = (t : Int) - 2 := IntWalk.i64_in _ (by omega)
        have e16 : IntKind.i64.wrap ((t : Int) - 16) = (t : Int) - 16 := IntWalk.i64_in _ (by omega)
        have e7 : IntKind.i64.wrap ((t : Int) - 7) = (t : Int) - 7 := IntWalk.i64_in _ (by omega)
        have p15 : (0 : Int) ≤ (t : Int) - 15 := by omega
        have p2 : (0 : Int) ≤ (t : Int) - 2 := by omega
        have p16 : (0 : Int) ≤ (t : Int) - 16 := by omega
        have p7 : (0 : Int) ≤ (t : Int) - 7 := by omega
        have q15 : (t : Int) - 15 < 64 := by omega
        have q2 : (t : Int) - 2 < 64 := by omega
        have q16 : (t : Int) - 16 < 64 := by omega
        have q7 : (t : Int) - 7 < 64 := by omega
        have q0 : (t : Int) < 64 := by omega
        have r15 : (15 : Int) ≤ (t : Int) := by omega
        have r2 : (2 : Int) ≤ (t : Int) := by omega
        have r7 : (7 : Int) ≤ (t : Int) := by omega
        go_quiet (fail)
        go_wp2
        refine wp_region_still_tail 29 (by kernel_rfl) (by kernel_rfl) ?_
        simp only [List.take_succ_cons, List.take_zero, List.drop_succ_cons, List.drop_zero]
        change wpStill _ _ ((wr.drewN nq).drew) _ _ _
        have hw2 : Hid (WBlk ((wr.drewN nq).drew) w.heap.size 46 (wsch b t)) := hw
        have hbl2 : Hid (Below w.heap.size w ((wr.drewN nq).drew)) := below_drew (pw_below_drewN hbl nq)
        have cZ2 : ((wr.drewN nq).drew).cell? ⟨w.heap.size, ((t : Int) - 16).toNat, none⟩ = some (.int .u32 Z) := cZ
        have cV2 : ((wr.drewN nq).drew).cell? ⟨w.heap.size, ((t : Int) - 7).toNat, none⟩ = some (.int .u32 V) := cV
        have cO2 : ((wr.drewN nq).drew).cell? ⟨w.heap.size, t, none⟩ = some (.int .u32 O) := cO
        have fO2 : ((wr.drewN nq).drew).frozen? ⟨w.heap.size, t, none⟩ = false := fO
        generalize hW2 : (wr.drewN nq).drew = W2 at hw2 hbl2 cZ2 cV2 cO2 fO2 ⊢
        have HW2 := Lib.hid hW2
        clear hW2
        clear cZ cV cO fO cX cY hw hbl
        repeat still_step
        still_call (turn7 _ _)
        repeat still_step
        still_call (turn18 _ _)
        repeat still_step
        still_call (turn17 _ _)
        repeat still_step
        still_call (turn19 _ _)
        repeat still_step
        refine wpStill_nil ?_
        change wpList _ _ _ _ _ ((wr.drewN nq).drew)
        rw [HW2.out]
        clear HW2
        go_wp2
        go_roundw
        case rel => exact ⟨t + 1, by omega, by go_num, block_new hw2 h16 HX.out HY.out HZ.out HV.out, below_set hbl2 (Nat.le_refl _)⟩
        case measure => simp [intOf]; omega
    · have h64 : t = 64 := by omega
      rw [h64] at hw
      clear h64
      have hlg : g < w.heap.size := blk_lt HG.out
      have hgr : Hid (WBlk wr g 38 [h0, h1, h2, h3, h4, h5, h6, h7]) := (hbl.block g hlg).trans HG.out
      obtain ⟨c0, c1, c2, c3, c4, c5, c6, c7⟩ := WBlk.c8 hgr
      have hBv : w.heap.size < wr.heap.size := blk_lt hw
      have d17 : decide ((t : Int) < 64) = false := decide_eq_false (by omega)
      go_wp2
      clear hlt ht d17
      generalize hv : wr.heap.size = v at *
      go_loopw [80] (fun v80 wx => ∃ t : Nat, t ≤ 64 ∧ v80 = .int .i64 t ∧ Hid (WBlk wx v 38 (vrun [h0, h1, h2, h3, h4, h5, h6, h7] (wsch b 64) t)) ∧ Hid (WBlk wx w.heap.size 46 (wsch b 64)) ∧ Hid (Below w.heap.size w wx)) (fun v80 _ => 64 - (intOf v80).toNat)
      case atStart => exact ⟨0, by omega, rfl, by subst hv; exact (blk_new wr _).trans rfl, blk_alloc hw _, below_alloc' hbl _⟩
      case round =>
        obtain ⟨t, ht, rfl, hvv, hww, hbb⟩ := hrel
        clear c0 c1 c2 c3 c4 c5 c6 c7 hv hw hbl hgr
        by_cases hlt : t < 64
        · have hl8 := vrun_length [h0, h1, h2, h3, h4, h5, h6, h7] (wsch b 64) rfl t
          obtain ⟨a0, a1, a2, a3, a4, a5, a6, a7, ha⟩ := eight _ hl8
          have Ha := Lib.hid ha
          rw [ha] at hvv
          clear ha hl8
          obtain ⟨c0, c1, c2, c3, c4, c5, c6, c7⟩ := WBlk.c8 hvv
          obtain ⟨X, hX⟩ : ∃ X, X = rd (wsch b 64) (t : Int) := ⟨_, rfl⟩
          have cX := WBlk.cell hww (t : Int) (by omega) (by rw [wsch_length]; omega)
          rw [← hX, Int.toNat_natCast] at cX
          have HX := Lib.hid hX
          clear hX
          have q0 : (t : Int) < 64 := by omega
          have p0 : (0 : Int) ≤ (t : Int) := by omega
          have d0 : decide ((t : Int) < 64) = true := decide_eq_true q0
          go_wp2
          go_quiet (fail)
          go_wp2
          have hvv1 : Hid (WBlk (wr.drewN nq) v 38 [a0, a1, a2, a3, a4, a5, a6, a7]) := hvv
          have hww1 : Hid (WBlk (wr.drewN nq) w.heap.size 46 (wsch b 64)) := hww
          have hbb1 : Hid (Below w.heap.size w (wr.drewN nq)) := pw_below_drewN hbb _
          generalize wr.drewN nq = W1 at hvv1 hww1 hbb1 ⊢
          clear hvv hww hbb c0 c1 c2 c3 c4 c5 c6 c7
          obtain ⟨c0, c1, c2, c3, c4, c5, c6, c7⟩ := WBlk.c8 hvv1
          clear cX
          have cX := WBlk.cell hww1 (t : Int) (by omega) (by rw [wsch_length]; omega)
          rw [← HX.out, Int.toNat_natCast] at cX
          clear nq
          go_quiet ((first | (go_at_call 18; exact Calls.quiet_of_same (turn_any _ _ _ (by decide))) | (go_at_call 19; exact Calls.quiet_of_same (k_calls _ (by omega) (by omega) _))))
          go_wp2
          have hvv2 : Hid (WBlk (W1.drewN nq) v 38 [a0, a1, a2, a3, a4, a5, a6, a7]) := hvv1
          have hww2 : Hid (WBlk (W1.drewN nq) w.heap.size 46 (wsch b 64)) := hww1
          have hbb2 : Hid (Below w.heap.size w (W1.drewN nq)) := pw_below_drewN hbb1 _
          generalize W1.drewN nq = W2 at hvv2 hww2 hbb2 ⊢
          clear hvv1 hww1 hbb1 c0 c1 c2 c3 c4 c5 c6 c7
          obtain ⟨c0, c1, c2, c3, c4, c5, c6, c7⟩ := WBlk.c8 hvv2
          clear cX
          have cX := WBlk.cell hww2 (t : Int) (by omega) (by rw [wsch_length]; omega)
          rw [← HX.out, Int.toNat_natCast] at cX
          clear nq
          go_quiet ((go_at_call 18; exact Calls.quiet_of_same (turn_any _ _ _ (by decide))))
          go_wp2
          have hvv3 : Hid (WBlk (W2.drewN nq) v 38 [a0, a1, a2, a3, a4, a5, a6, a7]) := hvv2
          have hww3 : Hid (WBlk (W2.drewN nq) w.heap.size 46 (wsch b 64)) := hww2
          have hbb3 : Hid (Below w.heap.size w (W2.drewN nq)) := pw_below_drewN hbb2 _
          generalize W2.drewN nq = W3 at hvv3 hww3 hbb3 ⊢
          clear hvv2 hww2 hbb2 c0 c1 c2 c3 c4 c5 c6 c7
          obtain ⟨c0, c1, c2, c3, c4, c5, c6, c7⟩ := WBlk.c8 hvv3
          clear cX
          have cX := WBlk.cell hww3 (t : Int) (by omega) (by rw [wsch_length]; omega)
          rw [← HX.out, Int.toNat_natCast] at cX
          refine wp_region_still_tail 2 (by kernel_rfl) (by kernel_rfl) ?_
          simp only [List.take_succ_cons, List.take_zero, List.drop_succ_cons, List.drop_zero]
          repeat still_step
          refine wpStill_nil ?_
          change wpList _ _ _ _ _ (W3.drew)
          have hvv4 : Hid (WBlk (W3.drew) v 38 [a0, a1, a2, a3, a4, a5, a6, a7]) := hvv3
          have hww4 : Hid (WBlk (W3.drew) w.heap.size 46 (wsch b 64)) := hww3
          have hbb4 : Hid (Below w.heap.size w (W3.drew)) := below_drew hbb3
          generalize W3.drew = W4 at hvv4 hww4 hbb4 ⊢
          clear hvv3 hww3 hbb3 c0 c1 c2 c3 c4 c5 c6 c7
          obtain ⟨c0, c1, c2, c3, c4, c5, c6, c7⟩ := WBlk.c8 hvv4
          refine wpList_copy_splice rfl (.tmp 140) (.tmp 141) 42 42 rfl 36 Try.underlying42 (by kernel_rfl) (some ⟨v, 1, none⟩) (some ⟨v, 0, none⟩) 7 7 7 8 (by rfl) (by rfl) v 1 (nums .u32 [a0, a1, a2, a3, a4, a5, a6, a7]) 38 hvv4 (nums .u32 [a0, a1, a2, a3, a4, a5, a6]) (by rfl) ?s1 (by simp [nums]) ?s2 v W4 (Below.refl _ _) (Nat.le_refl _) ?_
          case s1 =>
            intro _
            refine ⟨rfl, ⟨v, 0, none⟩, rfl, fun j u hj => ?_⟩
            rw [add_plain]
            match j, hj with
            | 0, hj => exact c0.trans hj
            | 1, hj => exact c1.trans hj
            | 2, hj => exact c2.trans hj
            | 3, hj => exact c3.trans hj
            | 4, hj => exact c4.trans hj
            | 5, hj => exact c5.trans hj
            | 6, hj => exact c6.trans hj
            | j + 7, hj => simp [nums] at hj
          case s2 => intro u hu; simp [nums] at hu; rcases hu with rfl | rfl | rfl | rfl | rfl | rfl | rfl <;> rfl
          intro W5 hs5 hb5
          have hvv5 : Hid (WBlk W5 v 38 [a0, a0, a1, a2, a3, a4, a5, a6]) := hs5
          have hww5 : Hid (WBlk W5 w.heap.size 46 (wsch b 64)) := (hb5.block _ hBv).trans hww4
          have hbb5 : Hid (Below w.heap.size w W5) := below_trans' hbb4 hb5 (Nat.le_of_lt hBv)
          clear hs5 hb5 hvv4 hww4 hbb4 c0 c1 c2 c3 c4 c5 c6 c7
          obtain ⟨c0, c1, c2, c3, c4, c5, c6, c7⟩ := WBlk.c8 hvv5
          have f0 := WBlk.frozen hvv5 0
          have f4 := WBlk.frozen hvv5 4
          go_wp2
          go_roundw
          case rel => exact ⟨t + 1, by omega, by go_num, block_step hvv5 Ha.out HX.out (by unfold big maj; omega) (by unfold big; omega), WBlk.far2 hww5 (Nat.ne_of_lt hBv), below_set (below_set hbb5 (Nat.le_of_lt hBv)) (Nat.le_of_lt hBv)⟩
          case measure => simp [intOf]; omega
        · have h64 : t = 64 := by omega
          rw [h64] at hvv
          clear h64
          have hgr := hbb.block g hlg
          have hgg : Hid (WBlk wr g 38 (hadd [h0, h1, h2, h3, h4, h5, h6, h7] (vrun [h0, h1, h2, h3, h4, h5, h6, h7] (wsch b 64) 64) 0)) := hgr.trans HG.out
          have hgb : Hid (w.grownBy wr (some g)) := grown_of_below hbb _
          have d81 : decide ((t : Int) < 64) = false := decide_eq_false (by omega)
          have hgv : g ≠ v := by omega
          go_wp2
          clear hlt ht d81 hgr hbb hww
          go_loopw [153] (fun v153 wx => ∃ i : Nat, i ≤ 8 ∧ v153 = .int .i64 i ∧ Hid (WBlk wx v 38 (vrun [h0, h1, h2, h3, h4, h5, h6, h7] (wsch b 64) 64)) ∧ Hid (WBlk wx g 38 (hadd [h0, h1, h2, h3, h4, h5, h6, h7] (vrun [h0, h1, h2, h3, h4, h5, h6, h7] (wsch b 64) 64) i)) ∧ Hid (w.grownBy wx (some g))) (fun v153 _ => 8 - (intOf v153).toNat)
          case atStart => exact ⟨0, by omega, rfl, hvv, hgg, hgb⟩
          case round =>
            obtain ⟨i, hi8, rfl, hv1, hg1, hb1⟩ := hrel
            clear hvv hgg hgb
            by_cases hi : i < 8
            · obtain ⟨X, hX⟩ : ∃ X, X = rd (vrun [h0, h1, h2, h3, h4, h5, h6, h7] (wsch b 64) 64) (i : Int) := ⟨_, rfl⟩
              obtain ⟨Y, hY⟩ : ∃ Y, Y = rd (hadd [h0, h1, h2, h3, h4, h5, h6, h7] (vrun [h0, h1, h2, h3, h4, h5, h6, h7] (wsch b 64) 64) i) (i : Int) := ⟨_, rfl⟩
              have cX := WBlk.cell hv1 (i : Int) (by omega) (by rw [vrun_length _ _ rfl]; omega)
              have cY := WBlk.cell hg1 (i : Int) (by omega) (by rw [hadd_length]; simp; omega)
              rw [← hX, Int.toNat_natCast] at cX
              rw [← hY, Int.toNat_natCast] at cY
              have fY := WBlk.frozen hg1 i
              have HX := Lib.hid hX
              have HY := Lib.hid hY
              clear hX hY
              have q0 : (i : Int) < 8 := by omega
              have p0 : (0 : Int) ≤ (i : Int) := by omega
              have d0 : decide ((i : Int) < 8) = true := decide_eq_true q0
              go_wp2
              refine wp_region_still_tail 11 (by kernel_rfl) (by kernel_rfl) ?_
              simp only [List.take_succ_cons, List.take_zero, List.drop_succ_cons, List.drop_zero]
              change wpStill _ _ (wr.drew) _ _ _
              have hv2 : Hid (WBlk (wr.drew) v 38 (vrun [h0, h1, h2, h3, h4, h5, h6, h7] (wsch b 64) 64)) := hv1
              have hg2 : Hid (WBlk (wr.drew) g 38 (hadd [h0, h1, h2, h3, h4, h5, h6, h7] (vrun [h0, h1, h2, h3, h4, h5, h6, h7] (wsch b 64) 64) i)) := hg1
              have hb2 : Hid (w.grownBy (wr.drew) (some g)) := grown_drew hb1
              have cX2 : (wr.drew).cell? ⟨v, i, none⟩ = some (.int .u32 X) := cX
              have cY2 : (wr.drew).cell? ⟨g, i, none⟩ = some (.int .u32 Y) := cY
              have fY2 : (wr.drew).frozen? ⟨g, i, none⟩ = false := fY
              generalize hW2 : wr.drew = W2 at hv2 hg2 hb2 cX2 cY2 fY2 ⊢
              have HW2 := Lib.hid hW2
              clear hW2 cX cY fY hv1 hg1 hb1
              repeat still_step
              refine wpStill_nil ?_
              change wpList _ _ _ _ _ (wr.drew)
              rw [HW2.out]
              clear HW2
              go_wp2
              go_roundw
              case rel => exact ⟨i + 1, by omega, by go_num, WBlk.far1 hv2 (Ne.symm hgv), block_add hg2 HX.out HY.out, grown_set hb2 _ _⟩
              case measure => simp [intOf]; omega
            · have h8 : i = 8 := by omega
              rw [h8] at hg1
              go_wp2
              go_end0
              exact ⟨rfl, hg1, hb1⟩
end Go.Proofs.Ytlpkgngjofabaaa.PSaltSeals

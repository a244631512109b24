/- Plain law: the reference's tables of roots are the constants of the hash. -/
import Derived.Test.YtlpkgngjofabaaaTabA
namespace Go.Proofs.Ytlpkgngjofabaaa.PSaltSeals
open Go.RowKit Go.Proofs.YtlpkgngjofabaaaW.PrintWords Go.Proofs.YtlpkgngjofabaaaW.PrintLast Go.Proofs.YtlpkgngjofabaaaW.PrintMore
set_option linter.unusedVariables false

theorem Lim.take {xs : List Int} (h : Lim xs) (n : Nat) : Lim (xs.take n) := fun x hx => h x (List.mem_of_mem_take hx)
theorem Lim.drop {xs : List Int} (h : Lim xs) (n : Nat) : Lim (xs.drop n) := fun x hx => h x (List.mem_of_mem_drop hx)
theorem val_parts (xs : List Int) (n : Nat) (h : n ≤ xs.length) : val xs = val (xs.take n) + 65536 ^ n * val (xs.drop n) := by
  have := val_append (xs.take n) (xs.drop n)
  rw [List.take_append_drop, List.length_take, Nat.min_eq_left h] at this
  exact this
theorem val_take_succ (xs : List Int) (n : Nat) (h : n < xs.length) : val (xs.take (n + 1)) = val (xs.take n) + 65536 ^ n * rd xs n := by
  rw [List.take_succ_eq_append_getElem h, val_append, List.length_take, Nat.min_eq_left (by omega)]
  simp [val, rd, List.getD_eq_getElem?_getD, h]

/-- The end of the reckoning: what has been gathered of the high limbs, and whether a low one is there. -/
def aboveEnd (top : Int) (rest : Bool) (p : Int) : Bool := if top > p then true else if top = p then rest else false

theorem above_low (x1 x2 : Int) (m : List Int) (hm : Lim m) (hp : 0 ≤ x1) (hp2 : x1 ≤ 100) (hq0 : 0 ≤ x2) (hq1 : x2 ≤ 100000) (hl : m.length ≤ 100) (top : Int) (d : Nat) :
    ∀ (rest : Bool), d ≤ m.length → (d : Int) ≤ 2 * x1 →
    Ev (fun k => chancelref10_above.l1 k x1 x2 m top rest ((d : Int) - 1)) (aboveEnd top (rest || decide (0 < val (m.take d))) x2) := by
  induction d with
  | zero =>
    intro rest _ _
    refine Ev.step (f := fun _ => some (aboveEnd top rest x2)) (fun k => ?_) ?_
    · simp only [chancelref10_above.l1]
      rw [if_neg (by omega), u64_small hq0 (by omega)]
      unfold aboveEnd
      split
      · rfl
      · split <;> rfl
    · simp [val]; exact Ev.now _
  | succ d ih =>
    intro rest hd hx
    have e1 : wrap64 (2 * x1) = 2 * x1 := wr_small (by omega) (by omega)
    have e2 : wrap64 (((d : Int) + 1 - 1) - 1) = (d : Int) - 1 := by rw [wr_small (by omega) (by omega)]; omega
    have e0 : (((d + 1 : Nat) : Int) - 1) = (d : Int) + 1 - 1 := by omega
    have hr := hm.rd (d : Int)
    have hv := val_nonneg (hm.take d)
    have hs := val_take_succ m d (by omega)
    have hpw : (0 : Int) < 65536 ^ d := Int.pow_pos (by omega)
    rw [e0]
    by_cases h0 : rd m d > 0
    · refine Ev.step (f := fun k => chancelref10_above.l1 k x1 x2 m top true ((d : Int) - 1)) (fun k => ?_) ?_
      · simp only [chancelref10_above.l1]
        rw [if_pos (by omega), e1, if_neg (by omega), if_pos (by omega), if_pos (by omega), show (d : Int) + 1 - 1 = d by omega, if_pos h0, show (d : Int) - 1 = d + 1 - 1 - 1 by omega, e2]; congr 1; omega
      · have hpos : 0 < val (m.take (d + 1)) := by
          rw [hs]; have := Int.mul_pos hpw h0; omega
        have := ih true (by omega) (by omega)
        simpa [hpos] using this
    · have hz : rd m d = 0 := by omega
      refine Ev.step (f := fun k => chancelref10_above.l1 k x1 x2 m top rest ((d : Int) - 1)) (fun k => ?_) ?_
      · simp only [chancelref10_above.l1]
        rw [if_pos (by omega), e1, if_neg (by omega), if_pos (by omega), if_pos (by omega), show (d : Int) + 1 - 1 = d by omega, if_neg h0, show (d : Int) - 1 = d + 1 - 1 - 1 by omega, e2]; congr 1; omega
      · have := ih rest (by omega) (by omega)
        rw [hs, hz]; simpa using this

theorem above_high (x1 x2 : Int) (q : Nat) (hq : 2 * x1 = q) (m : List Int) (hm : Lim m) (hp2 : x1 ≤ 100) (hq0 : 0 ≤ x2) (hq1 : x2 ≤ 100000) (hl : m.length ≤ 100) (hn : m.length ≤ q + 3) (hqm : q ≤ m.length) (d : Nat) :
    ∀ (e : Nat), q + d = e → e ≤ m.length →
    Ev (fun k => chancelref10_above.l1 k x1 x2 m (val (m.drop e)) false ((e : Int) - 1)) (aboveEnd (val (m.drop q)) (decide (0 < val (m.take q))) x2) := by
  induction d with
  | zero =>
    intro e he hem
    obtain rfl : e = q := by omega
    have := above_low x1 x2 m hm (by omega) hp2 hq0 hq1 hl (val (m.drop e)) e false (by omega) (by omega)
    simpa using this
  | succ d ih =>
    intro e he hem
    obtain ⟨e, rfl⟩ : ∃ e', e = e' + 1 := ⟨e - 1, by omega⟩
    have e1 : wrap64 (2 * x1) = 2 * x1 := wr_small (by omega) (by omega)
    have e2 : wrap64 ((e : Int) - 1) = (e : Int) - 1 := wr_small (by omega) (by omega)
    have hr := hm.rd (e : Int)
    have hv := val_nonneg (hm.drop (e + 1))
    have hvl := val_lt (hm.drop (e + 1))
    have hvl2 : val (m.drop (e + 1)) < 65536 ^ 2 := by
      refine Int.lt_of_lt_of_le hvl ?_
      have hL : (m.drop (e + 1)).length ≤ 2 := by rw [List.length_drop]; omega
      generalize (m.drop (e + 1)).length = L at hL
      rcases (show L = 0 ∨ L = 1 ∨ L = 2 by omega) with rfl | rfl | rfl <;> decide
    have hvl3 : val (m.drop (e + 1)) < 4294967296 := by simpa using hvl2
    have hs := val_drop m e (by omega)
    refine Ev.step (f := fun k => chancelref10_above.l1 k x1 x2 m (val (m.drop e)) false ((e : Int) - 1)) (fun k => ?_) (ih e (by omega) (by omega))
    simp only [chancelref10_above.l1]
    rw [show ((e + 1 : Nat) : Int) - 1 = e by omega, if_pos (by omega), e1, if_pos (by omega), if_pos (by omega), if_pos (by omega), e2, u64_small (x := val (m.drop (e + 1)) * 65536) (by omega) (by omega), u64_small (by omega) (by omega), hs]
    congr 1; omega

theorem aboveEnd_says (X p q : Int) (top low : Int) (hq : 0 < q) (hX : X = low + q * top) (h0 : 0 ≤ low) (h1 : low < q) : aboveEnd top (decide (0 < low)) p = decide (p * q < X) := by
  unfold aboveEnd
  by_cases a : top > p
  · rw [if_pos a]; symm; rw [decide_eq_true_iff]
    have : q * (p + 1) ≤ q * top := Int.mul_le_mul_of_nonneg_left (by omega) (by omega)
    have e : q * (p + 1) = p * q + q := by grind
    omega
  · rw [if_neg a]
    by_cases b : top = p
    · subst b
      rw [if_pos rfl]
      congr 1
      have e : q * top = top * q := Int.mul_comm _ _
      apply propext; constructor <;> intro h <;> omega
    · rw [if_neg b]; symm; rw [decide_eq_false_iff_not]
      have : q * (top + 1) ≤ q * p := Int.mul_le_mul_of_nonneg_left (by omega) (by omega)
      have e : q * (top + 1) = q * top + q := by grind
      have e2 : q * p = p * q := Int.mul_comm _ _
      omega

theorem above_says (x p : Int) (pw : Nat) (hpw : pw = 2 ∨ pw = 3) (h0 : 0 ≤ x) (h1 : x ≤ 1099511627776) (hp0 : 0 ≤ p) (hp1 : p ≤ 100000) :
    Ev (fun k => chancelref10_above.f k x pw p) (decide (p * 65536 ^ (2 * pw) < x ^ pw)) := by
  obtain ⟨y, ey, hy, hyl, hyv⟩ := limbs_says x h0 (by omega)
  obtain ⟨y2, hy2, hy2l, hy2v, hy2e⟩ := times_says y y hy hy (by omega) (by omega)
  obtain ⟨y3, hy3, hy3l, hy3v, hy3e⟩ := times_says y2 y hy2 hy (by omega) (by omega)
  have w2 : wrap64 (1 + 1) = 2 := wr_small (by omega) (by omega)
  have w3 : wrap64 (2 + 1) = 3 := wr_small (by omega) (by omega)
  rcases hpw with rfl | rfl
  · have fin := above_high 2 p 4 rfl y2 hy2 (by omega) hp0 hp1 (by omega) (by omega) (by omega) (y2.length - 4) y2.length (by omega) (by omega)
    have E := aboveEnd_says (x ^ 2) p (65536 ^ 4) (val (y2.drop 4)) (val (y2.take 4)) (by decide) (by rw [← val_parts y2 4 (by omega), hy2v, hyv]; grind) (val_nonneg (hy2.take _)) (by have := val_lt (hy2.take 4); rw [List.length_take, Nat.min_eq_left (by omega)] at this; exact this)
    rw [E] at fin
    rw [List.drop_length] at fin
    refine Ev.congr (f := fun k => chancelref10_above.l0 k 2 p y y 1) (fun k => ?_) ?_
    · unfold chancelref10_above.f; rw [ey]; rfl
    · refine Ev.step (f := fun k => (chancelref10_times.f k y y).bind fun t => chancelref10_above.l0 k 2 p y t 2) (fun k => ?_) (Ev.bind hy2e ?_)
      · simp only [chancelref10_above.l0]; rw [if_pos (by omega), w2]
      · refine Ev.step (f := fun k => chancelref10_above.l1 k 2 p y2 0 false ((y2.length : Int) - 1)) (fun k => ?_) fin
        simp only [chancelref10_above.l0]; rw [if_neg (by omega), wr_small (by omega) (by omega)]
  · have fin := above_high 3 p 6 rfl y3 hy3 (by omega) hp0 hp1 (by omega) (by omega) (by omega) (y3.length - 6) y3.length (by omega) (by omega)
    have E := aboveEnd_says (x ^ 3) p (65536 ^ 6) (val (y3.drop 6)) (val (y3.take 6)) (by decide) (by rw [← val_parts y3 6 (by omega), hy3v, hy2v, hyv]; grind) (val_nonneg (hy3.take _)) (by have := val_lt (hy3.take 6); rw [List.length_take, Nat.min_eq_left (by omega)] at this; exact this)
    rw [E] at fin
    rw [List.drop_length] at fin
    refine Ev.congr (f := fun k => chancelref10_above.l0 k 3 p y y 1) (fun k => ?_) ?_
    · unfold chancelref10_above.f; rw [ey]; rfl
    · refine Ev.step (f := fun k => (chancelref10_times.f k y y).bind fun t => chancelref10_above.l0 k 3 p y t 2) (fun k => ?_) (Ev.bind hy2e ?_)
      · simp only [chancelref10_above.l0]; rw [if_pos (by omega), w2]
      · refine Ev.step (f := fun k => (chancelref10_times.f k y2 y).bind fun t => chancelref10_above.l0 k 3 p y t 3) (fun k => ?_) (Ev.bind hy3e ?_)
        · simp only [chancelref10_above.l0]; rw [if_pos (by omega), w3]
        · refine Ev.step (f := fun k => chancelref10_above.l1 k 3 p y3 0 false ((y3.length : Int) - 1)) (fun k => ?_) fin
          simp only [chancelref10_above.l0]; rw [if_neg (by omega), wr_small (by omega) (by omega)]

theorem pow_mono_of {a b : Int} (ha : 0 ≤ a) (h : a ≤ b) (n : Nat) : a ^ n ≤ b ^ n := by
  induction n with
  | zero => simp
  | succ n ih =>
    rw [Int.pow_succ, Int.pow_succ]
    exact Int.mul_le_mul ih h ha (Int.pow_nonneg (by omega))

theorem root_l0 (p : Int) (pw : Nat) (hpw : pw = 2 ∨ pw = 3) (hp0 : 0 ≤ p) (hp1 : p ≤ 100000) (c : Int) (hc0 : 0 ≤ c) (hc : c ^ pw ≤ p * 65536 ^ (2 * pw)) (hc1 : p * 65536 ^ (2 * pw) < (c + 1) ^ pw) (d : Nat) :
    ∀ (lo hi : Int), (hi - lo).toNat ≤ d → 0 ≤ lo → lo < hi → hi ≤ 1099511627776 → lo ≤ c → c < hi → Ev (fun k => chancelref10_root.l0 k p pw lo hi) (c % 4294967296) := by
  induction d using Nat.strongRecOn with
  | _ d ih =>
    intro lo hi hd h0 h1 h2 h3 h4
    have e1 : IntKind.u64.wrap (hi - lo) = hi - lo := u64_small (by omega) (by omega)
    have e2 : IntKind.u64.wrap (lo + hi) = lo + hi := u64_small (by omega) (by omega)
    have e3 : (lo + hi).tdiv 2 = (lo + hi) / 2 := Int.tdiv_eq_ediv_of_nonneg (by omega)
    have e4 : IntKind.u64.wrap ((lo + hi) / 2) = (lo + hi) / 2 := u64_small (by omega) (by omega)
    by_cases hgt : hi - lo > 1
    · have ab := above_says ((lo + hi) / 2) p pw hpw (by omega) (by omega) hp0 hp1
      refine Ev.step (f := fun k => (chancelref10_above.f k ((lo + hi) / 2) pw p).bind fun t => if t = true then chancelref10_root.l0 k p pw lo ((lo + hi) / 2) else chancelref10_root.l0 k p pw ((lo + hi) / 2) hi) (fun k => ?_) (Ev.bind ab ?_)
      · simp only [chancelref10_root.l0]; rw [e1, if_pos hgt, e2, e3, e4]
      · by_cases hab : p * 65536 ^ (2 * pw) < ((lo + hi) / 2) ^ pw
        · simp only [hab, decide_true, if_true]
          have hlt : c < (lo + hi) / 2 := by
            rcases Int.lt_or_le c ((lo + hi) / 2) with h | h
            · exact h
            · have := pow_mono_of (a := (lo + hi) / 2) (by omega) h pw; omega
          exact ih ((lo + hi) / 2 - lo).toNat (by omega) lo ((lo + hi) / 2) (Nat.le_refl _) h0 (by omega) (by omega) h3 hlt
        · simp only [hab, decide_false, Bool.false_eq_true, if_false]
          have hle : (lo + hi) / 2 ≤ c := by
            rcases Int.lt_or_le c ((lo + hi) / 2) with h | h
            · have := pow_mono_of (a := c + 1) (by omega) (by omega : c + 1 ≤ (lo + hi) / 2) pw; omega
            · exact h
          exact ih (hi - (lo + hi) / 2).toNat (by omega) ((lo + hi) / 2) hi (Nat.le_refl _) (by omega) (by omega) (by omega) hle h4
    · refine Ev.step (f := fun _ => some (c % 4294967296)) (fun k => ?_) (Ev.now _)
      simp only [chancelref10_root.l0]
      rw [e1, if_neg hgt, Int.tmod_eq_emod_of_nonneg h0, show lo = c by omega, Int.emod_emod_of_dvd _ (Int.dvd_refl _)]

def rootOk (pw : Nat) (p c : Int) : Bool := decide (0 ≤ p) && decide (p ≤ 100000) && decide (0 ≤ c) && decide (c < 1099511627776) && decide (c ^ pw ≤ p * 65536 ^ (2 * pw)) && decide (p * 65536 ^ (2 * pw) < (c + 1) ^ pw)
theorem root_says (p c : Int) (pw : Nat) (hpw : pw = 2 ∨ pw = 3) (h : rootOk pw p c = true) : Ev (fun k => chancelref10_root.f k p pw) (c % 4294967296) := by
  simp only [rootOk, Bool.and_eq_true, decide_eq_true_eq] at h
  obtain ⟨⟨⟨⟨⟨h1, h2⟩, h3⟩, h4⟩, h5⟩, h6⟩ := h
  exact root_l0 p pw hpw h1 h2 c h3 h5 h6 _ 0 1099511627776 (Nat.le_refl _) (by omega) (by omega) (by omega) h3 h4

theorem table_l0 (n : Nat) (pw : Nat) (hpw : pw = 2 ∨ pw = 3) (ps cs : List Int) (hps : ps.length = n) (hcs : cs.length = n) (hn : n ≤ 1000) (hok : ∀ i : Nat, i < n → rootOk pw (rd ps i) (rd cs i) = true) (d : Nat) :
    ∀ (i : Nat), i + d = n → Ev (fun k => chancelref10_Table.l0 k n pw ((cs.take i).map (· % 4294967296)) ps i) (cs.map (· % 4294967296)) := by
  induction d with
  | zero =>
    intro i hi
    refine Ev.step (f := fun _ => some (cs.map (· % 4294967296))) (fun k => ?_) (Ev.now _)
    simp only [chancelref10_Table.l0]
    rw [if_neg (by omega), List.take_of_length_le (by omega)]
  | succ d ih =>
    intro i hi
    have hr := root_says _ _ pw hpw (hok i (by omega))
    refine Ev.step (f := fun k => (chancelref10_root.f k (rd ps i) pw).bind fun t => if ((cs.take i).map (· % 4294967296)).length < 35184372088832 then chancelref10_Table.l0 k n pw ((cs.take i).map (· % 4294967296) ++ [t]) ps (wrap64 ((i : Int) + 1)) else none) (fun k => ?_) (Ev.bind hr ?_)
    · simp only [chancelref10_Table.l0]
      rw [if_pos (by omega), if_pos (by omega), if_pos (by omega)]
    · have e : (cs.take i).map (· % 4294967296) ++ [rd cs i % 4294967296] = (cs.take (i + 1)).map (· % 4294967296) := by
        rw [List.take_succ_eq_append_getElem (by omega), List.map_append]
        simp [rd, List.getD_eq_getElem?_getD, show i < cs.length by omega]
      rw [e]
      have hl : ((cs.take i).map (· % 4294967296)).length < 35184372088832 := by rw [List.length_map, List.length_take]; omega
      simp only [hl, if_true]
      rw [wr_small (by omega) (by omega)]
      have := ih (i + 1) (by omega)
      simpa using this
end Go.Proofs.Ytlpkgngjofabaaa.PSaltSeals

/- Plain law: the product of two rows of limbs has the product of their values. -/
import Derived.Test.YtlpkgngjofabaaaMyB
namespace Go.Proofs.Ytlpkgngjofabaaa.PSaltSeals
open Go.RowKit Go.Proofs.YtlpkgngjofabaaaW.PrintWords Go.Proofs.YtlpkgngjofabaaaW.PrintLast Go.Proofs.YtlpkgngjofabaaaW.PrintMore
set_option linter.unusedVariables false

def val : List Int → Int
  | [] => 0
  | x :: xs => x + 65536 * val xs
def Lim (xs : List Int) : Prop := ∀ x ∈ xs, 0 ≤ x ∧ x < 65536
theorem Lim.rd {xs : List Int} (h : Lim xs) (i : Int) : 0 ≤ rd xs i ∧ rd xs i < 65536 := by
  unfold Go.Proofs.YtlpkgngjofabaaaW.PrintWords.rd
  rw [List.getD_eq_getElem?_getD]
  cases e : xs[i.toNat]? with
  | none => simp
  | some v => exact h v (List.mem_of_getElem? e)
theorem Lim.set {xs : List Int} (h : Lim xs) (n : Nat) (v : Int) (h0 : 0 ≤ v) (h1 : v < 65536) : Lim (xs.set n v) := by
  intro x hx
  rcases List.mem_or_eq_of_mem_set hx with hx | rfl
  · exact h x hx
  · exact ⟨h0, h1⟩
theorem val_append (a b : List Int) : val (a ++ b) = val a + 65536 ^ a.length * val b := by
  induction a with
  | nil => simp [val]
  | cons x xs ih => simp only [List.cons_append, val, ih, List.length_cons, Int.pow_succ]; grind
theorem val_nonneg {xs : List Int} (h : Lim xs) : 0 ≤ val xs := by
  induction xs with
  | nil => simp [val]
  | cons x xs ih =>
    have h1 := h x (by simp)
    have h2 := ih (fun y hy => h y (by simp [hy]))
    simp only [val]; omega
theorem val_lt {xs : List Int} (h : Lim xs) : val xs < 65536 ^ xs.length := by
  induction xs with
  | nil => simp [val]
  | cons x xs ih =>
    have h1 := h x (by simp)
    have h2 := ih (fun y hy => h y (by simp [hy]))
    simp only [val, List.length_cons, Int.pow_succ]; omega
theorem val_set (xs : List Int) : ∀ (n : Nat) (v : Int), n < xs.length → val (xs.set n v) = val xs + 65536 ^ n * (v - rd xs n) := by
  induction xs with
  | nil => intro n v h; simp at h
  | cons x xs ih =>
    intro n v h
    cases n with
    | zero => simp [val, rd]; omega
    | succ n =>
      have := ih n v (by simpa using h)
      simp only [List.set_cons_succ, val, this, Int.pow_succ]
      have e : rd (x :: xs) ((n + 1 : Nat) : Int) = rd xs (n : Int) := by unfold rd; simp [show ((n : Int) + 1).toNat = n + 1 by omega]
      rw [e]; grind
theorem val_drop (xs : List Int) (n : Nat) (h : n < xs.length) : val (xs.drop n) = rd xs n + 65536 * val (xs.drop (n + 1)) := by
  rw [List.drop_eq_getElem_cons h]
  simp [val, rd, List.getD_eq_getElem?_getD, h]
theorem rd_set_ne (xs : List Int) (n : Nat) (v : Int) (m : Int) (hm : 0 ≤ m) (h : m ≠ n) : rd (xs.set n v) m = rd xs m := by
  unfold rd
  rw [List.getD_eq_getElem?_getD, List.getD_eq_getElem?_getD, List.getElem?_set_ne (by omega)]
theorem wr_small {x : Int} (h0 : -1000000 ≤ x) (h1 : x ≤ 1000000) : wrap64 x = x := by unfold wrap64; omega
theorem u64_small {x : Int} (h0 : 0 ≤ x) (h1 : x ≤ 1000000000000000) : IntKind.u64.wrap x = x := by
  rw [IntKind.wrap]; simp [IntKind.signed, IntKind.bits]; omega
theorem mul_small {x y : Int} (hx : 0 ≤ x ∧ x < 65536) (hy : 0 ≤ y ∧ y < 65536) : 0 ≤ x * y ∧ x * y ≤ 65535 * 65535 := by
  refine ⟨Int.mul_nonneg hx.1 hy.1, ?_⟩
  have h1 : x * y ≤ x * 65535 := Int.mul_le_mul_of_nonneg_left (by omega) hx.1
  omega

theorem times_l1 (a b : List Int) (ha : Lim a) (hb : Lim b) (hla : a.length ≤ 100) (hlb : b.length ≤ 100) (i : Nat) (hi : i < a.length) (d : Nat) :
    ∀ (j : Nat) (x5 : List Int) (c : Int), j + d = b.length → x5.length = a.length + b.length → Lim x5 → 0 ≤ c → c < 65536 → rd x5 ((i + b.length : Nat) : Int) = 0 →
    ∃ y, Lim y ∧ y.length = x5.length ∧ val y = val x5 + 65536 ^ (i + j) * (c + rd a i * val (b.drop j)) ∧ (∀ m : Nat, i + b.length < m → rd y m = rd x5 m) ∧
      ∀ r, Ev (fun k => chancelref10_times.l0 k a b y ((i : Int) + 1)) r → Ev (fun k => chancelref10_times.l1 k a b x5 i c j) r := by
  induction d with
  | zero =>
    intro j x5 c hj hlen hx hc0 hc1 hz
    have e1 : wrap64 ((i : Int) + (b.length : Int)) = ((i + b.length : Nat) : Int) := by rw [wr_small (by omega) (by omega)]; simp
    have e2 : wrap64 ((i : Int) + 1) = (i : Int) + 1 := wr_small (by omega) (by omega)
    have e3 : IntKind.u64.wrap (rd x5 ((i + b.length : Nat) : Int) + c) = c := by rw [hz, u64_small (by omega) (by omega)]; omega
    refine ⟨x5.set (i + b.length) c, hx.set _ _ hc0 hc1, by simp, ?_, ?_, fun r hk => Ev.step (f := fun k => chancelref10_times.l0 k a b (x5.set (i + b.length) c) ((i : Int) + 1)) (fun k => ?_) hk⟩
    · rw [val_set _ _ _ (by omega), hz]
      have : b.drop j = [] := List.drop_eq_nil_of_le (by omega)
      rw [this, show j = b.length by omega]; simp [val]
    · intro m hm
      exact rd_set_ne _ _ _ _ (by omega) (by omega)
    · simp only [chancelref10_times.l1]
      rw [if_neg (by omega), e1, if_pos (by omega), if_pos (by omega), e3, e2]
      simp only [Int.toNat_natCast]
  | succ d ih =>
    intro j x5 c hj hlen hx hc0 hc1 hz
    have e1 : wrap64 ((i : Int) + (j : Int)) = ((i + j : Nat) : Int) := by rw [wr_small (by omega) (by omega)]; simp
    have e2 : wrap64 ((j : Int) + 1) = ((j + 1 : Nat) : Int) := by rw [wr_small (by omega) (by omega)]; simp
    have hA := ha.rd (i : Int)
    have hB := hb.rd (j : Int)
    have hX := hx.rd ((i + j : Nat) : Int)
    have hM := mul_small hA hB
    have e3 : IntKind.u64.wrap (IntKind.u64.wrap (rd x5 ((i + j : Nat) : Int) + IntKind.u64.wrap (rd a i * rd b j)) + c) = rd x5 ((i + j : Nat) : Int) + rd a i * rd b j + c := by
      rw [u64_small hM.1 (by omega), u64_small (x := rd x5 ((i + j : Nat) : Int) + rd a i * rd b j) (by omega) (by omega), u64_small (by omega) (by omega)]
    generalize hS : rd x5 ((i + j : Nat) : Int) + rd a i * rd b j + c = S at *
    have hS0 : 0 ≤ S := by omega
    have hS1 : S < 65536 * 65536 := by omega
    have t1 : S.tmod 65536 = S % 65536 := Int.tmod_eq_emod_of_nonneg hS0
    have t2 : S.tdiv 65536 = S / 65536 := Int.tdiv_eq_ediv_of_nonneg hS0
    obtain ⟨y, hy, hyl, hyv, hym, hgo⟩ := ih (j + 1) (x5.set (i + j) (S % 65536)) (S / 65536) (by omega) (by simpa using hlen) (hx.set _ _ (by omega) (by omega)) (by omega) (by omega) (by rw [rd_set_ne _ _ _ _ (by omega) (by omega)]; exact hz)
    refine ⟨y, hy, by simpa using hyl, ?_, ?_, fun r hk => Ev.step (f := fun k => chancelref10_times.l1 k a b (x5.set (i + j) (S % 65536)) i (S / 65536) ((j + 1 : Nat) : Int)) (fun k => ?_) (hgo r hk)⟩
    · rw [hyv, val_set _ _ _ (by omega), val_drop b j (by omega)]
      rw [show i + (j + 1) = i + j + 1 by omega, Int.pow_succ]
      have : S = 65536 * (S / 65536) + S % 65536 := by omega
      grind
    · intro m hm
      rw [hym m hm]
      exact rd_set_ne _ _ _ _ (by omega) (by omega)
    · simp only [chancelref10_times.l1]
      rw [if_pos (by omega), e1, if_pos (by omega), if_pos (by omega), if_pos (by omega), if_pos (by omega), if_pos (by omega), e3, e2, t1, t2, u64_small (x := S / 65536) (by omega) (by omega)]
      simp only [Int.toNat_natCast]

theorem times_l0 (a b : List Int) (ha : Lim a) (hb : Lim b) (hla : a.length ≤ 100) (hlb : b.length ≤ 100) (d : Nat) :
    ∀ (i : Nat) (x5 : List Int), i + d = a.length → x5.length = a.length + b.length → Lim x5 → (∀ m : Nat, i + b.length ≤ m → rd x5 m = 0) →
    ∃ y, Lim y ∧ y.length = a.length + b.length ∧ val y = val x5 + 65536 ^ i * (val (a.drop i) * val b) ∧ Ev (fun k => chancelref10_times.l0 k a b x5 i) y := by
  induction d with
  | zero =>
    intro i x5 hi hlen hx hz
    refine ⟨x5, hx, hlen, ?_, Ev.step (f := fun _ => some x5) (fun k => ?_) (Ev.now _)⟩
    · rw [List.drop_eq_nil_of_le (by omega)]; simp [val]
    · simp only [chancelref10_times.l0]; rw [if_neg (by omega)]
  | succ d ih =>
    intro i x5 hi hlen hx hz
    obtain ⟨y, hy, hyl, hyv, hym, hgo⟩ := times_l1 a b ha hb hla hlb i (by omega) b.length 0 x5 0 (by omega) hlen hx (by omega) (by omega) (hz _ (Nat.le_refl _))
    have hyz : ∀ m : Nat, i + 1 + b.length ≤ m → rd y m = 0 := fun m hm => by rw [hym m (by omega)]; exact hz m (by omega)
    simp only [Nat.add_zero, List.drop_zero, Int.zero_add] at hyv
    obtain ⟨z, hz1, hz2, hz3, hz4⟩ := ih (i + 1) y (by omega) (by omega) hy (fun m hm => hyz m hm)
    refine ⟨z, hz1, hz2, ?_, Ev.step (f := fun k => chancelref10_times.l1 k a b x5 i 0 0) (fun k => ?_) (hgo z ?_)⟩
    · rw [hz3, hyv, val_drop a i (by omega), Int.pow_succ]; grind
    · simp only [chancelref10_times.l0]; rw [if_pos (by omega)]
    · have : ((i + 1 : Nat) : Int) = (i : Int) + 1 := by simp
      rw [this] at hz4; exact hz4

theorem val_zeros (n : Nat) : val (List.replicate n 0) = 0 := by
  induction n with
  | zero => rfl
  | succ n ih => simp [List.replicate_succ, val, ih]
theorem times_says (a b : List Int) (ha : Lim a) (hb : Lim b) (hla : a.length ≤ 100) (hlb : b.length ≤ 100) :
    ∃ y, Lim y ∧ y.length = a.length + b.length ∧ val y = val a * val b ∧ Ev (fun k => chancelref10_times.f k a b) y := by
  obtain ⟨y, h1, h2, h3, h4⟩ := times_l0 a b ha hb hla hlb a.length 0 (List.replicate (a.length + b.length) 0) (by omega) (by simp) (by intro x hx; rw [List.mem_replicate] at hx; omega)
    (by intro m _; unfold rd; rw [List.getD_eq_getElem?_getD, List.getElem?_replicate]; split <;> rfl)
  refine ⟨y, h1, h2, by rw [h3, val_zeros]; simp, Ev.congr (fun k => ?_) h4⟩
  unfold chancelref10_times.f
  rw [wr_small (by omega) (by omega), if_pos (by omega), if_pos (by omega)]
  rw [show ((a.length : Int) + (b.length : Int)).toNat = a.length + b.length by omega]; rfl
theorem limbs_says (x : Int) (h0 : 0 ≤ x) (h1 : x < 281474976710656) : ∃ y, chancelref10_limbs.f x = some y ∧ Lim y ∧ y.length = 3 ∧ val y = x := by
  refine ⟨_, rfl, ?_, rfl, ?_⟩
  · rw [Int.tdiv_eq_ediv_of_nonneg h0, Int.tdiv_eq_ediv_of_nonneg h0, u64_small (x := x / 65536) (by omega) (by omega), u64_small (x := x / 4294967296) (by omega) (by omega), Int.tmod_eq_emod_of_nonneg h0, Int.tmod_eq_emod_of_nonneg (by omega)]
    intro v hv
    simp only [List.mem_cons, List.not_mem_nil, or_false] at hv
    omega
  · rw [Int.tdiv_eq_ediv_of_nonneg h0, Int.tdiv_eq_ediv_of_nonneg h0, u64_small (x := x / 65536) (by omega) (by omega), u64_small (x := x / 4294967296) (by omega) (by omega), Int.tmod_eq_emod_of_nonneg h0, Int.tmod_eq_emod_of_nonneg (by omega)]
    simp only [val]; omega
end Go.Proofs.Ytlpkgngjofabaaa.PSaltSeals

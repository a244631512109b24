/- Plain law: which users are right, by the program and by the reference. -/
import Derived.Test.YtlpkgngjofabaaaDoorULaw
namespace Go.Proofs.YtlpkgngjofabaaaDoor.PSaltUsers
open Go.RowKit Go.Proofs.YtlpkgngjofabaaaDoorW.PrintWords Go.Proofs.YtlpkgngjofabaaaDoorW.PrintLast Go.Proofs.YtlpkgngjofabaaaDoorW.PrintMore
set_option linter.unusedVariables false
set_option linter.unusedSimpArgs false

/-- Strings as long as an input's may be. -/
def Meet (u : S26) : Prop := u.f0.size ≤ 140737488351232 ∧ u.f1.size ≤ 140737488351232 ∧ u.f2.size ≤ 140737488351232

theorem wrap64_small {x : Int} (h0 : -9223372036854775808 ≤ x) (h1 : x ≤ 9223372036854775807) : wrap64 x = x := by
  unfold wrap64
  omega
theorem all_of_rd (l : List S26) (p : S26 → Bool) (h : ∀ j : Nat, j < l.length → p (rd_T26 l (j : Int)) = true) : l.all p = true := by
  rw [List.all_eq_true]
  intro x hx
  obtain ⟨j, hj, rfl⟩ := List.mem_iff_getElem.1 hx
  have := h j hj
  unfold rd_T26 at this
  simpa [List.getD_eq_getElem?_getD, hj] using this
theorem small_total (l : List S26) (hm : ∀ i : Nat, i < l.length → Meet (rd_T26 l (i : Int))) (hl : l.length ≤ 9223372036854775807) :
    ∀ n i : Nat, i + n = l.length → ∃ b, chancellaw10_small.l0 (n + 1) l l (l.length : Int) (i : Int) = some b ∧ (b = true → l.length ≤ 100 ∧ ∀ j : Nat, i ≤ j → j < l.length → smallU (rd_T26 l (j : Int)) = true) := by
  intro n
  induction n with
  | zero =>
    intro i hi
    refine ⟨decide ((l.length : Int) ≤ 100), ?_, fun h => ⟨by have := of_decide_eq_true h; omega, fun j h1 h2 => by omega⟩⟩
    unfold chancellaw10_small.l0
    rw [if_neg (by omega)]
  | succ n ih =>
    intro i hi
    obtain ⟨h0, h1, h2⟩ := hm i (by omega)
    have e : (wrap64 ((wrap64 ((((rd_T26 l (i : Int)).f0).size : Int) + (((rd_T26 l (i : Int)).f1).size : Int))) + (((rd_T26 l (i : Int)).f2).size : Int))) = (((rd_T26 l (i : Int)).f0).size : Int) + (((rd_T26 l (i : Int)).f1).size : Int) + (((rd_T26 l (i : Int)).f2).size : Int) := by
      have e0 : wrap64 ((((rd_T26 l (i : Int)).f0).size : Int) + (((rd_T26 l (i : Int)).f1).size : Int)) = (((rd_T26 l (i : Int)).f0).size : Int) + (((rd_T26 l (i : Int)).f1).size : Int) := wrap64_small (by omega) (by omega)
      rw [e0, wrap64_small (by omega) (by omega)]
    have e1 : wrap64 ((i : Int) + 1) = ((i + 1 : Nat) : Int) := by rw [wrap64_small (by omega) (by omega)]; rfl
    unfold chancellaw10_small.l0
    rw [if_pos (by omega), if_pos (by omega), if_pos (by omega), e, e1]
    split
    · exact ⟨false, rfl, fun h => by cases h⟩
    · rename_i hc
      obtain ⟨b, hb, hj⟩ := ih (i + 1) (by omega)
      refine ⟨b, hb, fun hbt => ⟨(hj hbt).1, fun j h1' h2' => ?_⟩⟩
      rcases Nat.lt_or_ge i j with h | h
      · exact (hj hbt).2 j h h2'
      · obtain rfl : j = i := by omega
        unfold smallU
        exact decide_eq_true (by omega)

/-- A sign of a seal. -/
def hexC (c : UInt8) : Bool := digs.data.toList.contains c
theorem hexC_iff (c : UInt8) : hexC c = (decide (48 ≤ (c.toNat : Int)) && decide ((c.toNat : Int) ≤ 57) || decide (97 ≤ (c.toNat : Int)) && decide ((c.toNat : Int) ≤ 102)) := by
  have h : ∀ n, n < 256 → hexC (UInt8.ofNat n) = (decide (48 ≤ (n : Int)) && decide ((n : Int) ≤ 57) || decide (97 ≤ (n : Int)) && decide ((n : Int) ≤ 102)) := by decide +kernel
  have := h c.toNat c.toNat_lt
  rw [UInt8.ofNat_toNat] at this
  exact this
theorem dropWhile_nil {p : UInt8 → Bool} : ∀ l : List UInt8, l.dropWhile p = [] ↔ l.all p = true
  | [] => by simp
  | x :: r => by
    rw [List.dropWhile_cons, List.all_cons]
    cases h : p x
    · simp
    · simp [dropWhile_nil r]
theorem trimmed_nil (s : ByteArray) : (trimmed s).toList.isEmpty = s.data.toList.all hexC := by
  have e : (trimmed s).toList = Lib.trimS s.data.toList digs.data.toList := by rw [ByteArray.toList_eq]; rfl
  rw [e, Bool.eq_iff_iff, List.isEmpty_iff]
  unfold Lib.trimS Lib.trimLeftS Lib.trimRightS
  rw [dropWhile_nil]
  constructor
  · intro h
    rw [List.all_eq_true] at h ⊢
    by_cases hn : (s.data.toList.reverse.dropWhile (digs.data.toList.contains ·)) = []
    · rw [dropWhile_nil, List.all_eq_true] at hn
      exact fun x hx => hn x (List.mem_reverse.2 hx)
    · have hd : ∀ (l : List UInt8), l.dropWhile (digs.data.toList.contains ·) ≠ [] → ∃ x ∈ l.dropWhile (digs.data.toList.contains ·), digs.data.toList.contains x = false := by
        intro l
        induction l with
        | nil => intro h; simp at h
        | cons y r ih =>
          intro h
          rw [List.dropWhile_cons] at h ⊢
          cases hy : digs.data.toList.contains y
          · rw [if_neg (by simp)]
            exact ⟨y, List.mem_cons_self, hy⟩
          · rw [hy, if_pos rfl] at h
            rw [if_pos rfl]
            exact ih h
      obtain ⟨x, hx, hf⟩ := hd _ hn
      have := h x (List.mem_reverse.2 hx)
      rw [hf] at this
      cases this
  · intro h
    rw [List.all_eq_true] at h ⊢
    intro x hx
    exact h x (List.mem_reverse.1 ((List.dropWhile_sublist _).subset (List.mem_reverse.1 hx)))
theorem seal_l0 (s : ByteArray) (hs : s.size ≤ 140737488351232) : ∀ n i : Nat, i + n = s.size → chancelref10_seal.l0 (n + 1) s (i : Int) = some ((s.data.toList.drop i).all hexC && ((s.size : Int) == 64)) := by
  intro n
  induction n with
  | zero =>
    intro i hi
    unfold chancelref10_seal.l0
    rw [if_neg (by omega), List.drop_eq_nil_of_le (by have : s.data.toList.length = s.size := Array.length_toList
                                                      omega)]
    simp
  | succ n ih =>
    intro i hi
    have hlt : i < s.data.toList.length := by
      have : s.data.toList.length = s.size := Array.length_toList
      omega
    have e1 : wrap64 ((i : Int) + 1) = ((i + 1 : Nat) : Int) := by rw [wrap64_small (by omega) (by omega)]; rfl
    have hb : bt s (i : Int) = ((s.data.toList[i]'hlt).toNat : Int) := by
      unfold bt
      rw [dif_pos (by omega)]
      rfl
    unfold chancelref10_seal.l0
    rw [if_pos (by omega), if_pos (by omega), e1, ih (i + 1) (by omega), hb, List.drop_eq_getElem_cons hlt, List.all_cons, hexC_iff]
    generalize ((s.data.toList[i]'hlt).toNat : Int) = c
    by_cases c1 : c ≥ 48 <;> by_cases c2 : c ≤ 57 <;> by_cases c3 : c ≥ 97 <;> by_cases c4 : c ≤ 102 <;> simp [c1, c2, c3, c4] <;> omega
theorem seal_says (s : ByteArray) (hs : s.size ≤ 140737488351232) : Ev (fun k => chancelref10_seal.f k s) (s.data.toList.all hexC && ((s.size : Int) == 64)) :=
  Ev.of (fun k => chancelref10_seal.mono s k) (k := s.size + 1) (seal_l0 s hs s.size 0 (by omega))

def sameN (l : List S26) (i j : Nat) : Bool := (rd_T26 l (j : Int)).f0.toList == (rd_T26 l (i : Int)).f0.toList
theorem sameKey_iff (u v : S26) : (nmKey u).sameKey (nmKey v) = (u.f0.toList == v.f0.toList) := by
  rw [Bool.eq_iff_iff, beq_iff_eq, ByteArray.toList_eq, ByteArray.toList_eq]
  constructor
  · intro h
    have := WideAt.sameKey_eq h
    unfold nmKey at this
    injection this
  · intro h
    have e : nmKey u = nmKey v := by unfold nmKey; rw [h]
    rw [e]
    exact WideAt.sameKey_self (key_lit v)
theorem taken_eq (l : List S26) (i : Nat) (hi : i < l.length) : taken l i (rd_T26 l (i : Int)) = (List.range' 0 i).any (sameN l i) := by
  rw [Bool.eq_iff_iff]
  unfold taken
  rw [List.any_eq_true, List.any_eq_true]
  constructor
  · rintro ⟨x, hx, hs⟩
    obtain ⟨v, hv, rfl⟩ := List.mem_map.1 hx
    obtain ⟨j, hj, rfl⟩ := List.mem_iff_getElem.1 hv
    have hj2 : j < i := by simp at hj; omega
    refine ⟨j, by rw [List.mem_range']; exact ⟨j, hj2, by omega⟩, ?_⟩
    rw [sameKey_iff] at hs
    unfold sameN
    have e : (rd_T26 l (j : Int)) = (l.take i)[j] := by unfold rd_T26; simp [List.getD_eq_getElem?_getD, show j < l.length by omega]
    rw [e]
    exact hs
  · rintro ⟨j, hj, hs⟩
    rw [List.mem_range'] at hj
    obtain ⟨j', hj', rfl⟩ := hj
    have hj2 : j' < (l.take i).length := by simp; omega
    refine ⟨nmKey ((l.take i)[j']), List.mem_map.2 ⟨_, List.getElem_mem hj2, rfl⟩, ?_⟩
    rw [sameKey_iff]
    unfold sameN at hs
    have e : (rd_T26 l ((0 + 1 * j' : Nat) : Int)) = (l.take i)[j'] := by unfold rd_T26; simp [List.getD_eq_getElem?_getD, show j' < l.length by omega]
    rw [e] at hs
    exact hs
theorem okTo_all (l : List S26) : ∀ n, okTo l n = (List.range' 0 n).all (okAt l)
  | 0 => rfl
  | n + 1 => by rw [okTo, okTo_all l n, List.range'_concat, List.all_append]; simp
theorem right_l1 (l : List S26) (hl : l.length ≤ 8) (i : Nat) (hi : i < l.length) (r : Bool) (h : Ev (fun k => chancelref10_Right.l0 k l ((i + 1 : Nat) : Int)) r) :
    ∀ m j, j + m = i → Ev (fun k => chancelref10_Right.l1 k l (i : Int) (j : Int)) (!(List.range' j m).any (sameN l i) && r) := by
  intro m
  induction m with
  | zero =>
    intro j hj
    refine Ev.step (f := fun k => chancelref10_Right.l0 k l ((i + 1 : Nat) : Int)) (fun k => ?_) (by simpa using h)
    have e1 : wrap64 ((i : Int) + 1) = ((i + 1 : Nat) : Int) := by rw [wrap64_small (by omega) (by omega)]; rfl
    rw [chancelref10_Right.l1, if_neg (by omega), e1]
  | succ m ih =>
    intro j hj
    have e1 : wrap64 ((j : Int) + 1) = ((j + 1 : Nat) : Int) := by rw [wrap64_small (by omega) (by omega)]; rfl
    rw [List.range'_succ, List.any_cons]
    by_cases hs : sameN l i j = true
    · refine Ev.step (f := fun _ => some false) (fun k => ?_) (by rw [hs]; exact Ev.now _)
      rw [chancelref10_Right.l1, if_pos (by omega), if_pos (by omega), if_pos (by omega), if_pos (by omega), if_pos (by omega), if_pos (beq_iff_eq.1 hs)]
    · refine Ev.step (f := fun k => chancelref10_Right.l1 k l (i : Int) ((j + 1 : Nat) : Int)) (fun k => ?_) (by rw [Bool.eq_false_iff.2 hs, Bool.false_or]; exact ih (j + 1) (by omega))
      rw [chancelref10_Right.l1, if_pos (by omega), if_pos (by omega), if_pos (by omega), if_pos (by omega), if_pos (by omega), if_neg (fun e => hs (beq_iff_eq.2 e)), e1]
theorem right_j2 (l : List S26) (hl : l.length ≤ 8) (i : Nat) (hi : i < l.length) (r : Bool) (h : Ev (fun k => chancelref10_Right.l0 k l ((i + 1 : Nat) : Int)) r) (b : Bool) :
    Ev (fun k => chancelref10_Right.j2 k l (i : Int) b) (!b && (!taken l i (rd_T26 l (i : Int)) && r)) := by
  cases b with
  | true =>
    refine Ev.step (f := fun _ => some false) (fun k => ?_) (Ev.now _)
    rw [chancelref10_Right.j2, if_pos rfl]
  | false =>
    rw [taken_eq l i hi]
    refine Ev.step (f := fun k => chancelref10_Right.l1 k l (i : Int) ((0 : Nat) : Int)) (fun k => ?_) (by simpa using right_l1 l hl i hi r h i 0 (by omega))
    rw [chancelref10_Right.j2, if_neg (by decide)]
    rfl
theorem right_l0 (l : List S26) (hl : l.length ≤ 8) (hm : ∀ i : Nat, i < l.length → Meet (rd_T26 l (i : Int))) :
    ∀ n i : Nat, i + n = l.length → Ev (fun k => chancelref10_Right.l0 k l (i : Int)) ((List.range' i n).all (okAt l)) := by
  intro n
  induction n with
  | zero =>
    intro i hi
    refine Ev.step (f := fun _ => some true) (fun k => ?_) (Ev.now _)
    rw [chancelref10_Right.l0, if_neg (by omega)]
  | succ n ih =>
    intro i hi
    have h2 := right_j2 l hl i (by omega) _ (ih (i + 1) (by omega))
    obtain ⟨m0, m1, m2⟩ := hm i (by omega)
    rw [List.range'_succ, List.all_cons]
    have hat : okAt l i = (okU (rd_T26 l (i : Int)) && !taken l i (rd_T26 l (i : Int))) := rfl
    rw [hat]
    generalize hu : rd_T26 l (i : Int) = u at *
    generalize (!taken l i u) = tk at *
    generalize (List.range' (i + 1) n).all (okAt l) = r at *
    have hsl := seal_says u.f2 m2
    have hok : okU u = (!u.f0.toList.isEmpty && decide (u.f0.size ≤ 20) && decide (u.f1.size ≤ 20) && (u.f2.data.toList.all hexC && ((u.f2.size : Int) == 64))) := by
      unfold okU
      rw [trimmed_nil]
      have e : ((u.f2.size : Int) == 64) = decide (u.f2.size = 64) := by rw [Bool.eq_iff_iff]; simp; omega
      rw [e]
      cases u.f2.data.toList.all hexC <;> simp
    rw [hok]
    by_cases c1 : u.f0.toList = []
    · refine Ev.step (f := fun k => chancelref10_Right.j2 k l (i : Int) true) (fun k => ?_) (by rw [c1]; exact h2 true)
      rw [chancelref10_Right.l0, if_pos (by omega), if_pos (by omega), hu, if_pos c1]
    · have c1' : u.f0.toList.isEmpty = false := by cases h : u.f0.toList <;> simp_all
      rw [c1']
      by_cases c2 : (u.f0.size : Int) > 20
      · refine Ev.step (f := fun k => chancelref10_Right.j2 k l (i : Int) true) (fun k => ?_) (by rw [decide_eq_false (show ¬ u.f0.size ≤ 20 by omega)]; exact h2 true)
        rw [chancelref10_Right.l0, if_pos (by omega), if_pos (by omega), hu, if_neg c1, if_pos c2]
      · rw [decide_eq_true (show u.f0.size ≤ 20 by omega)]
        by_cases c3 : (u.f1.size : Int) > 20
        · refine Ev.step (f := fun k => chancelref10_Right.j2 k l (i : Int) true) (fun k => ?_) (by rw [decide_eq_false (show ¬ u.f1.size ≤ 20 by omega)]; exact h2 true)
          rw [chancelref10_Right.l0, if_pos (by omega), if_pos (by omega), hu, if_neg c1, if_neg c2, if_pos c3]
        · rw [decide_eq_true (show u.f1.size ≤ 20 by omega)]
          refine Ev.step (f := fun k => (chancelref10_seal.f k u.f2).bind fun t => chancelref10_Right.j2 k l (i : Int) (!t)) (fun k => ?_) ?_
          · rw [chancelref10_Right.l0, if_pos (by omega), if_pos (by omega), hu, if_neg c1, if_neg c2, if_neg c3]
          · generalize (u.f2.data.toList.all hexC && ((u.f2.size : Int) == 64)) = sb at *
            refine Ev.bind (f := fun k t => chancelref10_Right.j2 k l (i : Int) (!t)) hsl ?_
            have := h2 (!sb)
            cases sb <;> simpa using this
theorem right_says (l : List S26) (hm : ∀ i : Nat, i < l.length → Meet (rd_T26 l (i : Int))) (hl : l.length ≤ 9223372036854775807) : Ev (fun k => chancelref10_Right.f k l) (rightB l) := by
  unfold rightB
  by_cases c1 : (l.length : Int) < 1
  · rw [decide_eq_false (show ¬ 1 ≤ l.length by omega)]
    refine Ev.congr (f := fun k => chancelref10_Right.j0 k l true) (fun k => by rw [chancelref10_Right.f, if_pos c1]) ?_
    refine Ev.step (f := fun _ => some false) (fun k => by rw [chancelref10_Right.j0, if_pos rfl]) ?_
    rw [Bool.and_false]
    exact Ev.now _
  · by_cases c2 : (l.length : Int) > 8
    · rw [decide_eq_false (show ¬ l.length ≤ 8 by omega), Bool.and_false]
      refine Ev.congr (f := fun k => chancelref10_Right.j0 k l true) (fun k => by rw [chancelref10_Right.f, if_neg c1, decide_eq_true c2]) ?_
      exact Ev.step (f := fun _ => some false) (fun k => by rw [chancelref10_Right.j0, if_pos rfl]) (Ev.now _)
    · rw [decide_eq_true (show 1 ≤ l.length by omega), decide_eq_true (show l.length ≤ 8 by omega), Bool.and_true, Bool.and_true, okTo_all]
      refine Ev.congr (f := fun k => chancelref10_Right.j0 k l false) (fun k => by rw [chancelref10_Right.f, if_neg c1, decide_eq_false c2]) ?_
      refine Ev.step (f := fun k => chancelref10_Right.l0 k l ((0 : Nat) : Int)) (fun k => by rw [chancelref10_Right.j0, if_neg (by decide)]; rfl) ?_
      exact right_l0 l (by omega) hm l.length 0 (by omega)

theorem one_right : salt_Right.f [(⟨(⟨#[97]⟩ : ByteArray), (⟨#[]⟩ : ByteArray), (⟨#[54, 101, 51, 52, 48, 98, 57, 99, 102, 102, 98, 51, 55, 97, 57, 56, 57, 99, 97, 53, 52, 52, 101, 54, 98, 98, 55, 56, 48, 97, 50, 99, 55, 56, 57, 48, 49, 100, 51, 102, 98, 51, 51, 55, 51, 56, 55, 54, 56, 53, 49, 49, 97, 51, 48, 54, 49, 55, 97, 102, 97, 48, 49, 100]⟩ : ByteArray)⟩ : S26)] = some true := by decide +kernel
theorem law_users (l : List S26) (hl : l.length ≤ 9223372036854775807) (hm : ∀ i : Nat, i < l.length → Meet (rd_T26 l (i : Int))) : ∃ k, chancellaw10_SaltUsers.f k l = some true := by
  have hS : salt_Seal.f (⟨#[]⟩ : ByteArray) (⟨#[]⟩ : ByteArray) = some (⟨#[54, 101, 51, 52, 48, 98, 57, 99, 102, 102, 98, 51, 55, 97, 57, 56, 57, 99, 97, 53, 52, 52, 101, 54, 98, 98, 55, 56, 48, 97, 50, 99, 55, 56, 57, 48, 49, 100, 51, 102, 98, 51, 51, 55, 51, 56, 55, 54, 56, 53, 49, 49, 97, 51, 48, 54, 49, 55, 97, 102, 97, 48, 49, 100]⟩ : ByteArray) := by
    unfold salt_Seal.f; rw [if_pos (by decide), one_seal]
  obtain ⟨b, hb, hbt⟩ := small_total l hm hl l.length 0 (by omega)
  have hsm : Ev (fun k => chancellaw10_small.f k l) b := Ev.of (fun k => chancellaw10_small.mono l k) (k := l.length + 1) hb
  refine Ev.rounds ?_
  refine Ev.congr (f := fun k => (chancellaw10_small.f k l).bind fun t129 => (if t129 = true then ((salt_Right.f l).bind fun t130 => ((chancelref10_Right.f k l).bind fun t131 => (some (t130 == t131)))) else (some true))) (fun k => ?_) ?_
  · unfold chancellaw10_SaltUsers.f
    rw [hS, Option.bind_some, one_right, Option.bind_some, if_pos rfl]
  · refine Ev.bind (f := fun k t129 => (if t129 = true then ((salt_Right.f l).bind fun t130 => ((chancelref10_Right.f k l).bind fun t131 => (some (t130 == t131)))) else (some true))) hsm ?_
    cases b with
    | false => exact Ev.congr (f := fun _ => some true) (fun k => by rw [if_neg (by decide)]) (Ev.now _)
    | true =>
      obtain ⟨h100, hall⟩ := hbt rfl
      have hr : salt_Right.f l = some (rightB l) := by
        unfold salt_Right.f
        rw [if_pos ⟨by omega, all_of_rd l smallU (fun j hj => hall j (by omega) hj)⟩]
      refine Ev.congr (f := fun k => (chancelref10_Right.f k l).bind fun t131 => some (rightB l == t131)) (fun k => by rw [if_pos rfl, hr, Option.bind_some]) ?_
      refine Ev.bind (f := fun k t131 => some (rightB l == t131)) (right_says l hm hl) ?_
      rw [beq_self_eq_true]
      exact Ev.now _
end Go.Proofs.YtlpkgngjofabaaaDoor.PSaltUsers

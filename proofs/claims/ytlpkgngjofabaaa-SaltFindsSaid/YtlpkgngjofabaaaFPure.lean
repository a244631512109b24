/- The seekers' law, plain: the program's seeker and the reference's answer alike. -/
import Derived.Test.YtlpkgngjofabaaaFLaw
namespace Go.Proofs.Ytlpkgngjofabaaa.PSaltSeals
open Go.RowKit Go.Proofs.YtlpkgngjofabaaaW.PrintWords Go.Proofs.YtlpkgngjofabaaaW.PrintLast Go.Proofs.YtlpkgngjofabaaaW.PrintMore
set_option linter.unusedVariables false
set_option linter.unusedSimpArgs false

/-- Strings as long as an input's may be. -/
def Meet (u : S28) : Prop := u.f0.size ≤ 140737488351232 ∧ u.f1.size ≤ 140737488351232 ∧ u.f2.size ≤ 140737488351232

theorem wrap64_small {x : Int} (h0 : -9223372036854775808 ≤ x) (h1 : x ≤ 9223372036854775807) : wrap64 x = x := by
  unfold wrap64
  omega

theorem small_total (l : List S28) (hm : ∀ i : Nat, i < l.length → Meet (rd_T28 l (i : Int))) (hl : l.length ≤ 9223372036854775807) :
    ∀ n i : Nat, i + n = l.length → ∃ b, chancellaw10_small.l0 (n + 1) l l (l.length : Int) (i : Int) = some b ∧ (b = true → ∀ j : Nat, i ≤ j → j < l.length → (rd_T28 l (j : Int)).f1.size ≤ 1000) := by
  intro n
  induction n with
  | zero =>
    intro i hi
    refine ⟨decide ((l.length : Int) ≤ 100), ?_, fun _ j h1 h2 => by omega⟩
    unfold chancellaw10_small.l0
    rw [if_neg (by omega)]
  | succ n ih =>
    intro i hi
    obtain ⟨h0, h1, h2⟩ := hm i (by omega)
    have e : (wrap64 ((wrap64 ((((rd_T28 l (i : Int)).f0).size : Int) + (((rd_T28 l (i : Int)).f1).size : Int))) + (((rd_T28 l (i : Int)).f2).size : Int))) = (((rd_T28 l (i : Int)).f0).size : Int) + (((rd_T28 l (i : Int)).f1).size : Int) + (((rd_T28 l (i : Int)).f2).size : Int) := by
      have e0 : wrap64 ((((rd_T28 l (i : Int)).f0).size : Int) + (((rd_T28 l (i : Int)).f1).size : Int)) = (((rd_T28 l (i : Int)).f0).size : Int) + (((rd_T28 l (i : Int)).f1).size : Int) := wrap64_small (by omega) (by omega)
      rw [e0, wrap64_small (by omega) (by omega)]
    have e1 : wrap64 ((i : Int) + 1) = ((i + 1 : Nat) : Int) := by rw [wrap64_small (by omega) (by omega)]; rfl
    unfold chancellaw10_small.l0
    rw [if_pos (by omega), if_pos (by omega), if_pos (by omega), e, e1]
    split
    · exact ⟨false, rfl, fun h => by cases h⟩
    · rename_i hc
      obtain ⟨b, hb, hj⟩ := ih (i + 1) (by omega)
      refine ⟨b, hb, fun hbt j h1' h2' => ?_⟩
      rcases Nat.lt_or_ge i j with h | h
      · exact hj hbt j h h2'
      · obtain rfl : j = i := by omega
        omega

theorem rfind_eq (l : List S28) (a1 a2 : ByteArray) (hl : l.length ≤ 9223372036854775807) (hs : ∀ i : Nat, i < l.length → (rd_T28 l (i : Int)).f1.size + a2.size ≤ 3500) :
    ∀ n i : Nat, i + n = l.length → (∀ j : Nat, j < i → hasName a1 (rd_T28 l j) = false) →
      ∃ r, chancelref10_Find.l0 (n + 1) l a1 a2 (i : Int) = some r ∧ salt_Find.f l a1 a2 = some r := by
  intro n
  induction n with
  | zero =>
    intro i hi hn
    have hf : foundAt l a1 = -1 := by
      unfold foundAt; rw [findIdx_none (fun j hj => hn j (by omega))]
    refine ⟨(0, false), ?_, ?_⟩
    · unfold chancelref10_Find.l0
      rw [if_neg (by omega)]
    · unfold salt_Find.f foundF
      rw [hf, if_pos (by omega)]
  | succ n ih =>
    intro i hi hn
    by_cases hp : hasName a1 (rd_T28 l (i : Int)) = true
    · have hf : foundAt l a1 = i := by unfold foundAt; rw [findIdx_some (by omega) hp hn]
      have hp' : ((rd_T28 l (i : Int)).f0).toList = a1.toList := by simpa [hasName] using hp
      have hle := hs i (by omega)
      unfold chancelref10_Find.l0 salt_Find.f foundF
      rw [hf, if_pos (by omega), if_pos (by omega), if_pos hp', if_neg (show ¬ (i : Int) < 0 by omega)]
      unfold chancelref10_Seal.f salt_Seal.f
      rw [if_pos hle]
      simp only [Option.bind_some]
      generalize hexS (digest ((rd_T28 l (i : Int)).f1 ++ ⟨#[0]⟩ ++ a2)) = t
      by_cases ht : t.toList = (rd_T28 l (i : Int)).f2.toList
      · rw [if_pos ht, if_pos (beq_iff_eq.2 ht)]
        exact ⟨_, rfl, rfl⟩
      · rw [if_neg ht, if_neg (fun h => ht (beq_iff_eq.1 h))]
        exact ⟨_, rfl, rfl⟩
    · have hp' : ¬ ((rd_T28 l (i : Int)).f0).toList = a1.toList := by simpa [hasName] using hp
      have e1 : wrap64 ((i : Int) + 1) = ((i + 1 : Nat) : Int) := by rw [wrap64_small (by omega) (by omega)]; rfl
      obtain ⟨r, h1, h2⟩ := ih (i + 1) (by omega) (fun j hj => by
        by_cases h : j = i
        · subst h; simpa using hp
        · exact hn j (by omega))
      refine ⟨r, ?_, h2⟩
      unfold chancelref10_Find.l0
      rw [if_pos (by omega), if_pos (by omega), if_neg hp', e1]
      exact h1

theorem law_finds (l : List S28) (a1 a2 : ByteArray) (hl : l.length ≤ 9223372036854775807) (hm : ∀ i : Nat, i < l.length → Meet (rd_T28 l (i : Int))) :
    chancellaw10_SaltFinds.f (l.length + 3) l a1 a2 = some true := by
  have hS : salt_Seal.f (⟨#[]⟩ : ByteArray) (⟨#[120]⟩ : ByteArray) = some (hexS (digest ((⟨#[]⟩ : ByteArray) ++ ⟨#[0]⟩ ++ (⟨#[120]⟩ : ByteArray)))) := by
    unfold salt_Seal.f; rw [if_pos (by decide)]
  unfold chancellaw10_SaltFinds.f
  rw [hS]
  simp only [Option.bind_some]
  have hF : ∀ s : ByteArray, s = hexS (digest ((⟨#[]⟩ : ByteArray) ++ ⟨#[0]⟩ ++ (⟨#[120]⟩ : ByteArray))) →
      salt_Find.f [(⟨(⟨#[97]⟩ : ByteArray), (⟨#[]⟩ : ByteArray), (⟨#[]⟩ : ByteArray)⟩ : S28), (⟨(⟨#[98]⟩ : ByteArray), (⟨#[]⟩ : ByteArray), s⟩ : S28)] (⟨#[98]⟩ : ByteArray) (⟨#[120]⟩ : ByteArray) = some (1, true) := by
    intro s hs
    have hf : foundAt [(⟨(⟨#[97]⟩ : ByteArray), (⟨#[]⟩ : ByteArray), (⟨#[]⟩ : ByteArray)⟩ : S28), (⟨(⟨#[98]⟩ : ByteArray), (⟨#[]⟩ : ByteArray), s⟩ : S28)] (⟨#[98]⟩ : ByteArray) = 1 := by
      unfold foundAt
      rw [findIdx_some (i := 1) (by simp) (show hasName (⟨#[98]⟩ : ByteArray) (⟨(⟨#[98]⟩ : ByteArray), (⟨#[]⟩ : ByteArray), s⟩ : S28) = true by simp [hasName]) (fun j hj => by
        obtain rfl : j = 0 := by omega
        show hasName (⟨#[98]⟩ : ByteArray) (⟨(⟨#[97]⟩ : ByteArray), (⟨#[]⟩ : ByteArray), (⟨#[]⟩ : ByteArray)⟩ : S28) = false
        kernel_rfl)]
      rfl
    unfold salt_Find.f foundF
    rw [hf, if_neg (by omega)]
    show (salt_Seal.f (⟨#[]⟩ : ByteArray) (⟨#[120]⟩ : ByteArray)).bind (fun t => if t.toList == s.toList then some ((1 : Int), true) else some (0, false)) = _
    rw [hS, ← hs]
    simp
  rw [hF _ rfl]
  simp only [Option.bind_some]
  rw [if_pos (by trivial)]
  show chancellaw10_SaltFinds.j0 (l.length + 2 + 1) l a1 a2 false = some true
  obtain ⟨b, hb, hbt⟩ := small_total l hm hl l.length 0 (by omega)
  have hb2 : chancellaw10_small.f (l.length + 2) l = some b := chancellaw10_small.mono l (l.length + 1) b hb
  simp only [chancellaw10_SaltFinds.j0]
  rw [if_neg (by decide), hb2]
  simp only [Option.bind_some]
  by_cases hbb : b = true
  · rw [if_pos hbb]
    by_cases hc : (a2.size : Int) > 1000
    · rw [decide_eq_true hc]
      simp only [chancellaw10_SaltFinds.j1]
      rw [if_pos (by trivial)]
    · rw [decide_eq_false hc]
      simp only [chancellaw10_SaltFinds.j1]
      rw [if_neg (by decide)]
      obtain ⟨r, h1, h2⟩ := rfind_eq l a1 a2 hl (fun i hi => by have := hbt hbb i (by omega) hi; omega) l.length 0 (by omega) (fun j hj => by omega)
      have h1' : chancelref10_Find.f (l.length + 1) l a1 a2 = some r := h1
      rw [h2, h1']
      simp
  · rw [if_neg hbb]
    simp only [chancellaw10_SaltFinds.j1]
    rw [if_pos (by trivial)]
end Go.Proofs.Ytlpkgngjofabaaa.PSaltSeals

/- An argument that is a slice of users: its cells, and the reach of its strings. -/
import Derived.Test.YtlpkgngjofabaaaFPure
import Derived.WalkKit
import Derived.ProofKit
import Derived.OpenShut
import Derived.ShutString
import Derived.ChangeOld
import Derived.Below
import Derived.SizedLaws
import Derived.Carry
import Derived.Deep.Slices
import Derived.Deep.Fields
namespace Go.Proofs.Ytlpkgngjofabaaa.PSaltSeals
open Go.RowKit Go.ChangeShapes Go.WideShapes Go.Proofs.YtlpkgngjofabaaaW.PrintWords Go.Proofs.YtlpkgngjofabaaaW.PrintLast Go.Proofs.YtlpkgngjofabaaaW.PrintMore
set_option linter.unusedVariables false
set_option linter.unusedSimpArgs false

theorem gather {p : Nat → S28 → Prop} : ∀ n, (∀ i, i < n → ∃ u, p i u) → ∃ xs : List S28, xs.length = n ∧ ∀ i u, xs[i]? = some u → p i u
  | 0, _ => ⟨[], rfl, fun i u h => by simp at h⟩
  | n + 1, h => by
    obtain ⟨xs, hl, hx⟩ := gather n (fun i hi => h i (by omega))
    obtain ⟨u, hu⟩ := h n (by omega)
    refine ⟨xs ++ [u], by simp [hl], fun i v hv => ?_⟩
    rcases Nat.lt_or_ge i n with hi | hi
    · rw [List.getElem?_append_left (by omega)] at hv
      exact hx i v hv
    · have hlt : i < (xs ++ [u]).length := (List.getElem?_eq_some_iff.1 hv).1
      simp [hl] at hlt
      obtain rfl : i = n := by omega
      rw [List.getElem?_append_right (by omega), hl] at hv
      simp at hv
      exact hv ▸ hu

theorem weightsAll_in {H : Type} {P : Program} {e : TypeId} : ∀ {l : List (DataW H)} {d : DataW H}, d ∈ l → ∀ n ∈ d.weights P e, n ∈ DataW.weightsAll P e l
  | x :: r, d, h, n, hn => by
    simp only [DataW.weightsAll, List.mem_append]
    rcases List.mem_cons.1 h with rfl | h
    · exact .inl hn
    · exact .inr (weightsAll_in h n hn)

section
variable {H : Type} {enc : TypeId × Value → H} {w : World} {base : Nat} {spare : Nat → Bool} {held : Bool}
/-- One user out of its cells. -/
theorem open_user {n : Nat} {cs : List Value} {y : DataW H × List MemPlace} (h : DataW.trod enc Try.prog w base spare held n 28 cs = some y) :
    ∃ u : S28, cs = [.string u.f0, .string u.f1, .string u.f2] ∧ y.1 = .agg [.lit (.string u.f0.data.toList), .lit (.string u.f1.data.toList), .lit (.string u.f2.data.toList)] := by
  obtain ⟨ys, n', _, hy, hlen, hyl, hf⟩ := DataW.trod_struct Try.underlying28 h
  have hc : cs.length = 3 := hlen
  have hyl3 : ys.length = 3 := hyl
  have h0 := hf 0 _ rfl
  have h1 := hf 1 _ rfl
  have h2 := hf 2 _ rfl
  match cs, ys, hc, hyl3, hy, h0, h1, h2 with
  | [c0, c1, c2], [y0, y1, y2], _, _, hy, h0, h1, h2 =>
    obtain ⟨s0, e0, z0, _⟩ := DataW.trod_string Try.underlying9 (show DataW.trod enc Try.prog w base spare held n' 9 [c0] = some y0 from h0)
    obtain ⟨s1, e1, z1, _⟩ := DataW.trod_string Try.underlying9 (show DataW.trod enc Try.prog w base spare held n' 9 [c1] = some y1 from h1)
    obtain ⟨s2, e2, z2, _⟩ := DataW.trod_string Try.underlying9 (show DataW.trod enc Try.prog w base spare held n' 9 [c2] = some y2 from h2)
    simp only [List.cons.injEq, and_true] at e0 e1 e2
    subst e0 e1 e2 z0 z1 z2 hy
    exact ⟨⟨s0, s1, s2⟩, rfl, rfl⟩
/-- An argument that is a slice of users. -/
theorem open_users {n : Nat} {cs : List Value} {x : DataW H × List MemPlace} (h : DataW.trod enc Try.prog w base spare held n 24 cs = some x) :
    ∃ (A : Option Addr) (c : Nat) (xs : List S28), cs = [.slice A xs.length c] ∧ xs.length ≤ c ∧ Kd.C k28 w A xs.length xs ∧ xs.length ≤ 9223372036854775807 ∧
      ((x.1.weights Try.prog 24).all (· ≤ reachBytes) = true → ∀ i : Nat, i < xs.length → Meet (rd_T28 xs (i : Int))) := by
  rcases DataW.trod_slice Try.underlying24 h with ⟨rfl, rfl⟩ | ⟨a, len, cap, elems, rest, n', _, rfl, rfl, hb, hl, hm, hlen, hel, _, _⟩
  · exact ⟨none, 0, [], rfl, Nat.le_refl _, ⟨rfl, by decide, fun h => by simp at h⟩, by decide, fun _ i hi => by simp at hi⟩
  · have hm' : cap ≤ 9223372036854775807 := hm
    have hu : ∀ i, i < len → ∃ u : S28, (∀ j v, [Value.string u.f0, .string u.f1, .string u.f2][j]? = some v → w.cell? (a.add (i * 3 + j)) = some v) ∧ ∃ y, elems[i]? = some y ∧ y.1 = .agg [.lit (.string u.f0.data.toList), .lit (.string u.f1.data.toList), .lit (.string u.f2.data.toList)] := by
      intro i hi
      have he : elems[i]? = some (elems[i]'(by omega)) := List.getElem?_eq_getElem (by omega)
      have h1 := hel i hi
      rw [he] at h1
      obtain ⟨cs', hc, ht⟩ := Option.bind_eq_some_iff.1 h1
      obtain ⟨u, rfl, hy⟩ := open_user ht
      obtain ⟨_, hcl, hat⟩ := World.cells?_some hc
      refine ⟨u, fun j v hv => ?_, _, he, hy⟩
      have hj : j < 3 := (List.getElem?_eq_some_iff.1 hv).1
      have := hat j hj
      rw [Go.Deep.add_add] at this
      exact this.trans hv
    obtain ⟨xs, hxl, hx⟩ := gather len hu
    subst hxl
    refine ⟨some a, cap, xs, rfl, hl, ⟨rfl, by omega, fun _ => ⟨a, rfl, fun j p hj => ?_⟩⟩, by omega, fun hw i hi => ?_⟩
    · exact ⟨_, rfl, k28_mk w p, (hx j p hj).1⟩
    · have hxi : xs[i]? = some (rd_T28 xs (i : Int)) := by
        unfold rd_T28; simp [List.getD_eq_getElem?_getD, hi]
      obtain ⟨_, y, hy, hd⟩ := hx i _ hxi
      have hmem : y.1 ∈ elems.map (·.1) := List.mem_map.2 ⟨y, List.mem_of_getElem? hy, rfl⟩
      have hall : ∀ k ∈ y.1.weights Try.prog 28, k ≤ 140737488351232 := by
        intro k hk
        have := List.all_eq_true.1 hw k (by
          simp only [DataW.weights, Try.underlying24, List.mem_cons, List.mem_append]
          exact .inr (.inl (weightsAll_in hmem k hk)))
        exact of_decide_eq_true this
      rw [hd] at hall
      simp only [DataW.weights, Try.underlying28, DataW.weightsEach, List.map, List.cons_append, List.nil_append, List.mem_cons, List.not_mem_nil, or_false, Array.length_toList] at hall
      exact ⟨hall _ (.inl rfl), hall _ (.inr (.inl rfl)), hall _ (.inr (.inr rfl))⟩
end
end Go.Proofs.Ytlpkgngjofabaaa.PSaltSeals

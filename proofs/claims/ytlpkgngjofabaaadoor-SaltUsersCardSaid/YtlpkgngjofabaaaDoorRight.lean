/- Walk of the program's Right: which users are right: each has a name that no one ahead has, of 1 to 20 bytes, a salt of up to 20, a seal of 64 hexadecimal signs; there are 1 to 8 of them. -/
import Derived.Test.YtlpkgngjofabaaaDoorOne
import Derived.Maps.OwnSet
import Derived.WalkSpells
namespace Go.Proofs.YtlpkgngjofabaaaDoor.PSaltUsers
open Go.RowKit Go.Proofs.YtlpkgngjofabaaaDoorW.PrintWords Go.Proofs.YtlpkgngjofabaaaDoorW.PrintLast Go.Proofs.YtlpkgngjofabaaaDoorW.PrintMore
set_option linter.unusedVariables false
set_option linter.unusedSimpArgs false

def digs : ByteArray := ⟨#[48, 49, 50, 51, 52, 53, 54, 55, 56, 57, 97, 98, 99, 100, 101, 102]⟩
def trimmed (s : ByteArray) : ByteArray := ⟨(Lib.trimS s.data.toList digs.data.toList).toArray⟩
theorem trim_calls (s : ByteArray) (hs : s.size ≤ 1000) (w : World) :
    Calls Tryd.prog 8 #[.string s, .string ⟨#[48, 49, 50, 51, 52, 53, 54, 55, 56, 57, 97, 98, 99, 100, 101, 102]⟩] w fun e w' => e = .returned (.string (trimmed s)) ∧ Below w.heap.size w w' :=
  Tryd.strings_Trim s digs w (by omega) (by decide) (ascii_of_all (by decide))
def nmKey (u : S26) : Lit := .string u.f0.data.toList
def nameSet (l : List S26) (k : Nat) : DataW Unit := Maps.setOf (.lit (.bool true)) ((l.take k).map nmKey)
def taken (l : List S26) (k : Nat) (u : S26) : Bool := ((l.take k).map nmKey).any fun x => x.sameKey (nmKey u)
theorem key_lit (u : S26) : WideAt.IsKeyLit (nmKey u) := by unfold nmKey; first | exact trivial | simp [WideAt.IsKeyLit]
theorem look_fold (k : Lit) : ∀ (acc : List Lit) (m : DataW Unit), Maps.IsMap m → (∀ x ∈ acc, WideAt.IsKeyLit x) →
    (acc.foldl (fun m x => m.put x (.lit (.bool true))) m).atKey k (.lit (.bool false)) = if acc.any (fun x => x.sameKey k) then .lit (.bool true) else m.atKey k (.lit (.bool false))
  | [], m, _, _ => rfl
  | x :: r, m, hm, hk => by
    rw [List.foldl_cons, look_fold k r _ (hm.put x _) (fun y hy => hk y (List.mem_cons_of_mem _ hy)), List.any_cons]
    by_cases hx : x.sameKey k = true
    · have e := WideAt.sameKey_eq hx
      subst e
      rw [hx, Maps.atKey_put_same hm (hk x List.mem_cons_self)]
      simp
    · have hne : k ≠ x := by
        intro e
        subst e
        exact hx (WideAt.sameKey_self (hk k List.mem_cons_self))
      rw [Bool.eq_false_iff.2 hx, Maps.atKey_put_other hne, Bool.false_or]
theorem look_set (l : List S26) (k : Nat) (u : S26) : (nameSet l k).atKey (nmKey u) (.lit (.bool false)) = .lit (.bool (taken l k u)) := by
  unfold nameSet Maps.setOf taken
  rw [look_fold _ _ _ Maps.isMap_empty (fun x hx => by obtain ⟨v, _, rfl⟩ := List.mem_map.1 hx; exact key_lit v)]
  cases (List.map nmKey (List.take k l)).any fun x => x.sameKey (nmKey u)
  · rfl
  · rfl
theorem nameSet_succ (l : List S26) (k : Nat) (hk : k < l.length) : nameSet l (k + 1) = (nameSet l k).put (nmKey (rd_T26 l (k : Int))) (.lit (.bool true)) := by
  unfold nameSet
  rw [List.take_succ_eq_append_getElem hk, List.map_append, List.map_cons, List.map_nil, Maps.setOf_snoc]
  congr 2
  unfold rd_T26
  simp [List.getD_eq_getElem?_getD, hk]
def okU (u : S26) : Bool := !u.f0.toList.isEmpty && decide (u.f0.size ≤ 20) && decide (u.f1.size ≤ 20) && decide (u.f2.size = 64) && (trimmed u.f2).toList.isEmpty
def okAt (l : List S26) (k : Nat) : Bool := okU (rd_T26 l (k : Int)) && !taken l k (rd_T26 l (k : Int))
def okTo (l : List S26) : Nat → Bool
  | 0 => true
  | k + 1 => okTo l k && okAt l k
theorem okTo_false {l : List S26} {k n : Nat} (h : okAt l k = false) (hk : k < n) : okTo l n = false := by
  induction n with
  | zero => omega
  | succ n ih =>
    rw [okTo]
    rcases Nat.lt_or_ge k n with h' | h'
    · rw [ih h']; rfl
    · obtain rfl : k = n := by omega
      rw [h]; simp
def smallU (u : S26) : Bool := decide (u.f0.size + u.f1.size + u.f2.size ≤ 1000)
def rightB (l : List S26) : Bool := okTo l l.length && decide (1 ≤ l.length) && decide (l.length ≤ 8)
theorem right_false {l : List S26} {k : Nat} (h : okAt l k = false) (hk : k < l.length) : rightB l = false := by
  unfold rightB; rw [okTo_false h hk]; rfl
theorem zero4 (w : World) : (zeroValue 4).run Tryd.prog w = .ok (.bool false) w := by kernel_rfl
theorem plainElem_bool_inv {v : Value} {z : DataW Unit × List MemPlace} (h : plainElem Tryd.prog 4 v = some z) : ∃ a, v = .bool a ∧ z = (.lit (.bool a), []) := by
  unfold plainElem at h
  rw [Tryd.underlying4] at h
  cases v <;> simp at h
  exact ⟨_, rfl, h.symm⟩
/-- The look-up of a name among those ahead. -/
theorem look_name {w : World} {b k : Nat} {l : List S26} (h : w.ownsMap Tryd.prog 9 (plainElem Tryd.prog 4) b k (nameSet l k)) (u : S26) (hu : u.f0.size ≤ 1000) :
    (Instr.lookup 27 (.map (some b)) (.string u.f0) false).run Tryd.prog w = .ok (.bool (taken l k u)) w := by
  obtain ⟨v, ps, hrun, hv⟩ := h.lookup (Maps.string_keyed Tryd.underlying9) Tryd.underlying27 (zero4 w) (plainElem_bool Tryd.underlying4 false) (key := .string u.f0) (kl := nmKey u) (Go.WideMaps.keyOf_string_mk Tryd.underlying9 (by unfold maxLen; omega))
  obtain ⟨a, rfl, hz⟩ := plainElem_bool_inv hv
  rw [look_set] at hz
  simp only [Prod.mk.injEq, DataW.lit.injEq, Lit.bool.injEq] at hz
  rw [hrun, hz.1]
theorem owns_below {w w' : World} {B b n : Nat} {D : DataW Unit} {R : Value → Option (DataW Unit × List MemPlace)} (h : w.ownsMap Tryd.prog 9 R b n D) (hb : Below B w w') (hlt : b < B) : w'.ownsMap Tryd.prog 9 R b n D := by
  obtain ⟨es, clock, h1, r⟩ := h
  exact ⟨es, clock, (hb.block b hlt).trans h1, r⟩
set_option maxHeartbeats 2000000 in
set_option maxRecDepth 100000 in
theorem right_calls (A0 : Option Addr) (c0 : Nat) (l0 : List S26) (w : World) (hr0 : Kd.C k26 w A0 l0.length l0) (hc0 : l0.length ≤ c0) (hlen : l0.length ≤ 1000) (hsm : ∀ i : Nat, i < l0.length → (rd_T26 l0 (i : Int)).f0.size + (rd_T26 l0 (i : Int)).f1.size + (rd_T26 l0 (i : Int)).f2.size ≤ 1000) :
    Calls Tryd.prog 4 #[.slice A0 l0.length c0] w fun e w' => e = .returned (.bool (rightB l0)) ∧ Below w.heap.size w w' := by
  have HR := Lib.hid hr0
  have HS := Lib.hid hsm
  clear hr0 hsm
  have hmm := @run_makeMap Tryd.prog
  go_enter Tryd.func4, Tryd.ntmps4
  go_wp2
  clear hmm
  go_loopw [9] (fun v9 wr => ∃ k : Nat, k ≤ l0.length ∧ v9 = .int .i64 k ∧ Hid (wr.ownsMap Tryd.prog 9 (plainElem Tryd.prog 4) w.heap.size k (nameSet l0 k)) ∧ Hid (okTo l0 k = true) ∧ Hid (Below w.heap.size w wr)) (fun v9 _ => l0.length - (intOf v9).toNat)
  case atStart => exact ⟨0, by omega, rfl, World.ownsMap_made _ _ _ _, Lib.hid rfl, below_alloc (Below.refl _ _) _⟩
  case round =>
    obtain ⟨k, hk, rfl, hown, hok, hbl⟩ := hrel
    by_cases hlt : k < l0.length
    · obtain ⟨ad, rfl, x0, x1, x2⟩ := at_T26 (Kd.C_below HR.out hbl.out) (k : Int) (by omega) (by omega)
      have hs := HS.out k hlt
      have hsu := nameSet_succ l0 k hlt
      obtain ⟨u, hu⟩ : ∃ u, u = rd_T26 l0 (k : Int) := ⟨_, rfl⟩
      rw [← hu] at x0 x1 x2 hs hsu
      rw [Int.toNat_natCast] at x0 x1 x2
      have s0 : u.f0.size ≤ 1000 := by omega
      have s1 : u.f1.size ≤ 1000 := by omega
      have s2 : u.f2.size ≤ 1000 := by omega
      have hlook := look_name (hown.out.alloc (.cells #[.string u.f0, .string u.f1, .string u.f2] 26)) u s0
      have hat : okAt l0 k = (okU u && !taken l0 k u) := by rw [hu]; rfl
      have HA := Lib.hid hat
      have HSU := Lib.hid hsu
      have HLT := hlt
      have d0 : decide ((k : Int) < (l0.length : Int)) = true := decide_eq_true (by omega)
      have q0 : (0 : Int) ≤ (k : Int) := by omega
      have q1 : (k : Int) < (l0.length : Int) := by omega
      clear hs hsu hu hat
      by_cases c1 : u.f0.toList = []
      · have c1' : (!u.f0.toList.isEmpty) = false := by rw [c1]; rfl
        have hf : rightB l0 = false := right_false (k := k) (by rw [HA.out]; unfold okU; rw [c1']; rfl) hlt
        have HF := Lib.hid hf
        clear hf hlook
        go_wp2
        go_ret
        exact ⟨by rw [HF.out]; rfl, below_alloc hbl.out _⟩
      · have c1' : (!u.f0.toList.isEmpty) = true := by cases h : u.f0.toList <;> simp_all
        have c1b : u.f0.toList.isEmpty = false := by simpa using c1'
        by_cases c2 : u.f0.size ≤ 20
        · have c2' : decide ((20 : Int) < (u.f0.size : Int)) = false := decide_eq_false (by omega)
          by_cases c3 : taken l0 k u = true
          · have hf : rightB l0 = false := right_false (k := k) (by rw [HA.out, c3]; simp) hlt
            have HF := Lib.hid hf
            rw [c3] at hlook
            clear hf c3
            go_wp2
            go_ret
            exact ⟨by rw [HF.out]; rfl, below_alloc hbl.out _⟩
          · rw [Bool.eq_false_iff.2 c3] at hlook
            by_cases c4 : u.f1.size ≤ 20
            · have c4' : decide ((20 : Int) < (u.f1.size : Int)) = false := decide_eq_false (by omega)
              by_cases c5 : u.f2.size = 64
              · have c5' : ((u.f2.size : Int) != 64) = false := by rw [bne_eq_false_iff_eq]; omega
                obtain ⟨tr, htr⟩ : ∃ tr, tr = trimmed u.f2 := ⟨_, rfl⟩
                have ht := fun W => trim_calls u.f2 s2 W
                rw [← htr] at ht
                have HT := Lib.hid ht
                clear ht
                by_cases c6 : tr.toList = []
                · have c6' : (!tr.toList.isEmpty) = false := by rw [c6]; rfl
                  have hok2 : okTo l0 (k + 1) = true := by
                    rw [okTo, hok.out, HA.out, Bool.eq_false_iff.2 c3]
                    unfold okU
                    rw [c1b, ← htr, c6]
                    simp [c2, c4, c5]
                  have HO2 := Lib.hid hok2
                  clear hok2 htr c3 c5
                  have hb2 := below_alloc hbl.out (.cells #[.string u.f0, .string u.f1, .string u.f2] 26)
                  have HB2 := Lib.hid hb2
                  have hown2 := hown.out.alloc (.cells #[.string u.f0, .string u.f1, .string u.f2] 26)
                  have HW2 := Lib.hid hown2
                  clear hb2 hown2
                  go_wp2_with fail
                  refine (HT.out _).mono ?_
                  rintro e w1 ⟨rfl, hb1⟩
                  have hc1 : w1.cell? ⟨wr.heap.size, 0, none⟩ = some (.string u.f0) := (hb1.cell (p := ⟨wr.heap.size, 0, none⟩) (by simp)).trans ((blk_cell (blk_new wr _) 0).trans rfl)
                  have hown3 := owns_below HW2.out hb1 (by have := hown.out.lt; simp; omega)
                  have HB3 := Lib.hid (HB2.out.trans (hb1.mono (by have := hbl.out.size; simp; omega)))
                  have HW3 := Lib.hid hown3
                  have hkm : k < maxLen := by unfold maxLen; omega
                  clear hown3 hb1 hlook x0 x1 x2
                  go_wp2_with (at_mapUpdate; refine wpList_mapUpdate_own _ rfl _ _ _ 27 rfl 9 4 (Maps.string_keyed Tryd.underlying9) Tryd.underlying27 _ w.heap.size k _ rfl HW3.out hkm _ _ (nmKey u) rfl rfl (Go.WideMaps.keyOf_string_mk Tryd.underlying9 (by unfold maxLen; omega)) _ [] (plainElem_bool Tryd.underlying4 true) ?_; intro w2 hown4 hgr)
                  have hown5 : Hid (w2.ownsMap Tryd.prog 9 (plainElem Tryd.prog 4) w.heap.size (k + 1) (nameSet l0 (k + 1))) := by rw [HSU.out]; exact hown4
                  have hb5 : Hid (Below w.heap.size w w2) := HB3.out.grown hgr HB3.out.size (fun b hb => by cases hb; exact Nat.le_refl _)
                  clear hown4 hgr hc1 HW3 HB3
                  go_wp2
                  go_roundw
                  case rel => exact ⟨k + 1, by omega, by go_num, hown5, HO2, hb5⟩
                  case measure => simp [intOf]; omega
                · have hf : rightB l0 = false := right_false (k := k) (by rw [HA.out]; unfold okU; rw [← htr]; simp [c6]) hlt
                  have HF := Lib.hid hf
                  have c6' : (!tr.toList.isEmpty) = true := by cases h : tr.toList <;> simp_all
                  clear hf htr c3 c5
                  go_wp2_with (go_at_call 8; refine (HT.out _).mono ?_; rintro e w1 ⟨rfl, hb1⟩)
                  go_ret
                  exact ⟨by rw [HF.out]; rfl, (below_alloc hbl.out _).trans (hb1.mono (by have := hbl.out.size; simp; omega))⟩
              · have c5' : ((u.f2.size : Int) != 64) = true := by rw [bne_iff_ne]; omega
                have hf : rightB l0 = false := right_false (k := k) (by rw [HA.out]; unfold okU; simp [c5]) hlt
                have HF := Lib.hid hf
                clear hf c3 c5
                go_wp2
                go_ret
                exact ⟨by rw [HF.out]; rfl, below_alloc hbl.out _⟩
            · have c4' : decide ((20 : Int) < (u.f1.size : Int)) = true := decide_eq_true (by omega)
              have hf : rightB l0 = false := right_false (k := k) (by rw [HA.out]; unfold okU; simp [c4]) hlt
              have HF := Lib.hid hf
              clear hf c3
              go_wp2
              go_ret
              exact ⟨by rw [HF.out]; rfl, below_alloc hbl.out _⟩
        · have c2' : decide ((20 : Int) < (u.f0.size : Int)) = true := decide_eq_true (by omega)
          have hf : rightB l0 = false := right_false (k := k) (by rw [HA.out]; unfold okU; simp [c2]) hlt
          have HF := Lib.hid hf
          clear hf hlook
          go_wp2
          go_ret
          exact ⟨by rw [HF.out]; rfl, below_alloc hbl.out _⟩
    · obtain rfl : k = l0.length := by omega
      have d0 : decide ((l0.length : Int) < (l0.length : Int)) = false := decide_eq_false (by omega)
      have hr : rightB l0 = (decide (1 ≤ l0.length) && decide (l0.length ≤ 8)) := by unfold rightB; rw [hok.out]; rfl
      have HF := Lib.hid hr
      clear hr
      by_cases e1 : 1 ≤ l0.length
      · have e1' : decide ((1 : Int) ≤ (l0.length : Int)) = true := decide_eq_true (by omega)
        go_wp2
        go_ret
        refine ⟨?_, hbl.out⟩
        rw [HF.out]
        simp [e1]
        omega
      · have e1' : decide ((1 : Int) ≤ (l0.length : Int)) = false := decide_eq_false (by omega)
        go_wp2
        go_ret
        refine ⟨?_, hbl.out⟩
        rw [HF.out]
        simp [e1]
end Go.Proofs.YtlpkgngjofabaaaDoor.PSaltUsers

/- The words of the reference's walks: a row whose first cells are known; a row of bytes that may begin as a text's bytes; the reference's turn. -/
import Derived.Test.YtlpkgngjofabaaaSeal
namespace Go.Proofs.Ytlpkgngjofabaaa.PSaltSeals
open Go.RowKit Go.Proofs.YtlpkgngjofabaaaW.PrintWords Go.Proofs.YtlpkgngjofabaaaW.PrintLast Go.Proofs.YtlpkgngjofabaaaW.PrintMore
set_option linter.unusedVariables false
set_option linter.unusedSimpArgs false

/-- Block g is a row (type T) whose first cells are the words ws. -/
def PRow (W : World) (g T : Nat) (ws : List Int) : Prop := ∃ cur : Array Value, W.heap[g]? = some (.cells cur T (0, 0)) ∧ ∀ (j : Nat) (u : Value), (nums .u32 ws)[j]? = some u → cur[j]? = some u
theorem PRow.lt {W : World} {g T : Nat} {ws : List Int} (h : PRow W g T ws) : g < W.heap.size := by
  obtain ⟨cur, hc, _⟩ := h
  exact blk_lt hc
theorem PRow.cell {W : World} {g T : Nat} {ws : List Int} (h : PRow W g T ws) (i : Int) (h0 : 0 ≤ i) (h1 : i < ws.length) : W.cell? ⟨g, i.toNat, none⟩ = some (.int .u32 (rd ws i)) := by
  obtain ⟨cur, hc, hp⟩ := h
  rw [blk_cell hc]
  refine hp _ _ ?_
  unfold nums rd
  rw [List.getElem?_map, List.getElem?_eq_getElem (by omega)]
  simp [List.getD_eq_getElem?_getD, show i.toNat < ws.length by omega]
theorem PRow.frozen {W : World} {g T : Nat} {ws : List Int} (h : PRow W g T ws) (i : Nat) : W.frozen? ⟨g, i, none⟩ = false := by
  obtain ⟨cur, hc, hp⟩ := h
  exact blk_frozen hc i
theorem PRow.set {W : World} {g T : Nat} {ws : List Int} (h : PRow W g T ws) (i : Nat) (x : Int) : PRow (W.setCell ⟨g, i, none⟩ (.int .u32 x)) g T (ws.set i x) := by
  obtain ⟨cur, hc, hp⟩ := h
  refine ⟨_, blk_set hc i _, fun j u hj => ?_⟩
  have hj' : ((nums .u32 ws).set i (.int .u32 x))[j]? = some u := by rw [nums, ← List.map_set]; exact hj
  rw [List.getElem?_set] at hj'
  rw [Array.getElem?_setIfInBounds]
  by_cases hij : i = j
  · subst hij
    rw [if_pos rfl] at hj' ⊢
    by_cases hlt : i < (nums .u32 ws).length
    · rw [if_pos hlt] at hj'
      have := hp i _ (List.getElem?_eq_getElem hlt)
      rw [if_pos (Array.getElem?_eq_some_iff.1 this).1]; exact hj'
    · rw [if_neg hlt] at hj'; cases hj'
  · rw [if_neg hij] at hj' ⊢
    exact hp j u hj'
theorem PRow.below {W W' : World} {B g T : Nat} {ws : List Int} (h : PRow W g T ws) (hb : Below B W W') (hg : g < B) : PRow W' g T ws := by
  obtain ⟨cur, hc, hp⟩ := h
  exact ⟨cur, (hb.block g hg).trans hc, hp⟩
theorem PRow.far {W : World} {g T : Nat} {ws : List Int} (h : PRow W g T ws) {v i : Nat} {u : Value} (hne : g ≠ v) : PRow (W.setCell ⟨v, i, none⟩ u) g T ws := by
  obtain ⟨cur, hc, hp⟩ := h
  exact ⟨cur, blk_far hc hne u, hp⟩
theorem PRow.of_R {W : World} {base T : Nat} {ok : Nat → Prop} {v : Value} {ws : List Int} (h : Kd.R (Kd.int .u32) T W base ok v ws) (hn : 0 < ws.length) :
    ∃ g cap, v = .slice (some ⟨g, 0, none⟩) ws.length cap ∧ base ≤ g ∧ PRow W g T ws := by
  obtain ⟨g, cap, rfl, hb, hlt, cells, hc⟩ := Kd.R_form h hn
  refine ⟨g, cap, rfl, hb, cells, hc, fun j u hj => ?_⟩
  have hjl : j < ws.length := by have := (List.getElem?_eq_some_iff.1 hj).1; simpa [nums] using this
  obtain ⟨ad, e, hx⟩ := Kd.at_int (Kd.R_reads' h).2.2 (j : Int) (by omega) (by omega)
  cases e
  rw [add_plain, blk_cell hc, Int.toNat_natCast] at hx
  rw [hx]
  have : (nums .u32 ws)[j]? = some (.int .u32 (rd ws j)) := by
    unfold nums rd
    rw [List.getElem?_map, List.getElem?_eq_getElem hjl]
    simp [List.getD_eq_getElem?_getD, hjl]
  rw [this] at hj
  exact hj
theorem PRow.of_own {W : World} {base T n g cap : Nat} {ws : List Int} (h : W.ownsRow base T 1 (.slice (some ⟨g, 0, none⟩) n cap) n (nums .u32 ws)) : PRow W g T ws := by
  rcases h.2 with ⟨h1, _⟩ | ⟨g', cap', cur, h1, _, hc, _, _, _, hp⟩
  · cases h1
  · cases h1
    refine ⟨cur, hc, fun j u hj => ?_⟩
    rw [← hp, List.getElem?_take] at hj
    split at hj
    · rw [← Array.getElem?_toList]; exact hj
    · cases hj

/-- A row of bytes of the call's own, as a text's bytes or an append has laid it. -/
def BRow (W : World) (base : Nat) (v : Value) (xs : List Int) : Prop := ∃ (g cap : Nat) (cur : Array Value) (fr : Nat × Nat), v = .slice (some ⟨g, 0, none⟩) xs.length cap ∧ base ≤ g ∧ W.heap[g]? = some (.cells cur 5 fr) ∧ xs.length ≤ cap ∧ cap ≤ cur.size ∧
  (fr = (0, 0) ∨ cur.size ≤ fr.1) ∧ ∀ (j : Nat) (u : Value), (nums .u8 xs)[j]? = some u → cur[j]? = some u
theorem BRow.below {W W' : World} {base : Nat} {v : Value} {xs : List Int} (h : BRow W base v xs) (hb : Below W.heap.size W W') : BRow W' base v xs := by
  obtain ⟨g, cap, cur, fr, h1, h2, h3, h4⟩ := h
  exact ⟨g, cap, cur, fr, h1, h2, (hb.block g (Array.getElem?_eq_some_iff.1 h3).1).trans h3, h4⟩
theorem BRow.of_conv (w : World) (base : Nat) (hb : base ≤ w.heap.size) (s : ByteArray) : BRow (Lib.bytesWorld w 5 s) base (.slice (some ⟨w.heap.size, 0, none⟩) s.size (grownCap w s.size 0 5)) (bytesOf s) := by
  have hge := grownCap_ge w s.size 0 5
  refine ⟨w.heap.size, grownCap w s.size 0 5, _, _, by rw [bytesOf_length], hb, Lib.bytesWorld_at_new w 5 s, by rw [bytesOf_length]; exact hge, ?_, .inr (Nat.le_refl _), ?_⟩
  · unfold Lib.bytesCells
    rw [Array.size_append, Array.size_map, Array.size_replicate]
    show _ ≤ s.size + _
    omega
  · intro j u hj
    unfold Lib.bytesCells
    have hl : j < s.data.size := by
      have := (List.getElem?_eq_some_iff.1 hj).1
      rw [nums_length, bytesOf_length] at this; exact this
    rw [Array.getElem?_append_left (by simpa using hl), Array.getElem?_map, Array.getElem?_eq_getElem hl]
    simp only [nums, bytesOf, List.map_map, List.getElem?_map] at hj
    rw [List.getElem?_eq_getElem (by simpa using hl)] at hj
    simpa using hj
theorem BRow.of_own {W : World} {base n : Nat} {v : Value} {xs : List Int} (h : W.ownsRow base 5 1 v n (nums .u8 xs)) (hn : 0 < n) : BRow W base v xs := by
  have hl : xs.length = n := by have := h.1; rw [nums_length] at this; omega
  rcases h.2 with ⟨_, h1⟩ | ⟨g', cap', cur, h1, hb, hc, h2, h3, h4, hp⟩
  · omega
  · refine ⟨g', cap', cur, (0, 0), by rw [h1, hl], hb, hc, by omega, by omega, .inl rfl, fun j u hj => ?_⟩
    rw [← hp, List.getElem?_take] at hj
    split at hj
    · rw [← Array.getElem?_toList]; exact hj
    · cases hj
theorem BRow.cell {W : World} {base : Nat} {g n cap : Nat} {xs : List Int} (h : BRow W base (.slice (some ⟨g, 0, none⟩) n cap) xs) (i : Int) (h0 : 0 ≤ i) (h1 : i < xs.length) : W.cell? ⟨g, i.toNat, none⟩ = some (.int .u8 (rd xs i)) := by
  obtain ⟨g', cap', cur, fr, he, _, hc, _, _, _, hp⟩ := h
  cases he
  rw [cell_of_row W g i.toNat cur 5 fr hc]
  refine hp _ _ ?_
  unfold nums rd
  rw [List.getElem?_map, List.getElem?_eq_getElem (by omega)]
  simp [List.getD_eq_getElem?_getD, show i.toNat < xs.length by omega]

theorem wpList_append_brow {w0 W : World} {ops : Array Oper} {rest : List Oper} {o : Oper} {a : Act} {Q : Exit → Act → World → Prop} (hg : o.guard = none) (s x : Operand)
    (hop : o.op = Op.call { callee := Callee.builtin Builtin.append, args := #[s, x], argTypes := #[31, 31] }) (base : Nat) (v : Value) (xs : List Int) (y : Int) (hs : a.eval s = v) (hx : a.eval x = .slice (some ⟨W.heap.size, 0, none⟩) 1 1)
    (hB : BRow W base v xs) (hb : Below base w0 W) (hbase : base ≤ W.heap.size) (hl : xs.length ≤ 100000)
    (h : ∀ v' w', BRow w' base v' (xs ++ [y]) → Below base w0 w' → base ≤ w'.heap.size → wpList Try.prog ops Q rest (a.put o.dst v') w') : wpList Try.prog ops Q (o :: rest) a (W.alloc (.cells #[.int .u8 y] 5)) := by
  obtain ⟨i0, hi0, hz0, hz1, hz2⟩ := info_parts info5
  obtain ⟨g, cap, cur, fr, rfl, hbg, hc, hnc, hcs, hfr, hp⟩ := hB
  have hlt : g < W.heap.size := (Array.getElem?_eq_some_iff.1 hc).1
  have hc1 : (W.alloc (.cells #[.int .u8 y] 5)).heap[g]? = some (.cells cur 5 fr) := (Below.heap_alloc W _ g hlt).trans hc
  have hb1 : Below base w0 (W.alloc (.cells #[.int .u8 y] 5)) := hb.alloc hbase _
  refine wpList_append_arg _ hg s x 31 hop 5 i0 (.int .u8 0) 1 1 Try.underlying31 hi0 hz0 hz1 hz2 rfl (by decide) g 0 xs.length cap (nums .u8 xs) hs (by rw [nums_length]; omega) ?_ ⟨W.heap.size, 0, none⟩ 1 1 [.int .u8 y] hx rfl ?_ ?_ ?_ (by unfold maxLen; omega) (by omega) ?_ ?_
  · intro j u hj
    rw [Nat.zero_add, cell_of_row _ g j cur 5 fr hc1]
    exact hp j u hj
  · intro j u hj
    rw [add_plain]
    exact (blk_cell (blk_new W _) j).trans (by simpa using hj)
  · intro u hu
    simp at hu; subst hu; rfl
  · intro hr j hj
    have hj0 : j = 0 := by simp at hj; omega
    subst hj0
    refine ⟨?_, ?_⟩
    · rw [cell_of_row _ g _ cur 5 fr hc1]
      rw [Array.getElem?_eq_getElem (by omega)]; rfl
    · unfold World.frozen?
      rw [hc1]
      rcases hfr with rfl | hfr
      · simp
      · show (decide _ && decide _) = false
        rw [decide_eq_false (by simp; omega)]; rfl
  · intro hr
    show wpList Try.prog ops Q rest _ ((W.alloc (.cells #[.int .u8 y] 5)).setCell ⟨g, 0 + xs.length * 1, none⟩ (.int .u8 y))
    have e0 : 0 + xs.length * 1 = xs.length := by omega
    rw [e0]
    refine h _ _ ⟨g, cap, cur.setIfInBounds xs.length (.int .u8 y), fr, by simp, hbg, ?_, by simp; omega, by simpa using hcs, ?_, ?_⟩ (hb1.setCell hbg _) (by simp; omega)
    · rw [World.setCell]
      simp [Array.getElem?_modify, hc1]
    · simpa using hfr
    · intro j u hj
      rw [nums_append, List.getElem?_append] at hj
      rw [Array.getElem?_setIfInBounds]
      split at hj
      · rename_i hjl
        rw [nums_length] at hjl
        rw [if_neg (by omega)]
        exact hp j u hj
      · rename_i hjl
        rw [nums_length] at hjl hj
        have hj0 : j - xs.length = 0 := by
          have := (List.getElem?_eq_some_iff.1 hj).1
          simp [nums] at this; omega
        rw [hj0] at hj
        have hjx : xs.length = j := by omega
        rw [if_pos hjx, if_pos (by omega)]
        simpa [nums] using hj
  · intro hr v' w' hown hgr
    refine h v' w' ?_ (hb1.grown hgr (by simp; omega) (fun k hk => by cases hk)) (Nat.le_trans (by simp; omega) hgr.size)
    have hown' : w'.ownsRow base 5 1 v' (xs.length + 1) (nums .u8 (xs ++ [y])) := by
      rw [nums_append]
      exact own_weaken hown (by simp; omega)
    exact BRow.of_own hown' (by omega)
end Go.Proofs.Ytlpkgngjofabaaa.PSaltSeals

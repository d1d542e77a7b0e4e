/-
  LanguageOrders: whatever the input, the call returns true, and each argument reads afterwards as it read before. No conditions.
-/
import Derived.Test.YtjnjmnfacaakfaaO5
import Derived.RangeFuncWrites
import Derived.OwnWalkIn
import Derived.Shelf.Abstract
import Derived.LoopNIn
import Derived.LoopIn
import Derived.Test.YtjnjmnfacaakfaaRows
namespace Go.Proofs.Ytjnjmnfacaakfaa
open Go.Eng Go.RowKit Go.Shelf
theorem check_vals (l : Lang) : check l = 0 ∨ check l = 2 ∨ check l = 5 := by
  unfold check
  by_cases h1 : l.Accept.length < 1 ∨ 16 < l.Accept.length
  · rw [if_pos h1]; simp
  · rw [if_neg h1]
    by_cases h2 : l.Next.length ≠ l.Accept.length
    · rw [if_pos h2]; simp
    · rw [if_neg h2]
      by_cases h3 : OkNext l.Accept.length l.Next
      · rw [if_pos h3]; simp
      · rw [if_neg h3]; simp
theorem fn3 {F : PHeap} {a b c : PV} {vs : List Value} (h : RelD F noG (.agg [.p (.pel a), .p (.pel b), .p (.pel c)]) vs) : ∃ v1 v2 v3, vs = [v1, v2, v3] ∧ RelP F (.pel a) [v1] ∧ RelP F (.pel b) [v2] ∧ RelP F (.pel c) [v3] := by
  have one : ∀ {x : PV} {cs : List Value}, RelD F noG (.p (.pel x)) cs → ∃ v, cs = [v] ∧ RelP F (.pel x) [v] := fun h => by
    cases h with
    | p h => cases h with
      | pel a1 a2 a3 => exact ⟨_, rfl, .pel a1 a2 a3⟩
  cases h with
  | cons h1 h =>
    cases h with
    | cons h2 h =>
      cases h with
      | cons h3 h =>
        cases h with
        | nil =>
          obtain ⟨v1, rfl, q1⟩ := one h1
          obtain ⟨v2, rfl, q2⟩ := one h2
          obtain ⟨v3, rfl, q3⟩ := one h3
          exact ⟨v1, v2, v3, rfl, q1, q2, q3⟩
theorem appendedK {W w1 : World} {bo B1 n0 : Nat} {v v' : Value} {k m : Nat} {xs ys : List Value} {tmp : Obj} (hv : Boxed W bo 28 v) (hrow : W.ownsRow B1 9 1 v k xs) (hBW : B1 ≤ W.heap.size) (hbo : bo < B1) (hn0 : n0 ≤ bo)
    (hown' : w1.ownsRow B1 9 1 v' m ys) (hgrow : (W.alloc tmp).grownBy w1 v.ownBlock) :
    Boxed w1 bo 28 v ∧ Boxed (w1.setCell ⟨bo, 0, none⟩ v') bo 28 v' ∧ (w1.setCell ⟨bo, 0, none⟩ v').ownsRow B1 9 1 v' m ys ∧ KeepsOthers W (w1.setCell ⟨bo, 0, none⟩ v') ∧ KpB bo B1 W (w1.setCell ⟨bo, 0, none⟩ v') ∧ Below n0 W (w1.setCell ⟨bo, 0, none⟩ v') := by
  have hv1 : Boxed w1 bo 28 v := (hv.alloc tmp).kept hgrow (hv.not_row (by decide) hrow)
  refine ⟨hv1, hv1.set v', hown'.kept (grownBy_setCell' w1 bo v') (.inr (hv1.not_row (by decide) hown').symm), ?_, ?_, ?_⟩
  · refine ((KeepsOthers.alloc W tmp).trans (KeepsOthers.of_grownBy hgrow fun j o ej hj => ?_)).trans (KeepsOthers.setCell _ _ _)
    rcases (hrow.alloc tmp).2 with ⟨rfl, _⟩ | ⟨g, cap, cur, rfl, _, hgb, _⟩
    · simp [Value.ownBlock] at ej
    · obtain rfl : g = j := by simpa [Value.ownBlock] using ej
      rw [hgb] at hj; cases hj; rfl
  · have hsz : W.heap.size ≤ w1.heap.size := by have := hgrow.size; simp at this; omega
    have hg2 := grownBy_setCell' w1 bo v'
    refine ⟨Nat.le_trans hsz hg2.size, fun i c T fz hi hne hor => ?_⟩
    have hlt : i < W.heap.size := (Array.getElem?_eq_some_iff.1 hi).1
    have e1 : (W.alloc tmp).heap[i]? = some (.cells c T fz) := (heap_alloc_old W tmp hlt).trans hi
    have e2 : w1.heap[i]? = (W.alloc tmp).heap[i]? := hgrow.block i (by simp; omega) (fun e => by
      rcases hrow.2 with ⟨rfl, _⟩ | ⟨g, cap, cur, rfl, hb, hgb, _⟩
      · simp [Value.ownBlock] at e
      · obtain rfl : i = g := by simpa [Value.ownBlock] using e
        rw [hgb] at hi
        cases hi
        rcases hor with h | h
        · omega
        · exact h rfl)
    exact (hg2.block i (by omega) (by simpa using hne)).trans (e2.trans e1)
  · refine (((Below.refl n0 W).alloc (by omega) tmp).grown hgrow (by simp; omega) fun j ej => ?_).setCell (p := ⟨bo, 0, none⟩) hn0 v'
    rcases hrow.2 with ⟨rfl, _⟩ | ⟨g, cap, cur, rfl, hb, _, _⟩
    · simp [Value.ownBlock] at ej
    · obtain rfl : g = j := by simpa [Value.ownBlock] using ej
      omega
def sV (x : List UInt8) : Value := .string ⟨x.toArray⟩
theorem info9 : (Try.prog.info? 9).map (fun i => (i.zero, i.size, i.bytes)) = some (some (.string ⟨#[]⟩), 1, 16) := by kernel_rfl
theorem underlying28 : Try.prog.underlying 28 = some (.slice 9) := by kernel_rfl
theorem first_fin {w W : World} {F : PHeap} {B1 : Nat} {v : Value} {pre : List (List UInt8)} (hs : Eng.Sub F w) (hB : Below w.heap.size w W) (hB1 : w.heap.size ≤ B1) (hrow : W.ownsRow B1 9 1 v pre.length (pre.map sV)) :
    ∃ F', Eng.Sub F' W ∧ (∀ k, k < w.heap.size → F' k = F k) ∧ Grew w W ∧ RelV F' noG (.p (eL eS 1 [] pre)) v := by
  have hsW : Eng.Sub F W := fun b c hb => by
    obtain ⟨T, fz, e⟩ := hs b c hb
    exact ⟨T, fz, (hB.block b (Array.getElem?_eq_some_iff.1 e).1).trans e⟩
  have hg := Grew.of_below hB
  rcases hrow.2 with ⟨rfl, h0⟩ | ⟨g, cap, cur, rfl, h1, h2, h3⟩
  · exact ⟨F, hsW, fun _ _ => rfl, hg, by
      have : pre = [] := List.length_eq_zero_iff.1 (by simpa using h0)
      subst this
      exact .one rfl (.p .lst0)⟩
  · obtain ⟨h3, h4, h5, h6⟩ := h3
    have hF : ∀ b c, F b = some c → (if b = g then some cur else F b) = some c := fun b c hb => by
      rw [if_neg (fun e => by obtain ⟨T, fz, e1⟩ := hs b c hb; have := (Array.getElem?_eq_some_iff.1 e1).1; omega)]; exact hb
    refine ⟨fun b => if b = g then some cur else F b, fun b c hb => ?_, fun k hk => ?_, hg, .one rfl (.p (.lst (b := g) (off := 0) (c := cur) (by simp) h3 (by omega) fun i hi => ?_))⟩
    · simp only at hb
      split at hb
      · rename_i e; cases hb; rw [e]; exact ⟨_, _, h2⟩
      · exact hsW b c hb
    · simp only
      rw [if_neg (by omega)]
    · have e1 : (cur.toList.drop (0 + i * 1)).take 1 = [sV (pre.getD i [])] := by
        have h7 : cur.toList[i]? = some (sV (pre.getD i [])) := by
          have := congrArg (fun l => l[i]?) h6
          simp only [List.getElem?_take, List.getElem?_map] at this
          rw [if_pos (by omega)] at this
          rw [this]
          simp [List.getD, List.getElem?_eq_getElem hi]
        obtain ⟨hlt, h8⟩ := List.getElem?_eq_some_iff.1 h7
        rw [show 0 + i * 1 = i by omega, List.drop_eq_getElem_cons hlt, h8]
        rfl
      rw [e1]
      exact .s
attribute [local go_sem] Oper.semAt_some
theorem cell_b {W : World} {B : Nat} {c : Array Value} {t : TypeId} (h : W.heap[B]? = some (.cells c t (0, 0))) {j : Nat} {v : Value} (hj : c[j]? = some v) : W.cell? ⟨B, j, none⟩ = some v := by
  have hlt := (Array.getElem?_eq_some_iff.1 hj).1
  simp [World.cell?, h, hj]
set_option maxRecDepth 100000 in
set_option maxHeartbeats 2000000 in
theorem First_go (l : Lang) (hok : check l = 0) (most : Int) (hm1 : 1 ≤ most) (F : PHeap) (w : World) (hs : Sub F w) (sa sn : Value) (hl : RelP F (eLang l) [sa, sn]) :
    Calls Try.prog 14 #[.agg #[sa, sn], .int .i64 most] w fun e w' => ∃ v F', e = .returned v ∧ Sub F' w' ∧ (∀ k, k < w.heap.size → F' k = F k) ∧ Grew w w' ∧ RelV F' noG (.p (eL eS 1 [] ((allW l).take (min most 100).toNat))) v := by
  refine (callsIn_wide (n := 3)).1 ?_
  refine callsIn_of_wp_marks Try.func14 rfl trivial ?_ rfl
  simp only [Try.ntmps14, List.size_toArray, List.length_cons, List.length_nil, Nat.reduceAdd, Nat.reduceSub, Array.replicate_succ, Array.replicate_zero, List.push_toArray, List.append_toArray, List.nil_append, List.cons_append]
  have hb0 : (w.alloc (.cells #[sa, sn] 32)).heap[w.heap.size]? = some (.cells #[sa, sn] 32 (0, 0)) := World.alloc_heap_new w _
  have hA : ((w.alloc (.cells #[sa, sn] 32)).alloc (.cells #[.int .i64 most] 3)).heap[w.heap.size]? = some (.cells #[sa, sn] 32 (0, 0)) := by
    rw [heap_alloc_old _ _ (by simp)]; exact hb0
  have hc0 := cell_b hA (j := 0) rfl
  have hc1 := cell_b hA (j := 1) rfl
  have hA1 : ((w.alloc (.cells #[sa, sn] 32)).alloc (.cells #[.int .i64 most] 3)).heap[w.heap.size + 1]? = some (.cells #[.int .i64 most] 3 (0, 0)) := by
    have := World.alloc_heap_new (w.alloc (.cells #[sa, sn] 32)) (.cells #[.int .i64 most] 3)
    rwa [World.size_alloc] at this
  have hgA : Grew w ((w.alloc (.cells #[sa, sn] 32)).alloc (.cells #[.int .i64 most] 3)) := (grew_alloc w _).trans (grew_alloc _ _)
  have hsA : Eng.Sub F ((w.alloc (.cells #[sa, sn] 32)).alloc (.cells #[.int .i64 most] 3)) := fun b c hb => by
    obtain ⟨T, fz, e⟩ := hs b c hb
    exact ⟨T, fz, (hgA.block b (Array.getElem?_eq_some_iff.1 e).1).trans e⟩
  have hrl : RelV F noG (.p (eLang l)) (.agg #[sa, sn]) := .many (cs := [sa, sn]) rfl (.p hl)
  have hck := check_ok l F _ [.agg #[sa, sn]] hsA rfl (fun i p v h1 h2 => by
    match i with
    | 0 => cases h1; cases h2; exact hrl
    | i + 1 => simp at h1)
  have hsz : ((w.alloc (.cells #[sa, sn] 32)).alloc (.cells #[.int .i64 most] 3)).heap.size = w.heap.size + 2 := by simp
  generalize hWA : (w.alloc (.cells #[sa, sn] 32)).alloc (.cells #[.int .i64 most] 3) = WA at *
  gi_wp2
  refine ⟨trivial, (callsIn_wide.2 hck).mono ?_⟩
  rintro e w1 ⟨v, F1, rfl, s1, x1, g1, r1⟩
  rw [hok] at r1
  obtain rfl := asInt_val (k := .i64) (n := 0) rfl r1
  have hB0 : w1.heap[w.heap.size]? = some (.cells #[sa, sn] 32 (0, 0)) := (g1.block _ (by omega)).trans hA
  have hB1 : w1.heap[w.heap.size + 1]? = some (.cells #[.int .i64 most] 3 (0, 0)) := (g1.block _ (by omega)).trans hA1
  have hm := cell_b hB1 (j := 0) rfl
  have hsz1 : w.heap.size + 2 ≤ w1.heap.size := by have := g1.size; omega
  have hC0 : (w1.alloc (.cells #[.slice none 0 0] 28)).heap[w.heap.size]? = some (.cells #[sa, sn] 32 (0, 0)) := (heap_alloc_old _ _ (by omega)).trans hB0
  have hd0 := cell_b hC0 (j := 0) rfl
  have hd1 := cell_b hC0 (j := 1) rfl
  gi_wp2
  have hg3 : Grew w1 (w1.alloc (.cells #[.slice none 0 0] 28)) := grew_alloc w1 _
  have s1' : Eng.Sub F1 (w1.alloc (.cells #[.slice none 0 0] 28)) := fun b c hb => by
    obtain ⟨T, fz, e⟩ := s1 b c hb
    exact ⟨T, fz, (hg3.block b (Array.getElem?_eq_some_iff.1 e).1).trans e⟩
  have hFF1 : ∀ b c, F b = some c → F1 b = some c := fun b c hb => by
    rw [x1 b (sub_lt (slh_base (P := Try.prog) (N := 0) hsA) hb)]; exact hb
  have hwd := words_ok l hok F1 _ [.agg #[sa, sn], .int .i64 12] s1' rfl (fun i p v h1 h2 => by
    match i with
    | 0 => cases h1; cases h2; exact .many (cs := [sa, sn]) rfl (.p (hl.mono hFF1))
    | 1 => cases h1; cases h2; exact relV_int
    | i + 2 => simp at h1)
  refine ⟨trivial, (callsIn_wide.2 hwd).mono ?_⟩
  rintro e w2 ⟨v, F2, rfl, s2, x2, g2, r2⟩
  obtain ⟨v1, v2, v3, rfl, q1, q2, q3⟩ : ∃ v1 v2 v3, v = .func (.func 49) #[] #[v1, v2, v3] ∧ RelP F2 (.pel (eL (eL eB 1 false) 1 [] (leadsL l 12))) [v1] ∧ RelP F2 (.pel (eLang l)) [v2] ∧ RelP F2 (.pel (.v (.int .i64 12))) [v3] := by
    cases r2 with
    | one _ r2 =>
      cases r2 with
      | fn r2 => obtain ⟨v1, v2, v3, rfl, q⟩ := fn3 r2; exact ⟨v1, v2, v3, rfl, q⟩
    | many hm => cases hm
  gi_wp2
  obtain ⟨i0, hi, hz0, hz1, hz2⟩ := info_parts info9
  have hsz3 : (w1.alloc (.cells #[.slice none 0 0] 28)).heap.size = w1.heap.size + 1 := by simp
  have hg2s := g2.size
  have hbo : w1.heap.size < w2.heap.size := by omega
  have hOut : Boxed w2 w1.heap.size 28 (.slice none 0 0) := (g2.block _ (by omega)).trans (World.alloc_heap_new w1 _)
  have hMost : Boxed w2 (w.heap.size + 1) 3 (.int .i64 most) := (g2.block _ (by omega)).trans ((heap_alloc_old _ _ (by omega)).trans hB1)
  have hgw : Grew w w2 := (((hWA ▸ hgA : Grew w WA).trans g1).trans hg3).trans g2
  have hBel : Below w.heap.size w w2 := hgw.below
  have hF2 : ∀ b c, F2 b = some c → b ≠ w1.heap.size ∧ b < w2.heap.size := fun b c hb => by
    refine ⟨fun e => ?_, sub_lt (slh_base (P := Try.prog) (N := 0) s2) hb⟩
    subst e
    have h1 := x2 w1.heap.size (by omega)
    rw [h1] at hb
    have := sub_lt (slh_base (P := Try.prog) (N := 0) s1) hb
    omega
  obtain ⟨mm, hmm⟩ : ∃ mm, mm = (min most 100).toNat := ⟨_, rfl⟩
  refine wpIn_rangeFunc_ownF (encs := fun x : List UInt8 => #[.string ⟨x.toArray⟩]) rfl (by omega) (gf := 49) (lb := #[v1, v2, v3]) rfl trivial (enters_of Try.func49 (by kernel_rfl) rfl)
    (words1_ok l hok F2 w1.heap.size w2.heap.size _ v1 v2 v3 w2 s2 rfl hbo hF2 q1 q2 q3) (fun h k => h.trans k) ?hKb (Below.refl _ _) (fun _ => rfl)
    (fun pre W => ((∃ v, Boxed W w1.heap.size 28 v ∧ W.ownsRow w2.heap.size 9 1 v pre.length (pre.map sV) ∧ True) ∧ Boxed W (w.heap.size + 1) 3 (.int .i64 most)) ∧ Below w.heap.size w W ∧ w2.heap.size ≤ W.heap.size ∧ pre.length < mm)
    (fun c pre W => ((∃ v, Boxed W w1.heap.size 28 v ∧ W.ownsRow w2.heap.size 9 1 v pre.length (pre.map sV) ∧ True) ∧ Boxed W (w.heap.size + 1) 3 (.int .i64 most)) ∧ Below w.heap.size w W ∧ w2.heap.size ≤ W.heap.size ∧ (pre.length = mm ∧ c = .exit 0))
    ?hI ?hIx ⟨⟨⟨_, hOut, World.ownsRow_nil _ _ _ _, trivial⟩, hMost⟩, hBel, Nat.le_refl _, by simp; omega⟩
    (fun x => { tmps := #[.agg #[sa, sn], .int .i64 most, .pointer (some ⟨w.heap.size, 0, none⟩), .pointer (some ⟨w.heap.size + 1, 0, none⟩), .slice none 0 0, .pointer (some ⟨w1.heap.size, 0, none⟩), .string ⟨x.toArray⟩, .agg #[sa, sn], .int .i64 0, .bool false, .bool false, .int .i64 most,
      .bool (decide (most < 1)), .bool (decide (most < 1)), .agg #[sa, sn], .func (.func 49) #[] #[v1, v2, v3], .string ⟨x.toArray⟩, undef, undef, undef, undef, undef, undef, undef, undef, undef, undef], defers := [] }) ?assign ?body ?done ?stop
  case hKb =>
    intro A k o o' hk ho hoc how
    refine ⟨by simp [World.putObj], fun i c T fz hi _ _ => ?_⟩
    exact (World.putObj_heap_other (fun e => by subst e; rw [hi] at ho; cases ho; cases hoc)).trans hi
  case hI =>
    rintro pre A A' row ⟨⟨h1, h2⟩, h3, h4, h5⟩ hg hr
    refine ⟨⟨holdsRow_own w2.heap.size w1.heap.size 28 9 1 (fun pre : List (List UInt8) => pre.length) (fun pre => pre.map sV) (fun _ _ => True) pre A A' row h1 hg (fun r e => (hr r e).2), Boxed.kept h2 hg (fun e => ?_)⟩, ownFrom_below (w₀ := w) (β := Unit) (Nat.le_refl _) (by omega) () A A' row h3 hg hr, Nat.le_trans h4 hg.size, h5⟩
    obtain ⟨_, o, ho, hoc⟩ := hr _ e.symm
    rw [show A.heap[w.heap.size + 1]? = _ from h2] at ho
    cases ho
    cases hoc
  case hIx =>
    intro c
    rintro pre A A' row ⟨⟨h1, h2⟩, h3, h4, h5⟩ hg hr
    refine ⟨⟨holdsRow_own w2.heap.size w1.heap.size 28 9 1 (fun pre : List (List UInt8) => pre.length) (fun pre => pre.map sV) (fun _ _ => True) pre A A' row h1 hg (fun r e => (hr r e).2), Boxed.kept h2 hg (fun e => ?_)⟩, ownFrom_below (w₀ := w) (β := Unit) (Nat.le_refl _) (by omega) () A A' row h3 hg hr, Nat.le_trans h4 hg.size, h5⟩
    obtain ⟨_, o, ho, hoc⟩ := hr _ e.symm
    rw [show A.heap[w.heap.size + 1]? = _ from h2] at ho
    cases ho
    cases hoc
  case assign =>
    intro ly x W K hK
    gi_wp2
    exact hK
  case body =>
    rintro ly pre x W ⟨⟨⟨v, hv, hrow, _⟩, hMo⟩, hB, hW2, hlt⟩ _
    have hc := hv.cell
    have hmc := hMo.cell
    have h100 : pre.length < 100 := by clear hc hmc; omega
    have hb1 : pre.length + 1 ≤ maxLen := Nat.le_trans (show pre.length + 1 ≤ 100 by omega) (Nat.le_of_ble_eq_true rfl)
    have hb2 : (pre.length + 1) * 16 ≤ 140737488355328 := by omega
    have hb3 : w2.heap.size ≤ (W.alloc (.cells #[.string ⟨x.toArray⟩] 9)).heap.size := by rw [World.size_alloc]; omega
    have hwb : w.heap.size ≤ w1.heap.size := by omega
    have hmne : w.heap.size + 1 ≠ w1.heap.size := by omega
    have hmlt : w.heap.size + 1 < w2.heap.size := by omega
    gi_wp2_with (gi_at_builtin; refine wpListIn_append_own _ rfl _ _ 28 rfl w2.heap.size 9 i0 (.string ⟨#[]⟩) 1 16 underlying28 hi hz0 hz1 hz2 rfl (by decide) _ _ _ rfl (hrow.alloc _) ⟨W.heap.size, 0, none⟩ 1 1 [.string ⟨x.toArray⟩] rfl rfl (cell_one_new _ _ _) (by simp [Value.oneCell']) hb1 hb2 hb3 ?_; intro v' w1' hown' hgrow _; obtain ⟨g', cap', rfl⟩ := ownsRow_succ hown'; obtain ⟨hv1, hv2, hr2, hk2, hKp, hb2'⟩ := appendedK (n0 := w.heap.size) hv hrow hW2 hbo hwb hown' hgrow; have hc1 := hv1.cell; have hf1 := hv1.frozen; have hmo2 := hKp.2 _ _ _ _ hMo hmne (.inl hmlt); have hmc2 := Boxed.cell (B := w.heap.size + 1) (t := 3) (v := .int .i64 most) hmo2)
    · refine ⟨hk2, ⟨⟨_, hv2, by simpa [sV] using hr2, trivial⟩, hmo2⟩, hB.trans hb2', Nat.le_trans hW2 hKp.1, ?_, rfl⟩
      have he : ((pre.length : Int) + 1 == min most 100) = true := by assumption
      rw [beq_iff_eq] at he
      simp only [List.length_append, List.length_singleton]
      omega
    · refine ⟨hk2, hKp, ⟨⟨_, hv2, by simpa [sV] using hr2, trivial⟩, hmo2⟩, hB.trans hb2', Nat.le_trans hW2 hKp.1, ?_⟩
      have he : ((pre.length : Int) + 1 == min most 100) = false := by assumption
      rw [beq_eq_false_iff_ne] at he
      simp only [List.length_append, List.length_singleton]
      omega
  case done =>
    rintro D xs W hD rfl ⟨⟨⟨v, hv, hrow, _⟩, _⟩, hB, hW2, hlt⟩ hK
    have hc := hv.cell
    gi_wp2
    refine ⟨by simp, .inl ⟨_, _, rfl, run_takeDeferred hK, ?_⟩⟩
    obtain ⟨F', y1, y2, y3, y4⟩ := first_fin hs (hB.trans (belowK_b (w := w2) (by omega) W D _ (.deferred none) hD hK rfl rfl)) (by omega) (ownsRow_putObj hrow (.deferred none) hK rfl)
    refine ⟨_, results_tmp rfl _ _ _, _, F', rfl, y1, y2, y3, ?_⟩
    rw [List.take_of_length_le (by omega)]
    exact y4
  case stop =>
    rintro D c pre W hD hpre ⟨⟨⟨v, hv, hrow, _⟩, _⟩, hB, hW2, hlen, rfl⟩ hK
    have hc := hv.cell
    gi_wp2
    refine ⟨by simp, .inl ⟨_, _, rfl, run_takeDeferred hK, ?_⟩⟩
    obtain ⟨F', y1, y2, y3, y4⟩ := first_fin hs (hB.trans (belowK_b (w := w2) (by omega) W D _ (.deferred none) hD hK rfl rfl)) (by omega) (ownsRow_putObj hrow (.deferred none) hK rfl)
    refine ⟨_, results_tmp rfl _ _ _, _, F', rfl, y1, y2, y3, ?_⟩
    rw [← hmm, ← hlen, ← List.prefix_iff_eq_take.1 hpre]
    exact y4

end Go.Proofs.Ytjnjmnfacaakfaa
namespace Go.Proofs.Ytjnjmnfacaakfaa
open Go.Eng

theorem firstNone_ok (l : Lang) (most : Int) (hbad : (check l ≠ 0) ∨ (most < 1)) : Pure Try.prog 14 [eLang l, .v (.int .i64 most)] (.p ((eL eS 1 []) ([] : List (List UInt8)))) := by
  refine pure_of (fn := Try.f14) Try.func14 rfl rfl fun F_ W0_ => ?_
  refine tr_seq ?_
  refine tr_r (vc := []) (E' := [(2, none, .ref 0 []), (3, none, .ref 1 [])]) (H' := [.box (.p (eLang l)), .box (vint .i64 most)]) [] [] [2, 3] (by kernel_rfl) ?_ ?_
  · exact trivial
  refine tr_then ?_
  refine tr_seq ?_
  refine tr_seq ?_
  refine tr_r (vc := [Pure Try.prog 20 [eLang l] (vint .i64 (check l)), (!((check l) != 0)) = true → (!((check l) != 0)) = true, (!((check l) != 0)) = true → (!((check l) != 0)) = true]) (E' := [(2, none, .ref 0 []), (3, none, .ref 1 []), (13, none, vbool (((check l) != 0) || (decide (most < 1))))]) (H' := [.box (.p (eLang l)), .box (vint .i64 most)]) [] [(1, vint .i64 (check l))] [2, 3, 13] (by kernel_rfl) ?_ ?_
  · refine al ?_ (al ?_ (al ?_ (trivial)))
    · exact check_ok _ -- r1.0
    · exact id -- r1.1
    · exact id -- r1.2
  refine tr_then ?_
  refine tr_condP (((check l) != 0) || (decide (most < 1))) (((check l) ≠ 0) ∨ (most < 1)) (by simp) (by kernel_rfl) (fun hc1 => ?_) (fun hc1 => ?_)
  · skip
    refine tr_seq ?_
    refine tr_r (vc := []) (E' := [(4, none, .p (.v (.slice none 0 0)))]) (H' := [.box (.p (eLang l)), .box (vint .i64 most)]) [] [] [4] (by kernel_rfl) ?_ ?_
    · exact trivial
    refine tr_then ?_
    refine tr_pre (E' := [(4, none, .p (.v (.slice none 0 0)))]) (H' := []) (fun A_ W_ hS => sl_weak (vc := []) [] [4] (by kernel_rfl) trivial hS) ?_
    refine tr_pre (E' := (4, none, .p ((eL eS 1 []) ([] : List (List UInt8)))) :: [(4, none, .p (.v (.slice none 0 0)))]) (H' := []) (fun A_ W_ hS => sl_set_imp (d := .p (.v (.slice none 0 0))) 4 (.p ((eL eS 1 []) ([] : List (List UInt8)))) (by kernel_rfl) ?_ hS) ?_
    · refine imp_nil ([] : List (List UInt8)) ?_ -- ret1.0
      first | rfl | (simp; done) | omega | (simp_all; done) | grind
    refine tr_pre (E' := [(4, none, .p ((eL eS 1 []) ([] : List (List UInt8))))]) (H' := []) (fun A_ W_ hS => sl_proj (ts := [4]) (by kernel_rfl) hS) ?_
    exact tr_return' (vc := []) (ds := [.p ((eL eS 1 []) ([] : List (List UInt8)))]) (by kernel_rfl) trivial (by kernel_rfl) (fun _ _ h => h)
  · exact absurd (hbad) hc1

def firstS (l : Lang) (most : Int) : List (List UInt8) := if (check l ≠ 0) ∨ (most < 1) then [] else (allW l).take (min most 100).toNat
theorem First_ok (l : Lang) (most : Int) : Pure Try.prog 14 [eLang l, .v (.int .i64 most)] (.p (eL eS 1 [] (firstS l most))) := by
  unfold firstS
  by_cases h : (check l ≠ 0) ∨ (most < 1)
  · rw [if_pos h]; exact firstNone_ok l most h
  · rw [if_neg h]
    rw [not_or, Classical.not_not] at h
    intro F w vs hs hlen hrel
    match vs, hlen with
    | [a, b], _ =>
      have h1 := hrel 0 _ a rfl rfl
      have h2 := hrel 1 _ b rfl rfl
      obtain rfl := asInt_val (k := .i64) (n := most) rfl h2
      cases h1 with
      | one hm => cases hm
      | @many _ cs _ h1 =>
        cases h1 with
        | p h1 =>
          have hl := h1.length
          match cs, hl, h1 with
          | [sa, sn], _, h1 =>
            exact (First_go l h.1 most (by omega) F w hs sa sn h1).mono fun e w' ⟨v, F', a, b, c, d, e⟩ => ⟨v, F', a, b, c, d, e⟩
end Go.Proofs.Ytjnjmnfacaakfaa
namespace Go.Proofs.Ytjnjmnfacaakfaa
open Go.Eng
def symB (c : Nat) : UInt8 := symbols.getD c 0
theorem symAt_eq {c : Nat} (h : c < 37) : symAt c = [symB c] := by
  have : ∀ k : Fin 37, symAt k.val = [symB k.val] := by decide +kernel
  exact this ⟨c, h⟩
theorem sym_symB {c : Nat} (h : c < 37) : sym ((symB c).toNat : Int) = c := by
  have : ∀ k : Fin 37, sym ((symB k.val).toNat : Int) = k.val := by decide +kernel
  exact this ⟨c, h⟩
theorem symB_sym (b : UInt8) (h : 0 ≤ sym (b.toNat : Int)) : symB (sym (b.toNat : Int)).toNat = b := by
  have key : ∀ k : Fin 256, 0 ≤ sym (k.val : Int) → symB (sym (k.val : Int)).toNat = k.val.toUInt8 := by decide +kernel
  have := key ⟨b.toNat, b.toNat_lt⟩ h
  rw [this]
  simp
theorem orTo_iff {prev : List Bool} {row : List Int} : ∀ {n : Nat}, orTo prev row n = true ↔ ∃ c, c < n ∧ 0 ≤ row.getD c 0 ∧ prev.getD (row.getD c 0).toNat false = true
  | 0 => by simp [orTo]
  | n + 1 => by
    simp only [orTo, Bool.or_eq_true, Bool.and_eq_true, decide_eq_true_eq]
    rw [orTo_iff (n := n)]
    constructor
    · rintro (⟨c, h1, h2⟩ | h)
      · exact ⟨c, by omega, h2⟩
      · exact ⟨n, by omega, h⟩
    · rintro ⟨c, h1, h2⟩
      by_cases e : c = n
      · subst e; exact .inr h2
      · exact .inl ⟨c, by omega, h2⟩
theorem leadR_succ {l : Lang} (hok : check l = 0) {n q : Nat} (hq : q < l.Accept.length) : (leadR l (n + 1)).getD q false = true ↔ ∃ c, c < 37 ∧ 0 ≤ (l.Next.getD q []).getD c 0 ∧ (leadR l n).getD ((l.Next.getD q []).getD c 0).toNat false = true := by
  obtain ⟨f1, f2, f3, f4⟩ := check_facts hok
  have hw := (f4 q (by omega)).1
  have e : (leadR l (n + 1)).getD q false = orTo (leadR l n) (l.Next.getD q []) 37 := by
    show (rowC l (leadR l n) l.Next.length 0).getD q false = _
    simp only [rowC, List.getD_eq_getElem?_getD, List.getElem?_map, List.getElem?_range hq, Option.map_some, Option.getD_some]
    rw [if_pos (by omega)]
    rw [← List.getD_eq_getElem?_getD, hw]
  rw [e, orTo_iff]
/-- Accepted from a state on. -/
def accQ (l : Lang) (q : Nat) (s : List UInt8) : Bool := match go l q s with
  | some r => l.Accept.getD r false
  | none => false
theorem accQ_nil {l : Lang} {q : Nat} : accQ l q [] = l.Accept.getD q false := rfl
theorem accQ_cons {l : Lang} {q : Nat} {b : UInt8} {s : List UInt8} : accQ l q (b :: s) = true ↔ 0 ≤ sym b.toNat ∧ 0 ≤ (l.Next.getD q []).getD (sym b.toNat).toNat 0 ∧ accQ l ((l.Next.getD q []).getD (sym b.toNat).toNat 0).toNat s = true := by
  unfold accQ
  by_cases h : sym b.toNat < 0 ∨ (l.Next.getD q []).getD (sym b.toNat).toNat 0 < 0
  · rw [go, if_pos h]
    constructor
    · intro h'; cases h'
    · rintro ⟨h1, h2, _⟩; omega
  · rw [go, if_neg h]
    constructor
    · intro h'; exact ⟨by omega, by omega, h'⟩
    · rintro ⟨_, _, h'⟩; exact h'
theorem has_accQ {l : Lang} (hok : check l = 0) (s : List UInt8) : has l s = accQ l 0 s := by
  unfold has accQ
  rw [if_neg (by omega)]
  cases go l 0 s <;> rfl
theorem mem_extC {l : Lang} {rec : Nat → List UInt8 → List (List UInt8)} {q : Nat} {p w : List UInt8} : ∀ {n : Nat}, w ∈ extC l rec q p n ↔ ∃ c, c < n ∧ 0 ≤ (l.Next.getD q []).getD c 0 ∧ w ∈ rec ((l.Next.getD q []).getD c 0).toNat (p ++ symAt c)
  | 0 => by simp [extC]
  | n + 1 => by
    rw [extC, List.mem_append, mem_extC (n := n)]
    constructor
    · rintro (⟨c, h1, h2⟩ | h)
      · exact ⟨c, by omega, h2⟩
      · split at h
        · rename_i h0; exact ⟨n, by omega, h0, h⟩
        · cases h
    · rintro ⟨c, h1, h2, h3⟩
      by_cases e : c = n
      · subst e; rw [if_pos h2]; exact .inr h3
      · exact .inl ⟨c, by omega, h2, h3⟩
/-- What is listed from a state on: what is accepted from there, of so many symbols. -/
theorem mem_extW {l : Lang} (hok : check l = 0) : ∀ (n q : Nat) (p w : List UInt8), q < l.Accept.length → (w ∈ extW l n q p ↔ ∃ t, w = p ++ t ∧ t.length = n ∧ accQ l q t = true) ∧ ((leadR l n).getD q false = true ↔ ∃ t : List UInt8, t.length = n ∧ accQ l q t = true)
  | 0, q, p, w, hq => by
    have h2 : (leadR l 0).getD q false = true ↔ ∃ t : List UInt8, t.length = 0 ∧ accQ l q t = true := by
      constructor
      · intro h; exact ⟨[], rfl, h⟩
      · rintro ⟨t, h1, h2⟩
        obtain rfl := List.length_eq_zero_iff.1 h1
        exact h2
    refine ⟨?_, h2⟩
    rw [extW]
    constructor
    · intro h
      split at h
      · rename_i h0
        exact ⟨[], by simpa using h, rfl, h0⟩
      · cases h
    · rintro ⟨t, rfl, h1, h2⟩
      obtain rfl := List.length_eq_zero_iff.1 h1
      rw [if_pos (show (leadR l 0).getD q false = true from h2)]; simp
  | n + 1, q, p, w, hq => by
    obtain ⟨f1, f2, f3, f4⟩ := check_facts hok
    have hrow := f4 q (by omega)
    have to_lt : ∀ c, c < 37 → 0 ≤ (l.Next.getD q []).getD c 0 → ((l.Next.getD q []).getD c 0).toNat < l.Accept.length := fun c hc h0 => by
      have := hrow.2 c (by rw [hrow.1]; exact hc)
      omega
    have h2 : (leadR l (n + 1)).getD q false = true ↔ ∃ t : List UInt8, t.length = n + 1 ∧ accQ l q t = true := by
      rw [leadR_succ hok hq]
      constructor
      · rintro ⟨c, hc, h0, h1⟩
        obtain ⟨t, ht, ha⟩ := (mem_extW hok n _ [] [] (to_lt c hc h0)).2.1 h1
        refine ⟨symB c :: t, by simp [ht], accQ_cons.2 ?_⟩
        rw [sym_symB hc]
        exact ⟨by omega, h0, ha⟩
      · rintro ⟨t, ht, ha⟩
        match t, ht with
        | b :: t, ht =>
          obtain ⟨a1, a2, a3⟩ := accQ_cons.1 ha
          have hle := sym_le (b.toNat : Int)
          exact ⟨(sym b.toNat).toNat, by omega, a2, (mem_extW hok n _ [] [] (to_lt _ (by omega) a2)).2.2 ⟨t, by simpa using ht, a3⟩⟩
    refine ⟨?_, h2⟩
    rw [extW]
    constructor
    · intro h
      split at h
      · obtain ⟨c, hc, h0, hm⟩ := mem_extC.1 h
        obtain ⟨t, rfl, ht, ha⟩ := (mem_extW hok n _ _ _ (to_lt c hc h0)).1.1 hm
        refine ⟨symB c :: t, by rw [symAt_eq hc]; simp, by simp [ht], accQ_cons.2 ?_⟩
        rw [sym_symB hc]
        exact ⟨by omega, h0, ha⟩
      · cases h
    · rintro ⟨t, rfl, ht, ha⟩
      rw [if_pos (h2.2 ⟨t, ht, ha⟩)]
      match t, ht with
      | b :: t, ht =>
        obtain ⟨a1, a2, a3⟩ := accQ_cons.1 ha
        have hle := sym_le (b.toNat : Int)
        refine mem_extC.2 ⟨(sym b.toNat).toNat, by omega, a2, (mem_extW hok n _ _ _ (to_lt _ (by omega) a2)).1.2 ⟨t, ?_, by simpa using ht, a3⟩⟩
        rw [symAt_eq (by omega), symB_sym b a1]
        simp
theorem mem_allC {l : Lang} {w : List UInt8} : ∀ {n : Nat}, w ∈ allC l n ↔ ∃ k, k < n ∧ w ∈ extW l k 0 []
  | 0 => by simp [allC]
  | n + 1 => by
    rw [allC, List.mem_append, mem_allC (n := n)]
    constructor
    · rintro (⟨c, h1, h2⟩ | h)
      · exact ⟨c, by omega, h2⟩
      · exact ⟨n, by omega, h⟩
    · rintro ⟨c, h1, h2⟩
      by_cases e : c = n
      · subst e; exact .inr h2
      · exact .inl ⟨c, by omega, h2⟩
theorem mem_allW {l : Lang} (hok : check l = 0) {w : List UInt8} : w ∈ allW l ↔ w.length ≤ 12 ∧ has l w = true := by
  have h0 := (check_facts hok).1
  unfold allW
  rw [mem_allC, has_accQ hok]
  constructor
  · rintro ⟨k, hk, h⟩
    obtain ⟨t, rfl, ht, ha⟩ := (mem_extW hok k 0 [] w (by omega)).1.1 h
    exact ⟨by omega, ha⟩
  · rintro ⟨h1, h2⟩
    exact ⟨w.length, by omega, (mem_extW hok _ 0 [] w (by omega)).1.2 ⟨w, rfl, rfl, h2⟩⟩
end Go.Proofs.Ytjnjmnfacaakfaa
namespace Go.Proofs.Ytjnjmnfacaakfaa
open Go.Eng
theorem lexB_cons {b c : UInt8} {s t : List UInt8} : lexB (b :: s) (c :: t) = if sym b.toNat ≠ sym c.toNat then decide (sym b.toNat < sym c.toNat) else lexB s t := by rw [lexB]
theorem lexB_pre {s t : List UInt8} : ∀ p : List UInt8, lexB (p ++ s) (p ++ t) = lexB s t
  | [] => rfl
  | b :: p => by rw [List.cons_append, List.cons_append, lexB_cons, if_neg (by simp), lexB_pre p]
theorem extC_pw {l : Lang} (hok : check l = 0) {q n : Nat} {p : List UInt8} (hq : q < l.Accept.length) (ih : ∀ q' p', q' < l.Accept.length → (extW l n q' p').Pairwise (fun a b => lexB a b = true)) : ∀ c : Nat, c ≤ 37 → (extC l (extW l n) q p c).Pairwise (fun a b => lexB a b = true)
  | 0, _ => by simp [extC]
  | c + 1, hc => by
    obtain ⟨f1, f2, f3, f4⟩ := check_facts hok
    have hrow := f4 q (by omega)
    have to_lt : ∀ c, c < 37 → 0 ≤ (l.Next.getD q []).getD c 0 → ((l.Next.getD q []).getD c 0).toNat < l.Accept.length := fun c hc h0 => by
      have := hrow.2 c (by rw [hrow.1]; exact hc)
      omega
    rw [extC, List.pairwise_append]
    refine ⟨extC_pw hok hq ih c (by omega), ?_, ?_⟩
    · split
      · exact ih _ _ (to_lt _ (by omega) (by assumption))
      · exact .nil
    · intro a ha b hb
      split at hb
      · rename_i h0
        obtain ⟨d, hd, h1, h2⟩ := mem_extC.1 ha
        obtain ⟨s, rfl, -, -⟩ := (mem_extW hok n _ _ _ (to_lt _ (by omega) h1)).1.1 h2
        obtain ⟨t, rfl, -, -⟩ := (mem_extW hok n _ _ _ (to_lt _ (by omega) h0)).1.1 hb
        rw [List.append_assoc, List.append_assoc, lexB_pre, symAt_eq (by omega), symAt_eq (by omega)]
        show lexB (symB d :: s) (symB c :: t) = true
        rw [lexB_cons, sym_symB (by omega), sym_symB (by omega), if_pos (by omega)]
        exact decide_eq_true (by omega)
      · cases hb
theorem extW_pw {l : Lang} (hok : check l = 0) : ∀ (n q : Nat) (p : List UInt8), q < l.Accept.length → (extW l n q p).Pairwise (fun a b => lexB a b = true)
  | 0, q, p, hq => by
    rw [extW]; split
    · exact List.pairwise_singleton _ _
    · exact .nil
  | n + 1, q, p, hq => by
    rw [extW]; split
    · exact extC_pw hok hq (fun q' p' h => extW_pw hok n q' p' h) 37 (by omega)
    · exact .nil
theorem len_extW {l : Lang} (hok : check l = 0) {n : Nat} {w : List UInt8} (h : w ∈ extW l n 0 []) : w.length = n := by
  have h0 := (check_facts hok).1
  obtain ⟨t, e, ht, -⟩ := (mem_extW hok n 0 [] w (by omega)).1.1 h
  rw [e]; exact ht
theorem allC_pw {l : Lang} (hok : check l = 0) : ∀ n : Nat, (allC l n).Pairwise (fun a b => bef a b = true)
  | 0 => .nil
  | n + 1 => by
    have h0 := (check_facts hok).1
    rw [allC, List.pairwise_append]
    refine ⟨allC_pw hok n, ?_, ?_⟩
    · refine (extW_pw hok n 0 [] (by omega)).imp_of_mem fun ha hb h => ?_
      rw [bef, if_neg (by rw [len_extW hok ha, len_extW hok hb]; simp)]
      exact h
    · intro a ha b hb
      obtain ⟨k, hk, ha⟩ := mem_allC.1 ha
      have e1 := len_extW hok ha
      have e2 := len_extW hok hb
      rw [bef, if_pos (by omega)]
      exact decide_eq_true (by omega)
theorem allW_pw {l : Lang} (hok : check l = 0) : (allW l).Pairwise (fun a b => bef a b = true) := allC_pw hok 13
theorem lexB_asym : ∀ {a b : List UInt8}, lexB a b = true → lexB b a = false
  | [], [], h => by rw [lexB]; cases h; done
  | [], b :: t, _ => by simp [lexB]
  | b :: s, [], h => by simp [lexB] at h
  | b :: s, c :: t, h => by
    rw [lexB_cons] at h ⊢
    by_cases e : sym b.toNat = sym c.toNat
    · rw [if_neg (by omega)] at h ⊢
      exact lexB_asym h
    · rw [if_pos e] at h
      rw [if_pos (Ne.symm e)]
      have := of_decide_eq_true h
      exact decide_eq_false (by omega)
theorem bef_asym {a b : List UInt8} (h : bef a b = true) : bef b a = false := by
  unfold bef at h ⊢
  by_cases e : a.length = b.length
  · rw [if_neg (by omega)] at h ⊢
    exact lexB_asym h
  · rw [if_pos e] at h
    rw [if_pos (Ne.symm e)]
    have := of_decide_eq_true h
    exact decide_eq_false (by omega)
/-- Of a list in order: what stands before the last of its first words is among them. -/
theorem take_full {r : List UInt8 → List UInt8 → Bool} {L : List (List UInt8)} (has_ : ∀ a b, r a b = true → r b a = false) (hp : L.Pairwise (fun a b => r a b = true)) {m : Nat} (h0 : 0 < (L.take m).length) {w : List UInt8} (hw : w ∈ L) (hb : (L.take m).length < m ∨ r w ((L.take m).getD ((L.take m).length - 1) []) = true) : w ∈ L.take m := by
  rcases hb with hb | hb
  · rw [List.length_take] at hb
    rw [List.take_of_length_le (by omega)]; exact hw
  · obtain ⟨k, hk, rfl⟩ := List.getElem_of_mem hw
    by_cases hkm : k < m
    · exact List.mem_take_iff_getElem.2 ⟨k, by omega, rfl⟩
    · exfalso
      rw [List.length_take] at h0
      have e : (L.take m).getD ((L.take m).length - 1) [] = L[m - 1]'(by omega) := by
        rw [List.getD_eq_getElem?_getD, List.length_take, List.getElem?_take_of_lt (by omega), List.getElem?_eq_getElem (by omega), Option.getD_some]
        congr 1; omega
      rw [e] at hb
      have := List.pairwise_iff_getElem.1 hp (m - 1) k (by omega) hk (by omega)
      have := has_ _ _ this
      simp_all
end Go.Proofs.Ytjnjmnfacaakfaa
namespace Go.Proofs.Ytjnjmnfacaakfaa
open Go.Eng

def tabA : List (List UInt8) := [[97], [98], [99], [48], [91, 97, 45, 99, 93], [91, 97, 98, 93], [91, 48, 49, 93], [91, 45, 97, 93], [91, 97, 45, 102, 48, 45, 57, 93], [49], [102], [45]]
def tabB : List (List UInt8) := [[], [], [], [63], [43], [42]]
abbrev Pt := Draw × List UInt8
def pieceD (x : Pt) : Pt := (nextD (nextD x.1), x.2 ++ tabA.getD (nextV x.1 12).toNat [] ++ tabB.getD (nextV (nextD x.1) 6).toNat [])
def piecesD (x : Pt) : Nat → Pt
  | 0 => x
  | n + 1 => pieceD (piecesD x n)
def barD (k : Nat) (x : Pt) : Pt := if 0 < k then (x.1, x.2 ++ [124]) else x
def headD (k : Nat) (x : Pt) : Pt := (nextD (barD k x).1, (barD k x).2)
def branchD (k : Nat) (x : Pt) : Pt := piecesD (headD k x) (1 + nextV (barD k x).1 3).toNat
def branchesD (l : List Int) : Nat → Pt
  | 0 => (nextD { L := l, At := 0 }, [])
  | k + 1 => branchD k (branchesD l k)
def patS (l : List Int) : List UInt8 := (branchesD l (1 + nextV { L := l, At := 0 } 2).toNat).2
def OkD (l : List Int) (d : Draw) : Prop := d.L = l ∧ 0 ≤ d.At ∧ d.At ≤ l.length
theorem nextV_lt (d : Draw) {n : Int} (h : 0 < n) : 0 ≤ nextV d n ∧ nextV d n < n := by
  unfold nextV
  split
  · exact ⟨Int.emod_nonneg _ (by omega), Int.emod_lt_of_pos _ h⟩
  · omega
theorem nextD_ok {l : List Int} {d : Draw} (h : OkD l d) : OkD l (nextD d) := by
  obtain ⟨h1, h2, h3⟩ := h
  unfold nextD
  split
  · rename_i hlt
    rw [h1] at hlt
    exact ⟨h1, by show 0 ≤ d.At + 1; omega, by show d.At + 1 ≤ _; omega⟩
  · exact ⟨h1, h2, h3⟩
theorem tabA_len (n : Nat) : (tabA.getD n []).length ≤ 8 := by
  by_cases h : n < 12
  · have : ∀ k : Fin 12, (tabA.getD k.val []).length ≤ 8 := by decide +kernel
    exact this ⟨n, h⟩
  · have : tabA.getD n [] = [] := by simp [List.getD, List.getElem?_eq_none (show tabA.length ≤ n by show 12 ≤ n; omega)]
    rw [this]; simp
theorem tabB_len (n : Nat) : (tabB.getD n []).length ≤ 1 := by
  by_cases h : n < 6
  · have : ∀ k : Fin 6, (tabB.getD k.val []).length ≤ 1 := by decide +kernel
    exact this ⟨n, h⟩
  · have : tabB.getD n [] = [] := by simp [List.getD, List.getElem?_eq_none (show tabB.length ≤ n by show 6 ≤ n; omega)]
    rw [this]; simp
def OkP (l : List Int) (m : Nat) (x : Pt) : Prop := OkD l x.1 ∧ x.2.length ≤ m
theorem pieces_ok {l : List Int} {m : Nat} {x : Pt} (h : OkP l m x) : ∀ n, OkP l (m + 9 * n) (piecesD x n)
  | 0 => h
  | n + 1 => by
    have ih := pieces_ok h n
    refine ⟨nextD_ok (nextD_ok ih.1), ?_⟩
    have h1 := tabA_len (nextV (piecesD x n).1 12).toNat
    have h2 := tabB_len (nextV (nextD (piecesD x n).1) 6).toNat
    have h3 := ih.2
    show (_ ++ _ ++ _ : List UInt8).length ≤ _
    simp only [List.length_append]
    omega
theorem bar_ok {l : List Int} {m k : Nat} {x : Pt} (h : OkP l m x) : OkP l (m + 1) (barD k x) := by
  unfold barD
  split
  · exact ⟨h.1, by have := h.2; simp; omega⟩
  · exact ⟨h.1, by have := h.2; omega⟩
theorem head_ok {l : List Int} {m k : Nat} {x : Pt} (h : OkP l m x) : OkP l (m + 1) (headD k x) := ⟨nextD_ok (bar_ok h).1, (bar_ok (k := k) h).2⟩
theorem branches_ok (l : List Int) : ∀ k, OkP l (28 * k) (branchesD l k)
  | 0 => ⟨nextD_ok ⟨rfl, by show (0 : Int) ≤ 0; omega, by show (0 : Int) ≤ _; omega⟩, by simp [branchesD]⟩
  | k + 1 => by
    have h := pieces_ok (head_ok (k := k) (branches_ok l k)) (1 + nextV (barD k (branchesD l k)).1 3).toNat
    have h3 := nextV_lt (barD k (branchesD l k)).1 (n := 3) (by omega)
    exact ⟨h.1, by have := h.2; show (piecesD _ _).2.length ≤ _; omega⟩

theorem pattern_ok (l : List Int) (hb0 : l.length < 4611686018427387904) : Pure Try.prog 9 [(eL eI 1 0) l] (vstr (patS l)) := by
  have hv0 := nextV_lt ({ L := l, At := 0 } : Draw) (n := 2) (by omega)
  refine pure_of (fn := Try.f9) Try.func9 rfl rfl fun F_ W0_ => ?_
  refine tr_seq ?_
  refine tr_r (vc := []) (E' := [(0, none, .p ((eL eI 1 0) l))]) (H' := []) [] [] [0] (by kernel_rfl) ?_ ?_
  · exact trivial
  refine tr_then ?_
  refine tr_seq ?_
  refine tr_r (vc := []) (E' := [(3, none, .ref 0 [])]) (H' := [.box (.p (.agg [(eL eI 1 0) l, .v (.int .i64 0)]))]) [] [] [3] (by kernel_rfl) ?_ ?_
  · exact trivial
  refine tr_then ?_
  refine tr_seq ?_
  refine tr_r (vc := []) (E' := [(3, none, .ref 0 []), (4, none, vstr ([] : List UInt8))]) (H' := [.box (.p (.agg [(eL eI 1 0) l, .v (.int .i64 0)]))]) [] [] [3, 4] (by kernel_rfl) ?_ ?_
  · exact trivial
  refine tr_then ?_
  refine tr_seq ?_
  refine tr_r (vc := [Mut Try.prog 30 (.agg [(eL eI 1 0) l, .v (.int .i64 0)]) [.v (.int .i64 2)] (eDraw (nextD ({ L := l, At := 0 } : Draw))) (vint .i64 (nextV ({ L := l, At := 0 } : Draw) 2)), (IntKind.wrap .i64 ((1 : Int) + (nextV ({ L := l, At := 0 } : Draw) 2))) = ((1 : Int) + (nextV ({ L := l, At := 0 } : Draw) 2))]) (E' := [(3, none, .ref 0 []), (4, none, vstr ([] : List UInt8)), (5, none, vint .i64 ((1 : Int) + (nextV ({ L := l, At := 0 } : Draw) 2)))]) (H' := [.box (.p (eDraw (nextD ({ L := l, At := 0 } : Draw))))]) [(2, vint .i64 ((1 : Int) + (nextV ({ L := l, At := 0 } : Draw) 2)))] [(1, .tup [.p (eDraw (nextD ({ L := l, At := 0 } : Draw))), vint .i64 (nextV ({ L := l, At := 0 } : Draw) 2)])] [3, 4, 5] (by kernel_rfl) ?_ ?_
  · refine al ?_ (al ?_ (trivial))
    · exact next_ok ({ L := l, At := 0 } : Draw) 2 (by omega) (by omega) (by first | omega | (simp; done) | (simp; omega) | (simp_all; done) | (simp_all; omega)) (by first | omega | (simp; done) | (simp; omega) | (simp_all; done) | (simp_all; omega)) (by first | omega | (simp; done) | (simp; omega) | (simp_all; done) | (simp_all; omega)) -- r3.0
    · exact wr64 (by omega) (by omega) (by omega) -- r3.1
  refine tr_then ?_
  refine tr_seq ?_
  refine tr_seq ?_
  refine tr_r (vc := []) (E' := [(3, none, .ref 0 []), (4, none, vstr ([] : List UInt8)), (5, none, vint .i64 ((1 : Int) + (nextV ({ L := l, At := 0 } : Draw) 2))), (6, none, vint .i64 0)]) (H' := [.box (.p (eDraw (nextD ({ L := l, At := 0 } : Draw))))]) [] [] [3, 4, 5, 6] (by kernel_rfl) ?_ ?_
  · exact trivial
  refine tr_then ?_
  refine tr_block ?_
  refine tr_loop (α := Nat) (fun z : Nat => (fun (k : Nat) => [(3, none, .ref 0 []), (4, none, vstr ((branchesD l k).2)), (5, none, vint .i64 ((1 : Int) + (nextV ({ L := l, At := 0 } : Draw) 2))), (6, none, vint .i64 ((k : Nat) : Int))]) z) (fun z : Nat => (fun (k : Nat) => [.box (.p (eDraw ((branchesD l k).1)))]) z) (fun z : Nat => (fun (k : Nat) => ((k : Int) ≤ 1 + nextV ({ L := l, At := 0 } : Draw) 2)) z) (fun z : Nat => (fun (k : Nat) => (1 + nextV ({ L := l, At := 0 } : Draw) 2 - k).toNat) z) 0 ?_ ?_ ?_
  · show ((0 : Int) ≤ 1 + nextV ({ L := l, At := 0 } : Draw) 2)
    · first | omega | (intro hg; simp at hg; omega) | (simp; done) | (simp_all; done) | (simp_all; omega) | grind -- l0.i.0
  · intro A_ W_ hS
    replace hS := sl_set (d := vstr ([] : List UInt8)) 4 (vstr ((branchesD l 0).2)) (by kernel_rfl) (eqD_str (by rfl)) hS -- l0.s4
    replace hS := sl_set (d := vint .i64 0) 6 (vint .i64 ((0 : Nat) : Int)) (by kernel_rfl) (eqD_int (by first | omega | (intro hg; simp at hg; omega) | (simp; done) | (simp_all; done) | (simp_all; omega) | grind)) hS -- l0.s6
    replace hS := sl_obj_imp (d := .p (eDraw (nextD ({ L := l, At := 0 } : Draw)))) 0 (.p (eDraw ((branchesD l 0).1))) (by kernel_rfl) (impC_eq (congrArg (fun x => D.p (eDraw x)) (a₁ := (nextD ({ L := l, At := 0 } : Draw))) (a₂ := ((branchesD l 0).1)) (by rfl))) hS -- l0.so0
    exact sl_weak (vc := []) [0] [3, 4, 5, 6] (by kernel_rfl) trivial hS
  · intro z hz
    revert z; intro k hz
    have hz : ((k : Int) ≤ 1 + nextV ({ L := l, At := 0 } : Draw) 2) := hz
    have hi0_0 := hz
    have hok := branches_ok l k
    have hk2 : k ≤ 2 := by omega
    refine tr_seq ?_
    refine tr_seq ?_
    refine tr_r (vc := []) (E' := [(3, none, .ref 0 []), (4, none, vstr ((branchesD l k).2)), (5, none, vint .i64 ((1 : Int) + (nextV ({ L := l, At := 0 } : Draw) 2))), (6, none, vint .i64 ((k : Nat) : Int)), (17, none, vbool (decide (((k : Nat) : Int) < ((1 : Int) + (nextV ({ L := l, At := 0 } : Draw) 2)))))]) (H' := [.box (.p (eDraw ((branchesD l k).1)))]) [] [] [3, 4, 5, 6, 17] (by kernel_rfl) ?_ ?_
    · exact trivial
    refine tr_then ?_
    refine tr_condP (decide (((k : Nat) : Int) < ((1 : Int) + (nextV ({ L := l, At := 0 } : Draw) 2)))) (((k : Nat) : Int) < ((1 : Int) + (nextV ({ L := l, At := 0 } : Draw) 2))) (by simp) (by kernel_rfl) (fun hc1 => ?_) (fun hc1 => ?_)
    · skip
      refine tr_skip ?_
      refine tr_then ?_
      refine tr_seq ?_
      refine tr_block ?_
      refine tr_join (α := Unit) (fun z : Unit => [(3, none, .ref 0 []), (4, none, vstr ((barD k (branchesD l k)).2)), (5, none, vint .i64 ((1 : Int) + (nextV ({ L := l, At := 0 } : Draw) 2))), (6, none, vint .i64 ((k : Nat) : Int))]) (fun z : Unit => [.box (.p (eDraw ((barD k (branchesD l k)).1)))]) (fun z : Unit => True) ?_ ?_
      · intro z hz
        have hbk := bar_ok (k := k) hok
        have hv1 := nextV_lt (barD k (branchesD l k)).1 (n := 3) (by omega)
        obtain ⟨⟨e0, e1, e2⟩, e3⟩ := hbk
        refine tr_seq ?_
        refine tr_r (vc := [Mut Try.prog 30 (eDraw ((barD k (branchesD l k)).1)) [.v (.int .i64 3)] (eDraw (nextD ((barD k (branchesD l k)).1))) (vint .i64 (nextV ((barD k (branchesD l k)).1) 3)), (IntKind.wrap .i64 ((1 : Int) + (nextV ((barD k (branchesD l k)).1) 3))) = ((1 : Int) + (nextV ((barD k (branchesD l k)).1) 3))]) (E' := [(3, none, .ref 0 []), (4, none, vstr ((barD k (branchesD l k)).2)), (5, none, vint .i64 ((1 : Int) + (nextV ({ L := l, At := 0 } : Draw) 2))), (6, none, vint .i64 ((k : Nat) : Int)), (7, none, vint .i64 ((1 : Int) + (nextV ((barD k (branchesD l k)).1) 3)))]) (H' := [.box (.p (eDraw (nextD ((barD k (branchesD l k)).1))))]) [(2, vint .i64 ((1 : Int) + (nextV ((barD k (branchesD l k)).1) 3)))] [(1, .tup [.p (eDraw (nextD ((barD k (branchesD l k)).1))), vint .i64 (nextV ((barD k (branchesD l k)).1) 3)])] [3, 4, 5, 6, 7] (by kernel_rfl) ?_ ?_
        · refine al ?_ (al ?_ (trivial))
          · exact next_ok ((barD k (branchesD l k)).1) 3 (by omega) (by omega) (by first | omega | (simp; done) | (simp; omega) | (simp_all; done) | (simp_all; omega)) (by first | omega | (simp; done) | (simp; omega) | (simp_all; done) | (simp_all; omega)) (by first | omega | (simp; done) | (simp; omega) | (simp_all; done) | (simp_all; omega)) -- r9.0
          · exact wr64 (by omega) (by omega) (by omega) -- r9.1
        refine tr_then ?_
        refine tr_seq ?_
        refine tr_r (vc := []) (E' := [(3, none, .ref 0 []), (4, none, vstr ((barD k (branchesD l k)).2)), (5, none, vint .i64 ((1 : Int) + (nextV ({ L := l, At := 0 } : Draw) 2))), (6, none, vint .i64 ((k : Nat) : Int)), (7, none, vint .i64 ((1 : Int) + (nextV ((barD k (branchesD l k)).1) 3))), (8, none, vint .i64 0)]) (H' := [.box (.p (eDraw (nextD ((barD k (branchesD l k)).1))))]) [] [] [3, 4, 5, 6, 7, 8] (by kernel_rfl) ?_ ?_
        · exact trivial
        refine tr_then ?_
        refine tr_block ?_
        refine tr_loop (α := Nat) (fun z : Nat => (fun (q : Nat) => [(3, none, .ref 0 []), (4, none, vstr ((piecesD (headD k (branchesD l k)) q).2)), (5, none, vint .i64 ((1 : Int) + (nextV ({ L := l, At := 0 } : Draw) 2))), (6, none, vint .i64 ((k : Nat) : Int)), (7, none, vint .i64 ((1 : Int) + (nextV ((barD k (branchesD l k)).1) 3))), (8, none, vint .i64 ((q : Nat) : Int))]) z) (fun z : Nat => (fun (q : Nat) => [.box (.p (eDraw ((piecesD (headD k (branchesD l k)) q).1)))]) z) (fun z : Nat => (fun (q : Nat) => ((q : Int) ≤ 1 + nextV (barD k (branchesD l k)).1 3)) z) (fun z : Nat => (fun (q : Nat) => (1 + nextV (barD k (branchesD l k)).1 3 - q).toNat) z) 0 ?_ ?_ ?_
        · show ((0 : Int) ≤ 1 + nextV (barD k (branchesD l k)).1 3)
          · first | omega | (intro hg; simp at hg; omega) | (simp; done) | (simp_all; done) | (simp_all; omega) | grind -- l1.i.0
        · intro A_ W_ hS
          replace hS := sl_set (d := vstr ((barD k (branchesD l k)).2)) 4 (vstr ((piecesD (headD k (branchesD l k)) 0).2)) (by kernel_rfl) (eqD_str (by rfl)) hS -- l1.s4
          replace hS := sl_set (d := vint .i64 0) 8 (vint .i64 ((0 : Nat) : Int)) (by kernel_rfl) (eqD_int (by first | omega | (intro hg; simp at hg; omega) | (simp; done) | (simp_all; done) | (simp_all; omega) | grind)) hS -- l1.s8
          replace hS := sl_obj_imp (d := .p (eDraw (nextD ((barD k (branchesD l k)).1)))) 0 (.p (eDraw ((piecesD (headD k (branchesD l k)) 0).1))) (by kernel_rfl) (impC_eq (congrArg (fun x => D.p (eDraw x)) (a₁ := (nextD ((barD k (branchesD l k)).1))) (a₂ := ((piecesD (headD k (branchesD l k)) 0).1)) (by rfl))) hS -- l1.so0
          exact sl_weak (vc := []) [0] [3, 4, 5, 6, 7, 8] (by kernel_rfl) trivial hS
        · intro z hz
          revert z; intro q hz
          have hz : ((q : Int) ≤ 1 + nextV (barD k (branchesD l k)).1 3) := hz
          have hi1_0 := hz
          have hpk := pieces_ok (head_ok (k := k) hok) q
          obtain ⟨⟨p0, p1, p2⟩, p3⟩ := hpk
          have hv2 := nextV_lt (piecesD (headD k (branchesD l k)) q).1 (n := 12) (by omega)
          have hv3 := nextV_lt (nextD (piecesD (headD k (branchesD l k)) q).1) (n := 6) (by omega)
          obtain ⟨r0, r1, r2⟩ := nextD_ok (l := l) (d := (piecesD (headD k (branchesD l k)) q).1) ⟨p0, p1, p2⟩
          refine tr_seq ?_
          refine tr_seq ?_
          refine tr_r (vc := []) (E' := [(3, none, .ref 0 []), (4, none, vstr ((piecesD (headD k (branchesD l k)) q).2)), (5, none, vint .i64 ((1 : Int) + (nextV ({ L := l, At := 0 } : Draw) 2))), (6, none, vint .i64 ((k : Nat) : Int)), (7, none, vint .i64 ((1 : Int) + (nextV ((barD k (branchesD l k)).1) 3))), (8, none, vint .i64 ((q : Nat) : Int)), (29, none, vbool (decide (((q : Nat) : Int) < ((1 : Int) + (nextV ((barD k (branchesD l k)).1) 3)))))]) (H' := [.box (.p (eDraw ((piecesD (headD k (branchesD l k)) q).1)))]) [] [] [3, 4, 5, 6, 7, 8, 29] (by kernel_rfl) ?_ ?_
          · exact trivial
          refine tr_then ?_
          refine tr_condP (decide (((q : Nat) : Int) < ((1 : Int) + (nextV ((barD k (branchesD l k)).1) 3)))) (((q : Nat) : Int) < ((1 : Int) + (nextV ((barD k (branchesD l k)).1) 3))) (by simp) (by kernel_rfl) (fun hc2 => ?_) (fun hc2 => ?_)
          · skip
            refine tr_skip ?_
            refine tr_then ?_
            refine tr_seq ?_
            refine tr_block ?_
            refine tr_dx (vc := [∀ j, j < 12 → ([.s ([97] : List UInt8), .s ([98] : List UInt8), .s ([99] : List UInt8), .s ([48] : List UInt8), .s ([91, 97, 45, 99, 93] : List UInt8), .s ([91, 97, 98, 93] : List UInt8), .s ([91, 48, 49, 93] : List UInt8), .s ([91, 45, 97, 93] : List UInt8), .s ([91, 97, 45, 102, 48, 45, 57, 93] : List UInt8), .s ([49] : List UInt8), .s ([102] : List UInt8), .s ([45] : List UInt8)] : List PV).getD j default = (fun i => eS (([([97] : List UInt8), ([98] : List UInt8), ([99] : List UInt8), ([48] : List UInt8), ([91, 97, 45, 99, 93] : List UInt8), ([91, 97, 98, 93] : List UInt8), ([91, 48, 49, 93] : List UInt8), ([91, 45, 97, 93] : List UInt8), ([91, 97, 45, 102, 48, 45, 57, 93] : List UInt8), ([49] : List UInt8), ([102] : List UInt8), ([45] : List UInt8)]).getD i [])) j, Mut Try.prog 30 (eDraw ((piecesD (headD k (branchesD l k)) q).1)) [.v (.int .i64 12)] (eDraw (nextD ((piecesD (headD k (branchesD l k)) q).1))) (vint .i64 (nextV ((piecesD (headD k (branchesD l k)) q).1) 12)), (0 : Int) ≤ (nextV ((piecesD (headD k (branchesD l k)) q).1) 12), (nextV ((piecesD (headD k (branchesD l k)) q).1) 12) < (([([97] : List UInt8), ([98] : List UInt8), ([99] : List UInt8), ([48] : List UInt8), ([91, 97, 45, 99, 93] : List UInt8), ([91, 97, 98, 93] : List UInt8), ([91, 48, 49, 93] : List UInt8), ([91, 45, 97, 93] : List UInt8), ([91, 97, 45, 102, 48, 45, 57, 93] : List UInt8), ([49] : List UInt8), ([102] : List UInt8), ([45] : List UInt8)]).length : Int), ((((piecesD (headD k (branchesD l k)) q).2).length + (([([97] : List UInt8), ([98] : List UInt8), ([99] : List UInt8), ([48] : List UInt8), ([91, 97, 45, 99, 93] : List UInt8), ([91, 97, 98, 93] : List UInt8), ([91, 48, 49, 93] : List UInt8), ([91, 45, 97, 93] : List UInt8), ([91, 97, 45, 102, 48, 45, 57, 93] : List UInt8), ([49] : List UInt8), ([102] : List UInt8), ([45] : List UInt8)]).getD ((nextV ((piecesD (headD k (branchesD l k)) q).1) 12).toNat) []).length : Nat) : Int) ≤ 9223372036854775807, ∀ j, j < 6 → ([.s ([] : List UInt8), .s ([] : List UInt8), .s ([] : List UInt8), .s ([63] : List UInt8), .s ([43] : List UInt8), .s ([42] : List UInt8)] : List PV).getD j default = (fun i => eS (([([] : List UInt8), ([] : List UInt8), ([] : List UInt8), ([63] : List UInt8), ([43] : List UInt8), ([42] : List UInt8)]).getD i [])) j, Mut Try.prog 30 (eDraw (nextD ((piecesD (headD k (branchesD l k)) q).1))) [.v (.int .i64 6)] (eDraw (nextD (nextD ((piecesD (headD k (branchesD l k)) q).1)))) (vint .i64 (nextV (nextD ((piecesD (headD k (branchesD l k)) q).1)) 6)), (0 : Int) ≤ (nextV (nextD ((piecesD (headD k (branchesD l k)) q).1)) 6), (nextV (nextD ((piecesD (headD k (branchesD l k)) q).1)) 6) < (([([] : List UInt8), ([] : List UInt8), ([] : List UInt8), ([63] : List UInt8), ([43] : List UInt8), ([42] : List UInt8)]).length : Int), (((((piecesD (headD k (branchesD l k)) q).2) ++ (([([97] : List UInt8), ([98] : List UInt8), ([99] : List UInt8), ([48] : List UInt8), ([91, 97, 45, 99, 93] : List UInt8), ([91, 97, 98, 93] : List UInt8), ([91, 48, 49, 93] : List UInt8), ([91, 45, 97, 93] : List UInt8), ([91, 97, 45, 102, 48, 45, 57, 93] : List UInt8), ([49] : List UInt8), ([102] : List UInt8), ([45] : List UInt8)]).getD ((nextV ((piecesD (headD k (branchesD l k)) q).1) 12).toNat) [])).length + (([([] : List UInt8), ([] : List UInt8), ([] : List UInt8), ([63] : List UInt8), ([43] : List UInt8), ([42] : List UInt8)]).getD ((nextV (nextD ((piecesD (headD k (branchesD l k)) q).1)) 6).toNat) []).length : Nat) : Int) ≤ 9223372036854775807]) (E' := [(3, none, .ref 0 []), (4, none, vstr ((((piecesD (headD k (branchesD l k)) q).2) ++ (([([97] : List UInt8), ([98] : List UInt8), ([99] : List UInt8), ([48] : List UInt8), ([91, 97, 45, 99, 93] : List UInt8), ([91, 97, 98, 93] : List UInt8), ([91, 48, 49, 93] : List UInt8), ([91, 45, 97, 93] : List UInt8), ([91, 97, 45, 102, 48, 45, 57, 93] : List UInt8), ([49] : List UInt8), ([102] : List UInt8), ([45] : List UInt8)]).getD ((nextV ((piecesD (headD k (branchesD l k)) q).1) 12).toNat) [])) ++ (([([] : List UInt8), ([] : List UInt8), ([] : List UInt8), ([63] : List UInt8), ([43] : List UInt8), ([42] : List UInt8)]).getD ((nextV (nextD ((piecesD (headD k (branchesD l k)) q).1)) 6).toNat) []))), (5, none, vint .i64 ((1 : Int) + (nextV ({ L := l, At := 0 } : Draw) 2))), (6, none, vint .i64 ((k : Nat) : Int)), (7, none, vint .i64 ((1 : Int) + (nextV ((barD k (branchesD l k)).1) 3))), (8, none, vint .i64 ((q : Nat) : Int))]) (H' := [.box (.p (eDraw (nextD (nextD ((piecesD (headD k (branchesD l k)) q).1)))))]) 1 [(3, 1, [0], [0]), (9, 1, [0], [0])] [] [(1, .p ((eL eS 1 []) ([([97] : List UInt8), ([98] : List UInt8), ([99] : List UInt8), ([48] : List UInt8), ([91, 97, 45, 99, 93] : List UInt8), ([91, 97, 98, 93] : List UInt8), ([91, 48, 49, 93] : List UInt8), ([91, 45, 97, 93] : List UInt8), ([91, 97, 45, 102, 48, 45, 57, 93] : List UInt8), ([49] : List UInt8), ([102] : List UInt8), ([45] : List UInt8)]))), (3, .tup [.p (eDraw (nextD ((piecesD (headD k (branchesD l k)) q).1))), vint .i64 (nextV ((piecesD (headD k (branchesD l k)) q).1) 12)]), (7, .p ((eL eS 1 []) ([([] : List UInt8), ([] : List UInt8), ([] : List UInt8), ([63] : List UInt8), ([43] : List UInt8), ([42] : List UInt8)]))), (9, .tup [.p (eDraw (nextD (nextD ((piecesD (headD k (branchesD l k)) q).1)))), vint .i64 (nextV (nextD ((piecesD (headD k (branchesD l k)) q).1)) 6)])] [3, 4, 5, 6, 7, 8] (by kernel_rfl) (by kernel_rfl) (by kernel_rfl) (by kernel_rfl) ?_ ?_
            · refine al ?_ (al ?_ (al ?_ (al ?_ (al ?_ (al ?_ (al ?_ (al ?_ (al ?_ (al ?_ (trivial))))))))))
              · exact lit_pv (e := eS) (d := []) (l := [([97] : List UInt8), ([98] : List UInt8), ([99] : List UInt8), ([48] : List UInt8), ([91, 97, 45, 99, 93] : List UInt8), ([91, 97, 98, 93] : List UInt8), ([91, 48, 49, 93] : List UInt8), ([91, 45, 97, 93] : List UInt8), ([91, 97, 45, 102, 48, 45, 57, 93] : List UInt8), ([49] : List UInt8), ([102] : List UInt8), ([45] : List UInt8)]) -- r13.0
              · exact next_ok ((piecesD (headD k (branchesD l k)) q).1) 12 (by omega) (by omega) (by first | omega | (simp; done) | (simp; omega) | (simp_all; done) | (simp_all; omega)) (by first | omega | (simp; done) | (simp; omega) | (simp_all; done) | (simp_all; omega)) (by first | omega | (simp; done) | (simp; omega) | (simp_all; done) | (simp_all; omega)) -- r13.1
              · first | omega | (intro hg; simp at hg; omega) | (simp; done) | (simp_all; done) | (simp_all; omega) | grind -- r13.2
              · first | omega | (intro hg; simp at hg; omega) | (simp; done) | (simp_all; done) | (simp_all; omega) | grind -- r13.3
              · have h1 : (tabA.getD (nextV (piecesD (headD k (branchesD l k)) q).1 12).toNat []).length ≤ 8 := tabA_len _; unfold tabA at h1; omega -- r13.4
              · exact lit_pv (e := eS) (d := []) (l := [([] : List UInt8), ([] : List UInt8), ([] : List UInt8), ([63] : List UInt8), ([43] : List UInt8), ([42] : List UInt8)]) -- r13.5
              · exact next_ok (nextD ((piecesD (headD k (branchesD l k)) q).1)) 6 (by omega) (by omega) (by first | omega | (simp; done) | (simp; omega) | (simp_all; done) | (simp_all; omega)) (by first | omega | (simp; done) | (simp; omega) | (simp_all; done) | (simp_all; omega)) (by first | omega | (simp; done) | (simp; omega) | (simp_all; done) | (simp_all; omega)) -- r13.6
              · first | omega | (intro hg; simp at hg; omega) | (simp; done) | (simp_all; done) | (simp_all; omega) | grind -- r13.7
              · first | omega | (intro hg; simp at hg; omega) | (simp; done) | (simp_all; done) | (simp_all; omega) | grind -- r13.8
              · have h1 : (tabA.getD (nextV (piecesD (headD k (branchesD l k)) q).1 12).toNat []).length ≤ 8 := tabA_len _; have h2 : (tabB.getD (nextV (nextD (piecesD (headD k (branchesD l k)) q).1) 6).toNat []).length ≤ 1 := tabB_len _; unfold tabA at h1; unfold tabB at h2; simp only [List.length_append]; omega -- r13.9
            refine in_n ?_
            refine tr_then ?_
            refine tr_r (vc := [(IntKind.wrap .i64 (((q : Nat) : Int) + 1)) = (((q + 1) : Nat) : Int)]) (E' := [(3, none, .ref 0 []), (4, none, vstr ((((piecesD (headD k (branchesD l k)) q).2) ++ (([([97] : List UInt8), ([98] : List UInt8), ([99] : List UInt8), ([48] : List UInt8), ([91, 97, 45, 99, 93] : List UInt8), ([91, 97, 98, 93] : List UInt8), ([91, 48, 49, 93] : List UInt8), ([91, 45, 97, 93] : List UInt8), ([91, 97, 45, 102, 48, 45, 57, 93] : List UInt8), ([49] : List UInt8), ([102] : List UInt8), ([45] : List UInt8)]).getD ((nextV ((piecesD (headD k (branchesD l k)) q).1) 12).toNat) [])) ++ (([([] : List UInt8), ([] : List UInt8), ([] : List UInt8), ([63] : List UInt8), ([43] : List UInt8), ([42] : List UInt8)]).getD ((nextV (nextD ((piecesD (headD k (branchesD l k)) q).1)) 6).toNat) []))), (5, none, vint .i64 ((1 : Int) + (nextV ({ L := l, At := 0 } : Draw) 2))), (6, none, vint .i64 ((k : Nat) : Int)), (7, none, vint .i64 ((1 : Int) + (nextV ((barD k (branchesD l k)).1) 3))), (8, none, vint .i64 (((q + 1) : Nat) : Int))]) (H' := [.box (.p (eDraw (nextD (nextD ((piecesD (headD k (branchesD l k)) q).1)))))]) [(1, vint .i64 (((q + 1) : Nat) : Int))] [] [3, 4, 5, 6, 7, 8] (by kernel_rfl) ?_ ?_
            · refine al ?_ (trivial)
              · exact wr64 (by omega) (by omega) (by omega) -- r12.0
            refine lp_end (q + 1) ?_ ?_ ?_
            · show (((q + 1) : Int) ≤ 1 + nextV (barD k (branchesD l k)).1 3)
              · first | omega | (intro hg; simp at hg; omega) | (simp; done) | (simp_all; done) | (simp_all; omega) | grind -- l1.n.0
            · show (1 + nextV (barD k (branchesD l k)).1 3 - (q + 1)).toNat < (1 + nextV (barD k (branchesD l k)).1 3 - q).toNat
              omega
            · intro A_ W_ hS
              replace hS := sl_set (d := vstr ((((piecesD (headD k (branchesD l k)) q).2) ++ (([([97] : List UInt8), ([98] : List UInt8), ([99] : List UInt8), ([48] : List UInt8), ([91, 97, 45, 99, 93] : List UInt8), ([91, 97, 98, 93] : List UInt8), ([91, 48, 49, 93] : List UInt8), ([91, 45, 97, 93] : List UInt8), ([91, 97, 45, 102, 48, 45, 57, 93] : List UInt8), ([49] : List UInt8), ([102] : List UInt8), ([45] : List UInt8)]).getD ((nextV ((piecesD (headD k (branchesD l k)) q).1) 12).toNat) [])) ++ (([([] : List UInt8), ([] : List UInt8), ([] : List UInt8), ([63] : List UInt8), ([43] : List UInt8), ([42] : List UInt8)]).getD ((nextV (nextD ((piecesD (headD k (branchesD l k)) q).1)) 6).toNat) []))) 4 (vstr ((piecesD (headD k (branchesD l k)) (q + 1)).2)) (by kernel_rfl) (eqD_str (by rfl)) hS -- l1.e4
              replace hS := sl_obj_imp (d := .p (eDraw (nextD (nextD ((piecesD (headD k (branchesD l k)) q).1))))) 0 (.p (eDraw ((piecesD (headD k (branchesD l k)) (q + 1)).1))) (by kernel_rfl) (impC_eq (congrArg (fun x => D.p (eDraw x)) (a₁ := (nextD (nextD ((piecesD (headD k (branchesD l k)) q).1)))) (a₂ := ((piecesD (headD k (branchesD l k)) (q + 1)).1)) (by rfl))) hS -- l1.eo0
              exact sl_weak (vc := []) [0] [3, 4, 5, 6, 7, 8] (by kernel_rfl) trivial hS
          · skip
            refine tr_exit ?_
            refine th_e ?_
            refine th_e ?_
            refine in_hit ?_
            refine in_n ?_
            refine tr_then ?_
            refine tr_r (vc := [(IntKind.wrap .i64 (((k : Nat) : Int) + 1)) = (((k + 1) : Nat) : Int)]) (E' := [(3, none, .ref 0 []), (4, none, vstr ((piecesD (headD k (branchesD l k)) q).2)), (5, none, vint .i64 ((1 : Int) + (nextV ({ L := l, At := 0 } : Draw) 2))), (6, none, vint .i64 (((k + 1) : Nat) : Int))]) (H' := [.box (.p (eDraw ((piecesD (headD k (branchesD l k)) q).1)))]) [(1, vint .i64 (((k + 1) : Nat) : Int))] [] [3, 4, 5, 6] (by kernel_rfl) ?_ ?_
            · refine al ?_ (trivial)
              · exact wr64 (by omega) (by omega) (by omega) -- r6.0
            refine lp_end (k + 1) ?_ ?_ ?_
            · show (((k + 1) : Int) ≤ 1 + nextV ({ L := l, At := 0 } : Draw) 2)
              · first | omega | (intro hg; simp at hg; omega) | (simp; done) | (simp_all; done) | (simp_all; omega) | grind -- l0.n.0
            · show (1 + nextV ({ L := l, At := 0 } : Draw) 2 - (k + 1)).toNat < (1 + nextV ({ L := l, At := 0 } : Draw) 2 - k).toNat
              omega
            · intro A_ W_ hS
              replace hS := sl_set (d := vstr ((piecesD (headD k (branchesD l k)) q).2)) 4 (vstr ((branchesD l (k + 1)).2)) (by kernel_rfl) (eqD_str (by rw [show q = (1 + nextV (barD k (branchesD l k)).1 3).toNat by omega]; rfl)) hS -- l0.e4
              replace hS := sl_obj_imp (d := .p (eDraw ((piecesD (headD k (branchesD l k)) q).1))) 0 (.p (eDraw ((branchesD l (k + 1)).1))) (by kernel_rfl) (impC_eq (congrArg (fun x => D.p (eDraw x)) (a₁ := ((piecesD (headD k (branchesD l k)) q).1)) (a₂ := ((branchesD l (k + 1)).1)) (by rw [show q = (1 + nextV (barD k (branchesD l k)).1 3).toNat by omega]; rfl))) hS -- l0.eo0
              exact sl_weak (vc := []) [0] [3, 4, 5, 6] (by kernel_rfl) trivial hS
      · skip
        refine tr_seq ?_
        refine tr_r (vc := []) (E' := [(3, none, .ref 0 []), (4, none, vstr ((branchesD l k).2)), (5, none, vint .i64 ((1 : Int) + (nextV ({ L := l, At := 0 } : Draw) 2))), (6, none, vint .i64 ((k : Nat) : Int)), (21, none, vbool (decide (0 < ((k : Nat) : Int))))]) (H' := [.box (.p (eDraw ((branchesD l k).1)))]) [] [] [3, 4, 5, 6, 21] (by kernel_rfl) ?_ ?_
        · exact trivial
        refine tr_then ?_
        refine tr_condP (decide (0 < ((k : Nat) : Int))) (0 < ((k : Nat) : Int)) (by simp) (by kernel_rfl) (fun hc3 => ?_) (fun hc3 => ?_)
        · skip
          refine tr_r (vc := [((((branchesD l k).2).length + ([124] : List UInt8).length : Nat) : Int) ≤ 9223372036854775807]) (E' := [(3, none, .ref 0 []), (4, none, vstr (((branchesD l k).2) ++ ([124] : List UInt8))), (5, none, vint .i64 ((1 : Int) + (nextV ({ L := l, At := 0 } : Draw) 2))), (6, none, vint .i64 ((k : Nat) : Int))]) (H' := [.box (.p (eDraw ((branchesD l k).1)))]) [] [] [3, 4, 5, 6] (by kernel_rfl) ?_ ?_
          · refine al ?_ (trivial)
            · have h0 := hok.2; simp only [List.length_cons, List.length_nil]; omega -- r8.0
          refine jn_end () ?_ ?_
          · exact trivial
          · intro A_ W_ hS
            replace hS := sl_set (d := vstr (((branchesD l k).2) ++ ([124] : List UInt8))) 4 (vstr ((barD k (branchesD l k)).2)) (by kernel_rfl) (eqD_str (by first | (unfold barD; rw [if_pos (by omega)]) | (unfold barD; rw [if_neg (by omega)]))) hS -- j9.s4
            replace hS := sl_obj_imp (d := .p (eDraw ((branchesD l k).1))) 0 (.p (eDraw ((barD k (branchesD l k)).1))) (by kernel_rfl) (impC_eq (congrArg (fun x => D.p (eDraw x)) (a₁ := ((branchesD l k).1)) (a₂ := ((barD k (branchesD l k)).1)) (by first | (unfold barD; rw [if_pos (by omega)]) | (unfold barD; rw [if_neg (by omega)])))) hS -- j9.so0
            exact sl_weak (vc := []) [0] [3, 4, 5, 6] (by kernel_rfl) trivial hS
        · skip
          refine tr_skip ?_
          refine jn_end () ?_ ?_
          · exact trivial
          · intro A_ W_ hS
            replace hS := sl_set (d := vstr ((branchesD l k).2)) 4 (vstr ((barD k (branchesD l k)).2)) (by kernel_rfl) (eqD_str (by first | (unfold barD; rw [if_pos (by omega)]) | (unfold barD; rw [if_neg (by omega)]))) hS -- j9.s4
            replace hS := sl_obj_imp (d := .p (eDraw ((branchesD l k).1))) 0 (.p (eDraw ((barD k (branchesD l k)).1))) (by kernel_rfl) (impC_eq (congrArg (fun x => D.p (eDraw x)) (a₁ := ((branchesD l k).1)) (a₂ := ((barD k (branchesD l k)).1)) (by first | (unfold barD; rw [if_pos (by omega)]) | (unfold barD; rw [if_neg (by omega)])))) hS -- j9.so0
            exact sl_weak (vc := []) [0] [3, 4, 5, 6] (by kernel_rfl) trivial hS
    · skip
      refine tr_exit ?_
      refine th_e ?_
      refine th_e ?_
      refine in_hit ?_
      refine tr_then ?_
      refine tr_seq ?_
      refine tr_r (vc := []) (E' := [(2, none, vstr ((branchesD l k).2))]) (H' := [.box (.p (eDraw ((branchesD l k).1)))]) [] [] [2] (by kernel_rfl) ?_ ?_
      · exact trivial
      refine tr_then ?_
      refine tr_pre (E' := [(2, none, vstr ((branchesD l k).2))]) (H' := []) (fun A_ W_ hS => sl_weak (vc := []) [] [2] (by kernel_rfl) trivial hS) ?_
      refine tr_pre (E' := (2, none, vstr (patS l)) :: [(2, none, vstr ((branchesD l k).2))]) (H' := []) (fun A_ W_ hS => sl_set_imp (d := vstr ((branchesD l k).2)) 2 (vstr (patS l)) (by kernel_rfl) ?_ hS) ?_
      · refine imp_eq (congrArg (fun x => D.p (eS x)) (a₁ := ((branchesD l k).2)) (a₂ := (patS l)) ?_) -- ret1.0
        rw [patS, show k = (1 + nextV ({ L := l, At := 0 } : Draw) 2).toNat by omega]
      refine tr_pre (E' := [(2, none, vstr (patS l))]) (H' := []) (fun A_ W_ hS => sl_proj (ts := [2]) (by kernel_rfl) hS) ?_
      exact tr_return' (vc := []) (ds := [vstr (patS l)]) (by kernel_rfl) trivial (by kernel_rfl) (fun _ _ h => h)
end Go.Proofs.Ytjnjmnfacaakfaa
namespace Go.Proofs.Ytjnjmnfacaakfaa
open Go.Eng

theorem langS_err (s : List UInt8) : (langS s).2 = 0 ∨ (langS s).2 = 2 ∨ (langS s).2 = 5 := by
  unfold langS
  split
  · simp
  · split
    · simp
    · split <;> simp
theorem bfs_len {ps : List Place} : ∀ {n k : Nat} {L : List Pl} {A : List Bool} {N : List (List Int)} {x : Lang}, A.length + n ≤ 17 → bfsM ps n L k A N = some x → x.Accept.length ≤ 17
  | 0, _, _, _, _, _, _, h => by cases h
  | n + 1, k, L, A, N, x, h1, h => by
    unfold bfsM at h
    split at h
    · split at h
      · cases h
      · exact bfs_len (by simp; omega) h
    · cases h
      show A.length ≤ 17
      omega
theorem langS_len (s : List UInt8) : (langS s).1.Accept.length ≤ 17 := by
  unfold langS
  split
  · simp [dLang]
  · split
    · simp [dLang]
    · split
      · rename_i l h
        exact bfs_len (A := []) (by simp) h
      · simp [dLang]
def statesS (s : List UInt8) : Int := if (langS s).2 ≠ 0 then -(langS s).2 else ((langS s).1.Accept.length : Int)

theorem states_ok (s : List UInt8) (hb0 : s.length < 4611686018427387904) : Pure Try.prog 29 [.s s] (vint .i64 (statesS s)) := by
  have he := langS_err s
  have hl := langS_len s
  refine pure_of (fn := Try.f29) Try.func29 rfl rfl fun F_ W0_ => ?_
  refine tr_seq ?_
  refine tr_r (vc := []) (E' := [(0, none, vstr s)]) (H' := []) [] [] [0] (by kernel_rfl) ?_ ?_
  · exact trivial
  refine tr_then ?_
  refine tr_seq ?_
  refine tr_r (vc := [Pure Try.prog 11 [.s s] (.tup [.p (eLang ((langS s).1)), vint .i64 ((langS s).2)])]) (E' := [(3, none, .ref 0 []), (4, none, vint .i64 ((langS s).2))]) (H' := [.box (.p (eLang ((langS s).1)))]) [] [(1, .tup [.p (eLang ((langS s).1)), vint .i64 ((langS s).2)])] [3, 4] (by kernel_rfl) ?_ ?_
  · refine al ?_ (trivial)
    · exact Parse_ok _ (by first | omega | (intro hg; simp at hg; omega) | (simp; done) | (simp_all; done) | (simp_all; omega) | grind) -- r1.0
  refine tr_then ?_
  refine tr_seq ?_
  refine tr_seq ?_
  refine tr_r (vc := []) (E' := [(3, none, .ref 0 []), (4, none, vint .i64 ((langS s).2)), (11, none, vbool (((langS s).2) != 0))]) (H' := [.box (.p (eLang ((langS s).1)))]) [] [] [3, 4, 11] (by kernel_rfl) ?_ ?_
  · exact trivial
  refine tr_then ?_
  refine tr_condP (((langS s).2) != 0) (((langS s).2) ≠ 0) (by simp) (by kernel_rfl) (fun hc1 => ?_) (fun hc1 => ?_)
  · skip
    refine tr_seq ?_
    refine tr_r (vc := [(IntKind.wrap .i64 (0 - ((langS s).2))) = (-((langS s).2))]) (E' := [(2, none, vint .i64 (-((langS s).2)))]) (H' := [.box (.p (eLang ((langS s).1)))]) [(1, vint .i64 (-((langS s).2)))] [] [2] (by kernel_rfl) ?_ ?_
    · refine al ?_ (trivial)
      · exact wr64 (by omega) (by omega) (by omega) -- r3.0
    refine tr_then ?_
    refine tr_pre (E' := [(2, none, vint .i64 (-((langS s).2)))]) (H' := []) (fun A_ W_ hS => sl_weak (vc := []) [] [2] (by kernel_rfl) trivial hS) ?_
    refine tr_pre (E' := (2, none, vint .i64 (statesS s)) :: [(2, none, vint .i64 (-((langS s).2)))]) (H' := []) (fun A_ W_ hS => sl_set_imp (d := vint .i64 (-((langS s).2))) 2 (vint .i64 (statesS s)) (by kernel_rfl) ?_ hS) ?_
    · refine imp_eq (congrArg (fun x => D.p (eI x)) (a₁ := (-((langS s).2))) (a₂ := (statesS s)) ?_) -- ret1.0
      first | (rw [statesS, if_pos (by omega)]; done) | (rw [statesS, if_neg (by omega)]; done)
    refine tr_pre (E' := [(2, none, vint .i64 (statesS s))]) (H' := []) (fun A_ W_ hS => sl_proj (ts := [2]) (by kernel_rfl) hS) ?_
    exact tr_return' (vc := []) (ds := [vint .i64 (statesS s)]) (by kernel_rfl) trivial (by kernel_rfl) (fun _ _ h => h)
  · skip
    refine tr_skip ?_
    refine tr_then ?_
    refine tr_seq ?_
    refine tr_r (vc := []) (E' := [(2, none, vint .i64 (((((langS s).1).Accept).length : Nat) : Int))]) (H' := [.box (.p (eLang ((langS s).1)))]) [] [] [2] (by kernel_rfl) ?_ ?_
    · exact trivial
    refine tr_then ?_
    refine tr_pre (E' := [(2, none, vint .i64 (((((langS s).1).Accept).length : Nat) : Int))]) (H' := []) (fun A_ W_ hS => sl_weak (vc := []) [] [2] (by kernel_rfl) trivial hS) ?_
    refine tr_pre (E' := (2, none, vint .i64 (statesS s)) :: [(2, none, vint .i64 (((((langS s).1).Accept).length : Nat) : Int))]) (H' := []) (fun A_ W_ hS => sl_set_imp (d := vint .i64 (((((langS s).1).Accept).length : Nat) : Int)) 2 (vint .i64 (statesS s)) (by kernel_rfl) ?_ hS) ?_
    · refine imp_eq (congrArg (fun x => D.p (eI x)) (a₁ := (((((langS s).1).Accept).length : Nat) : Int)) (a₂ := (statesS s)) ?_) -- ret2.0
      first | (rw [statesS, if_pos (by omega)]; done) | (rw [statesS, if_neg (by omega)]; done)
    refine tr_pre (E' := [(2, none, vint .i64 (statesS s))]) (H' := []) (fun A_ W_ hS => sl_proj (ts := [2]) (by kernel_rfl) hS) ?_
    exact tr_return' (vc := []) (ds := [vint .i64 (statesS s)]) (by kernel_rfl) trivial (by kernel_rfl) (fun _ _ h => h)
end Go.Proofs.Ytjnjmnfacaakfaa
namespace Go.Proofs.Ytjnjmnfacaakfaa
open Go.Eng
structure Aut (σ : Type) where
  step : σ → Nat → σ
  none : σ → Bool
  acc : σ → Bool
  same : σ → σ → Bool
section
variable {σ τ : Type}
def idxG (A : Aut σ) (x : σ) : List σ → Nat → Option Nat
  | [], _ => .none
  | y :: L, i => if A.same y x = true then some i else idxG A x L (i + 1)
def rowG (A : Aut σ) (x : σ) (L : List σ) : Nat → List σ × List Int
  | 0 => (L, [])
  | c + 1 => if A.none (A.step x c) = true then ((rowG A x L c).1, (rowG A x L c).2 ++ [-1]) else
    match idxG A (A.step x c) (rowG A x L c).1 0 with
    | some i => ((rowG A x L c).1, (rowG A x L c).2 ++ [(i : Int)])
    | .none => ((rowG A x L c).1 ++ [A.step x c], (rowG A x L c).2 ++ [((rowG A x L c).1.length : Int)])
def bfsG (A : Aut σ) : Nat → List σ → Nat → List Bool → List (List Int) → Option Lang
  | 0, _, _, _, _ => .none
  | n + 1, L, k, B, N => match L[k]? with
    | some x => if 16 < (rowG A x L 37).1.length then .none else bfsG A n (rowG A x L 37).1 (k + 1) (B ++ [A.acc x]) (N ++ [(rowG A x L 37).2])
    | .none => some { Accept := B, Next := N }
/-- Two searches that go side by side. -/
structure Side (A : Aut σ) (B : Aut τ) (R : σ → τ → Prop) : Prop where
  step : ∀ x y c, c < 37 → R x y → R (A.step x c) (B.step y c)
  none : ∀ x y, R x y → A.none x = B.none y
  acc : ∀ x y, R x y → A.acc x = B.acc y
  same : ∀ x y x' y', R x y → R x' y' → A.same x x' = B.same y y'
variable {A : Aut σ} {B : Aut τ} {R : σ → τ → Prop}
inductive Rel (R : σ → τ → Prop) : List σ → List τ → Prop where
  | nil : Rel R [] []
  | cons {x y L M} : R x y → Rel R L M → Rel R (x :: L) (y :: M)
theorem Rel.length {L : List σ} {M : List τ} (h : Rel R L M) : L.length = M.length := by
  induction h with
  | nil => rfl
  | cons _ _ ih => simp [ih]
theorem Rel.snoc {L : List σ} {M : List τ} {x : σ} {y : τ} (h : Rel R L M) (hx : R x y) : Rel R (L ++ [x]) (M ++ [y]) := by
  induction h with
  | nil => exact .cons hx .nil
  | cons h1 _ ih => exact .cons h1 ih
theorem Rel.get {L : List σ} {M : List τ} (h : Rel R L M) : ∀ k : Nat, (L[k]? = .none ∧ M[k]? = .none) ∨ ∃ x y, L[k]? = some x ∧ M[k]? = some y ∧ R x y := by
  induction h with
  | nil => intro k; simp
  | cons h1 _ ih =>
    intro k
    cases k with
    | zero => exact .inr ⟨_, _, rfl, rfl, h1⟩
    | succ k => simpa using ih k
theorem idxG_side (hs : Side A B R) {x : σ} {y : τ} (hx : R x y) {L : List σ} {M : List τ} (h : Rel R L M) : ∀ i, idxG A x L i = idxG B y M i := by
  induction h with
  | nil => intro i; rfl
  | cons h1 _ ih =>
    intro i
    simp only [idxG]
    rw [hs.same _ _ _ _ h1 hx, ih]
theorem rowG_side (hs : Side A B R) {x : σ} {y : τ} (hx : R x y) {L : List σ} {M : List τ} (h : Rel R L M) : ∀ c, c ≤ 37 → Rel R (rowG A x L c).1 (rowG B y M c).1 ∧ (rowG A x L c).2 = (rowG B y M c).2
  | 0, _ => ⟨h, rfl⟩
  | c + 1, hc => by
    obtain ⟨h1, h2⟩ := rowG_side hs hx h c (by omega)
    have h3 := hs.step x y c (by omega) hx
    have h4 := idxG_side hs h3 h1 0
    have h5 := h1.length
    unfold rowG
    rw [hs.none _ _ h3]
    split
    · exact ⟨h1, by rw [h2]⟩
    · rw [h4]
      split
      · exact ⟨h1, by rw [h2]⟩
      · exact ⟨h1.snoc h3, by rw [h2, h5]⟩
theorem bfsG_side (hs : Side A B R) : ∀ {n k : Nat} {L : List σ} {M : List τ} {b : List Bool} {N : List (List Int)}, Rel R L M → bfsG A n L k b N = bfsG B n M k b N
  | 0, _, _, _, _, _, _ => rfl
  | n + 1, k, L, M, b, N, h => by
    unfold bfsG
    rcases h.get k with ⟨h1, h2⟩ | ⟨x, y, h1, h2, h3⟩
    · rw [h1, h2]
    · rw [h1, h2]
      obtain ⟨q1, q2⟩ := rowG_side hs h3 h 37 (Nat.le_refl _)
      simp only
      rw [q1.length, q2, hs.acc _ _ h3]
      split
      · rfl
      · exact bfsG_side hs q1
end
/-- The program's search is one of these. -/
def autP (ps : List Place) : Aut Pl := { step := fun S c => stepS ps S c, none := fun S => decide (keyS S = [0, 0]), acc := acceptS ps, same := fun S T => decide (keyS S = keyS T) }
theorem idx_G (ps : List Place) (S : Pl) : ∀ (L : List Pl) (i : Nat), idx S L i = idxG (autP ps) S L i
  | [], _ => rfl
  | T :: L, i => by simp only [idx, idxG, autP, decide_eq_true_eq]; rw [idx_G ps S L (i + 1)]; rfl
theorem row_G (ps : List Place) (S : Pl) (L : List Pl) : ∀ c, rowAt ps S L c = rowG (autP ps) S L c
  | 0 => rfl
  | c + 1 => by
    unfold rowAt rowG
    rw [row_G ps S L c]
    have e : (autP ps).step S c = stepS ps S c := rfl
    rw [e, ← idx_G]
    by_cases h : keyS (stepS ps S c) = [0, 0]
    · rw [if_pos h, if_pos (show (autP ps).none (stepS ps S c) = true from decide_eq_true h)]
    · rw [if_neg h, if_neg (show ¬ (autP ps).none (stepS ps S c) = true from fun h' => h (of_decide_eq_true h'))]
      rfl
theorem bfs_G (ps : List Place) : ∀ (n k : Nat) (L : List Pl) (b : List Bool) (N : List (List Int)), bfsM ps n L k b N = bfsG (autP ps) n L k b N
  | 0, _, _, _, _ => rfl
  | n + 1, k, L, b, N => by
    unfold bfsM bfsG
    by_cases h : k < L.length
    · rw [if_pos h, List.getElem?_eq_getElem h]
      have e : L.getD k noSet = L[k] := by simp [List.getD, List.getElem?_eq_getElem h]
      simp only [e]
      rw [row_G]
      split
      · rfl
      · rw [bfs_G]; rfl
    · rw [if_neg h, List.getElem?_eq_none (by omega)]
end Go.Proofs.Ytjnjmnfacaakfaa
namespace Go.Proofs.Ytjnjmnfacaakfaa
open Go.Eng
def clF (ps : List Place) (m : Nat) : Nat → Nat
  | 0 => m
  | i + 1 => if (clF ps m i).testBit i = true ∧ (ps.getD i dPlace).fMore ≠ 0 then clF ps m i ||| 2 ^ (i + 1) else clF ps m i
def closedF (ps : List Place) (m : Nat) : Nat := clF ps m ps.length
def spF (ps : List Place) (m : Nat) (c : Int) : Nat → Nat
  | 0 => 0
  | i + 1 => if m.testBit i = true ∧ bitOf (ps.getD i dPlace).fSet c = true then (if (ps.getD i dPlace).fMore = 42 then spF ps m c i ||| 2 ^ i else spF ps m c i ||| 2 ^ (i + 1)) else spF ps m c i
def stepF (ps : List Place) (m : Nat) (c : Int) : Nat := closedF ps (spF ps m c ps.length)
def accF (ps : List Place) (m : Nat) : Nat → Bool
  | 0 => false
  | i + 1 => accF ps m i || ((ps.getD i dPlace).fEnd && m.testBit i)
def autF (ps : List Place) : Aut Nat := { step := fun m c => stepF ps m c, none := fun m => m == 0, acc := fun m => accF ps m ps.length, same := fun m n => m == n }
def Bits (S : Pl) (m : Nat) : Prop := m < 2 ^ 128 ∧ ∀ i, i < 128 → S i = m.testBit i
theorem bits_upd {S : Pl} {m n : Nat} (h : Bits S m) (hn : n < 128) : Bits (upd S n true) (m ||| 2 ^ n) := by
  refine ⟨Nat.or_lt_two_pow h.1 (Nat.pow_lt_pow_right (by omega) hn), fun i hi => ?_⟩
  rw [Nat.testBit_or, Nat.testBit_two_pow]
  unfold upd
  by_cases hj : i = n
  · subst hj; simp
  · have : decide (n = i) = false := by simp; omega
    rw [this, if_neg hj, Bool.or_false]
    exact h.2 i hi
theorem cl_bits {ps : List Place} {S : Pl} {m : Nat} (h : Bits S m) : ∀ i, i ≤ 127 → Bits (cl ps S i) (clF ps m i)
  | 0, _ => h
  | i + 1, hi => by
    have ih := cl_bits (ps := ps) h i (by omega)
    unfold cl clF
    rw [ih.2 i (by omega)]
    split
    · exact bits_upd ih (by omega)
    · exact ih
theorem sp_bits {ps : List Place} {S : Pl} {m : Nat} {c : Int} (h : Bits S m) : ∀ i, i ≤ 127 → Bits (sp ps S c i) (spF ps m c i)
  | 0, _ => ⟨Nat.pos_of_ne_zero (by simp), fun i _ => by simp [sp, spF]⟩
  | i + 1, hi => by
    have ih := sp_bits (ps := ps) (c := c) h i (by omega)
    unfold sp spF
    rw [h.2 i (by omega)]
    split
    · split
      · exact bits_upd ih (by omega)
      · exact bits_upd ih (by omega)
    · exact ih
theorem acc_bits {ps : List Place} {S : Pl} {m : Nat} (h : Bits S m) : ∀ i, i ≤ 128 → acc ps S i = accF ps m i
  | 0, _ => rfl
  | i + 1, hi => by
    unfold acc accF
    rw [acc_bits h i (by omega), h.2 i (by omega)]
theorem key_same {S T : Pl} {m n : Nat} (h : Bits S m) (k : Bits T n) : keyS S = keyS T ↔ m = n := by
  constructor
  · intro e
    have e0 : setW S 0 = setW T 0 := congrArg (fun l => l.getD 0 0) e
    have e1 : setW S 1 = setW T 1 := congrArg (fun l => l.getD 1 0) e
    have e0 := wordN_inj (Int.ofNat.inj e0)
    have e1 := wordN_inj (Int.ofNat.inj e1)
    apply Nat.eq_of_testBit_eq
    intro i
    by_cases hi : i < 128
    · rw [← h.2 i hi, ← k.2 i hi]
      by_cases hj : i < 64
      · have := e0 i hj
        simpa using this
      · have : S (64 * 1 + (i - 64)) = T (64 * 1 + (i - 64)) := e1 (i - 64) (by omega)
        rwa [show 64 * 1 + (i - 64) = i by omega] at this
    · have hp : 2 ^ 128 ≤ 2 ^ i := Nat.pow_le_pow_right (by omega) (by omega)
      rw [Nat.testBit_lt_two_pow (Nat.lt_of_lt_of_le h.1 hp), Nat.testBit_lt_two_pow (Nat.lt_of_lt_of_le k.1 hp)]
  · rintro rfl
    have key : ∀ q, q < 2 → setW S q = setW T q := by
      intro q hq
      unfold setW
      congr 1
      exact wordN_congr fun i hi => by rw [h.2 _ (by omega), k.2 _ (by omega)]
    unfold keyS
    rw [key 0 (by omega), key 1 (by omega)]
theorem bits_none : Bits noSet 0 := ⟨Nat.pos_of_ne_zero (by simp), fun i _ => by simp [noSet]⟩
theorem keyS_none : keyS noSet = [0, 0] := by decide +kernel
theorem side_F {ps : List Place} (hp : ps.length ≤ 127) : Side (autP ps) (autF ps) Bits where
  step := fun S m c _ h => cl_bits (sp_bits h _ hp) _ hp
  none := fun S m h => by
    show decide (keyS S = [0, 0]) = (m == 0)
    rw [← keyS_none]
    have := key_same h bits_none
    by_cases e : m = 0
    · rw [decide_eq_true (this.2 e)]; simp [e]
    · rw [decide_eq_false (fun h' => e (this.1 h'))]; simp [e]
  acc := fun S m h => acc_bits h _ (by omega)
  same := fun S m S' m' h h' => by
    show decide (keyS S = keyS S') = (m == m')
    have := key_same h h'
    by_cases e : m = m'
    · rw [decide_eq_true (this.2 e)]; simp [e]
    · rw [decide_eq_false (fun h' => e (this.1 h'))]; simp [e]
def startF (st : List Int) : Nat → Nat
  | 0 => 0
  | i + 1 => startF st i ||| 2 ^ (st.getD i 0).toNat
theorem start_bits {st : List Int} (h : ∀ i, i < st.length → 0 ≤ st.getD i 0 ∧ st.getD i 0 < 128) : ∀ i, i ≤ st.length → Bits (startAt st i) (startF st i)
  | 0, _ => bits_none
  | i + 1, hi => bits_upd (start_bits h i (by omega)) (by have := h i (by omega); omega)
def langF (s : List UInt8) : Lang × Int := if 64 < s.length then (dLang, 2) else if (parseS s).isSome = false then (dLang, 5) else
  match bfsG (autF (plOf (parseS s))) 17 [closedF (plOf (parseS s)) (startF (stOf (parseS s)) (stOf (parseS s)).length)] 0 [] [] with
  | some l => (l, 0)
  | none => (dLang, 2)
theorem langS_F (s : List UInt8) : langS s = langF s := by
  unfold langS langF
  split
  · rfl
  · rename_i hs
    split
    · rfl
    · obtain ⟨h1, h2, h3⟩ := parseS_bound (s := s)
      have hp : (plOf (parseS s)).length ≤ 127 := by omega
      have hR : Bits (startS (parseS s)) (closedF (plOf (parseS s)) (startF (stOf (parseS s)) (stOf (parseS s)).length)) := cl_bits (start_bits (fun i hi => by have := h1 i hi; omega) _ (Nat.le_refl _)) _ hp
      rw [bfs_G, bfsG_side (side_F hp) (.cons hR .nil)]
      generalize bfsG (autF (plOf (parseS s))) 17 [closedF (plOf (parseS s)) (startF (stOf (parseS s)) (stOf (parseS s)).length)] 0 [] [] = q
      cases q <;> rfl
def pat1 : List UInt8 := [91, 97, 45, 99, 93, 43, 49, 63]
def lang1 : Lang := { Accept := [false, true, true], Next := [[1, 1, 1] ++ List.replicate 34 (-1), [1, 1, 1] ++ List.replicate 24 (-1) ++ [2] ++ List.replicate 9 (-1), List.replicate 37 (-1)] }
theorem ex1 : langS pat1 = (lang1, 0) := by rw [langS_F]; decide +kernel
def lang2 : Lang := { Accept := [true], Next := [List.replicate 23 (-1) ++ [0] ++ List.replicate 13 (-1)] }
theorem ex2 : langS [120, 42] = (lang2, 0) := by rw [langS_F]; decide +kernel
theorem ex3 : has lang1 [97, 98, 99, 97, 49] = true ∧ has lang1 [97] = true ∧ has lang1 [49] = false ∧ has lang1 [97, 49, 49] = false := by decide +kernel
theorem ex4 : statesS pat1 = 3 := by unfold statesS; rw [ex1]; decide +kernel
theorem ex5 : statesS [97, 98, 124, 97, 99] = 4 ∧ statesS [120, 42] = 1 ∧ 0 < statesS [91, 45, 97, 93, 98, 42, 124, 99] := by unfold statesS; simp only [langS_F]; decide +kernel
theorem ex6 : statesS [91, 97, 45, 93] = -5 ∧ statesS [97, 43, 43] = -5 ∧ statesS [91, 98, 45, 97, 93] = -5 ∧ statesS [] = -5 := by unfold statesS; simp only [langS_F]; decide +kernel
theorem ex7 : firstS lang1 5 = [[97], [98], [99], [97, 97], [97, 98]] := by decide +kernel
theorem ex8 : firstS lang2 3 = [[], [120], [120, 120]] := by decide +kernel
end Go.Proofs.Ytjnjmnfacaakfaa
namespace Go.Proofs.Ytjnjmnfacaakfaa
open Go.Eng

theorem sanity_ok  : Pure Try.prog 8 [] (vbool true) := by
  refine pure_of (fn := Try.f8) Try.func8 rfl rfl fun F_ W0_ => ?_
  refine tr_seq ?_
  refine tr_r (vc := []) (E' := []) (H' := []) [] [] [] (by kernel_rfl) ?_ ?_
  · exact trivial
  refine tr_then ?_
  refine tr_seq ?_
  refine tr_r (vc := [Pure Try.prog 11 [.s ([91, 97, 45, 99, 93, 43, 49, 63] : List UInt8)] (.tup [.p (eLang ((langS ([91, 97, 45, 99, 93, 43, 49, 63] : List UInt8)).1)), vint .i64 ((langS ([91, 97, 45, 99, 93, 43, 49, 63] : List UInt8)).2)]), (.p (eLang ((langS ([91, 97, 45, 99, 93, 43, 49, 63] : List UInt8)).1)) : D) = .p (eLang lang1), ((langS ([91, 97, 45, 99, 93, 43, 49, 63] : List UInt8)).2) = 0]) (E' := [(1, none, .ref 0 []), (2, none, vint .i64 0)]) (H' := [.box (.p (eLang lang1))]) [(2, .p (eLang lang1)), (3, vint .i64 0)] [(0, .tup [.p (eLang ((langS ([91, 97, 45, 99, 93, 43, 49, 63] : List UInt8)).1)), vint .i64 ((langS ([91, 97, 45, 99, 93, 43, 49, 63] : List UInt8)).2)])] [1, 2] (by kernel_rfl) ?_ ?_
  · refine al ?_ (al ?_ (al ?_ (trivial)))
    · exact Parse_ok _ (by first | omega | (intro hg; simp at hg; omega) | (simp; done) | (simp_all; done) | (simp_all; omega) | grind) -- r1.0
    · exact congrArg (fun x => D.p (eLang x)) (congrArg Prod.fst ex1) -- r1.1
    · exact congrArg Prod.snd ex1 -- r1.2
  refine tr_then ?_
  refine tr_seq ?_
  refine tr_seq ?_
  refine tr_r (vc := [((0 : Int) != 0) = false, (!false) = true → (!false) = true, (!false) = true → (Pure Try.prog 16 [eLang lang1, .s ([97, 98, 99, 97, 49] : List UInt8)] (vbool (has lang1 ([97, 98, 99, 97, 49] : List UInt8)))), (!false) = true → (!false) = true, (!false) = true → ((!(has lang1 ([97, 98, 99, 97, 49] : List UInt8))) = false), (!false) = true → (!false) = true, (!(false || false)) = true → (!(false || false)) = true, (!(false || false)) = true → (Pure Try.prog 16 [eLang lang1, .s ([97] : List UInt8)] (vbool (has lang1 ([97] : List UInt8)))), (!(false || false)) = true → (!(false || false)) = true, (!(false || false)) = true → ((!(has lang1 ([97] : List UInt8))) = false), (!(false || false)) = true → (!(false || false)) = true, (!((false || false) || false)) = true → (!((false || false) || false)) = true, (!((false || false) || false)) = true → (Pure Try.prog 16 [eLang lang1, .s ([49] : List UInt8)] (vbool (has lang1 ([49] : List UInt8)))), (!((false || false) || false)) = true → (!((false || false) || false)) = true, (!(((false || false) || false) || (has lang1 ([49] : List UInt8)))) = true → (!(((false || false) || false) || (has lang1 ([49] : List UInt8)))) = true, (!(((false || false) || false) || (has lang1 ([49] : List UInt8)))) = true → (Pure Try.prog 16 [eLang lang1, .s ([97, 49, 49] : List UInt8)] (vbool (has lang1 ([97, 49, 49] : List UInt8)))), (!(((false || false) || false) || (has lang1 ([49] : List UInt8)))) = true → (!(((false || false) || false) || (has lang1 ([49] : List UInt8)))) = true]) (E' := [(1, none, .ref 0 []), (31, none, vbool ((((false || false) || false) || (has lang1 ([49] : List UInt8))) || (has lang1 ([97, 49, 49] : List UInt8))))]) (H' := [.box (.p (eLang lang1))]) [(1, vbool false), (5, vbool false), (10, vbool false)] [(4, vbool (has lang1 ([97, 98, 99, 97, 49] : List UInt8))), (9, vbool (has lang1 ([97] : List UInt8))), (14, vbool (has lang1 ([49] : List UInt8))), (18, vbool (has lang1 ([97, 49, 49] : List UInt8)))] [1, 31] (by kernel_rfl) ?_ ?_
  · refine al ?_ (al ?_ (al ?_ (al ?_ (al ?_ (al ?_ (al ?_ (al ?_ (al ?_ (al ?_ (al ?_ (al ?_ (al ?_ (al ?_ (al ?_ (al ?_ (al ?_ (trivial)))))))))))))))))
    · first | omega | (intro hg; simp at hg; omega) | (simp; done) | (simp_all; done) | (simp_all; omega) | grind -- r2.0
    · exact id -- r2.1
    · intro _; exact has_ok _ _ (by first | omega | (intro hg; simp at hg; omega) | (simp; done) | (simp_all; done) | (simp_all; omega) | grind) -- r2.2
    · exact id -- r2.3
    · intro _; rw [ex3.1]; rfl -- r2.4
    · exact id -- r2.5
    · exact id -- r2.6
    · intro _; exact has_ok _ _ (by first | omega | (intro hg; simp at hg; omega) | (simp; done) | (simp_all; done) | (simp_all; omega) | grind) -- r2.7
    · exact id -- r2.8
    · intro _; rw [ex3.2.1]; rfl -- r2.9
    · exact id -- r2.10
    · exact id -- r2.11
    · intro _; exact has_ok _ _ (by first | omega | (intro hg; simp at hg; omega) | (simp; done) | (simp_all; done) | (simp_all; omega) | grind) -- r2.12
    · exact id -- r2.13
    · exact id -- r2.14
    · intro _; exact has_ok _ _ (by first | omega | (intro hg; simp at hg; omega) | (simp; done) | (simp_all; done) | (simp_all; omega) | grind) -- r2.15
    · exact id -- r2.16
  refine tr_then ?_
  refine tr_condP ((((false || false) || false) || (has lang1 ([49] : List UInt8))) || (has lang1 ([97, 49, 49] : List UInt8))) (((((false = true) ∨ (false = true)) ∨ (false = true)) ∨ ((has lang1 ([49] : List UInt8)) = true)) ∨ ((has lang1 ([97, 49, 49] : List UInt8)) = true)) (by simp) (by kernel_rfl) (fun hc1 => ?_) (fun hc1 => ?_)
  · exact absurd hc1 (by simp [ex3.2.2.1, ex3.2.2.2])
  · skip
    refine tr_skip ?_
    refine tr_then ?_
    refine tr_seq ?_
    refine tr_r (vc := [Pure Try.prog 11 [.s ([120, 42] : List UInt8)] (.tup [.p (eLang ((langS ([120, 42] : List UInt8)).1)), vint .i64 ((langS ([120, 42] : List UInt8)).2)]), (.p (eLang ((langS ([120, 42] : List UInt8)).1)) : D) = .p (eLang lang2), ((langS ([120, 42] : List UInt8)).2) = 0]) (E' := [(1, none, .ref 0 []), (3, none, .ref 1 []), (4, none, vint .i64 0)]) (H' := [.box (.p (eLang lang1)), .box (.p (eLang lang2))]) [(2, .p (eLang lang2)), (3, vint .i64 0)] [(0, .tup [.p (eLang ((langS ([120, 42] : List UInt8)).1)), vint .i64 ((langS ([120, 42] : List UInt8)).2)])] [1, 3, 4] (by kernel_rfl) ?_ ?_
    · refine al ?_ (al ?_ (al ?_ (trivial)))
      · exact Parse_ok _ (by first | omega | (intro hg; simp at hg; omega) | (simp; done) | (simp_all; done) | (simp_all; omega) | grind) -- r4.0
      · exact congrArg (fun x => D.p (eLang x)) (congrArg Prod.fst ex2) -- r4.1
      · exact congrArg Prod.snd ex2 -- r4.2
    refine tr_then ?_
    refine tr_seq ?_
    refine tr_r (vc := [Pure Try.prog 14 [eLang lang1, .v (.int .i64 5)] (.p ((eL eS 1 []) (firstS lang1 5))), ∀ j, j < 5 → ([.s ([97] : List UInt8), .s ([98] : List UInt8), .s ([99] : List UInt8), .s ([97, 97] : List UInt8), .s ([97, 98] : List UInt8)] : List PV).getD j default = (fun i => eS (([([97] : List UInt8), ([98] : List UInt8), ([99] : List UInt8), ([97, 97] : List UInt8), ([97, 98] : List UInt8)]).getD i [])) j, Pure Try.prog 23 [(eL eS 1 []) (firstS lang1 5), (eL eS 1 []) ([([97] : List UInt8), ([98] : List UInt8), ([99] : List UInt8), ([97, 97] : List UInt8), ([97, 98] : List UInt8)])] (vbool (decide ((firstS lang1 5) = ([([97] : List UInt8), ([98] : List UInt8), ([99] : List UInt8), ([97, 97] : List UInt8), ([97, 98] : List UInt8)])))), (decide ((firstS lang1 5) = ([([97] : List UInt8), ([98] : List UInt8), ([99] : List UInt8), ([97, 97] : List UInt8), ([97, 98] : List UInt8)]))) = true, true = true → true = true, true = true → (((0 : Int) == 0) = true), true = true → true = true, (true || false) = true → (true || false) = true, (true || false) = true → (Pure Try.prog 14 [eLang lang2, .v (.int .i64 3)] (.p ((eL eS 1 []) (firstS lang2 3)))), (true || false) = true → (∀ j, j < 3 → ([.s ([] : List UInt8), .s ([120] : List UInt8), .s ([120, 120] : List UInt8)] : List PV).getD j default = (fun i => eS (([([] : List UInt8), ([120] : List UInt8), ([120, 120] : List UInt8)]).getD i [])) j), (true || false) = true → (true || false) = true, (true || false) = true → (true || false) = true, (true || false) = true → (Pure Try.prog 23 [(eL eS 1 []) (firstS lang2 3), (eL eS 1 []) ([([] : List UInt8), ([120] : List UInt8), ([120, 120] : List UInt8)])] (vbool (decide ((firstS lang2 3) = ([([] : List UInt8), ([120] : List UInt8), ([120, 120] : List UInt8)]))))), (true || false) = true → (true || false) = true]) (E' := [(5, none, vbool ((true || false) && (decide ((firstS lang2 3) = ([([] : List UInt8), ([120] : List UInt8), ([120, 120] : List UInt8)])))))]) (H' := [.box (.p (eLang lang1)), .box (.p (eLang lang2))]) [(4, vbool true), (6, vbool true)] [(1, .p ((eL eS 1 []) (firstS lang1 5))), (2, .p ((eL eS 1 []) ([([97] : List UInt8), ([98] : List UInt8), ([99] : List UInt8), ([97, 97] : List UInt8), ([97, 98] : List UInt8)]))), (3, vbool (decide ((firstS lang1 5) = ([([97] : List UInt8), ([98] : List UInt8), ([99] : List UInt8), ([97, 97] : List UInt8), ([97, 98] : List UInt8)])))), (10, .p ((eL eS 1 []) (firstS lang2 3))), (11, .p ((eL eS 1 []) ([([] : List UInt8), ([120] : List UInt8), ([120, 120] : List UInt8)]))), (12, vbool (decide ((firstS lang2 3) = ([([] : List UInt8), ([120] : List UInt8), ([120, 120] : List UInt8)]))))] [5] (by kernel_rfl) ?_ ?_
    · refine al ?_ (al ?_ (al ?_ (al ?_ (al ?_ (al ?_ (al ?_ (al ?_ (al ?_ (al ?_ (al ?_ (al ?_ (al ?_ (al ?_ (trivial))))))))))))))
      · exact First_ok _ _ -- r5.0
      · exact lit_pv (e := eS) (d := []) (l := [([97] : List UInt8), ([98] : List UInt8), ([99] : List UInt8), ([97, 97] : List UInt8), ([97, 98] : List UInt8)]) -- r5.1
      · exact sameTexts_ok _ _ (by rw [ex7]; decide) -- r5.2
      · exact decide_eq_true ex7 -- r5.3
      · exact id -- r5.4
      · first | omega | (intro hg; simp at hg; omega) | (simp; done) | (simp_all; done) | (simp_all; omega) | grind -- r5.5
      · exact id -- r5.6
      · exact id -- r5.7
      · intro _; exact First_ok _ _ -- r5.8
      · intro _; exact lit_pv (e := eS) (d := []) (l := [([] : List UInt8), ([120] : List UInt8), ([120, 120] : List UInt8)]) -- r5.9
      · exact id -- r5.10
      · exact id -- r5.11
      · intro _; exact sameTexts_ok _ _ (by rw [ex8]; decide) -- r5.12
      · exact id -- r5.13
    refine tr_then ?_
    refine tr_seq ?_
    refine tr_r (vc := [Pure Try.prog 29 [.s ([91, 97, 45, 99, 93, 43, 49, 63] : List UInt8)] (vint .i64 (statesS ([91, 97, 45, 99, 93, 43, 49, 63] : List UInt8))), ((statesS ([91, 97, 45, 99, 93, 43, 49, 63] : List UInt8)) == 3) = true, true = true → (Pure Try.prog 29 [.s ([97, 98, 124, 97, 99] : List UInt8)] (vint .i64 (statesS ([97, 98, 124, 97, 99] : List UInt8)))), true = true → true = true, true = true → (((statesS ([97, 98, 124, 97, 99] : List UInt8)) == 4) = true), true = true → true = true, (true || false) = true → (Pure Try.prog 29 [.s ([120, 42] : List UInt8)] (vint .i64 (statesS ([120, 42] : List UInt8)))), (true || false) = true → (true || false) = true, (true || false) = true → (((statesS ([120, 42] : List UInt8)) == 1) = true), (true || false) = true → (true || false) = true, ((true || false) || false) = true → (Pure Try.prog 29 [.s ([91, 45, 97, 93, 98, 42, 124, 99] : List UInt8)] (vint .i64 (statesS ([91, 45, 97, 93, 98, 42, 124, 99] : List UInt8)))), ((true || false) || false) = true → ((true || false) || false) = true, ((true || false) || false) = true → ((decide (0 < (statesS ([91, 45, 97, 93, 98, 42, 124, 99] : List UInt8)))) = true), ((true || false) || false) = true → ((true || false) || false) = true]) (E' := [(5, none, vbool ((true || false) && (decide ((firstS lang2 3) = ([([] : List UInt8), ([120] : List UInt8), ([120, 120] : List UInt8)]))))), (6, none, vbool (((true || false) || false) || false))]) (H' := [.box (.p (eLang lang1)), .box (.p (eLang lang2))]) [(1, vbool true), (4, vbool true), (8, vbool true), (12, vbool true)] [(0, vint .i64 (statesS ([91, 97, 45, 99, 93, 43, 49, 63] : List UInt8))), (3, vint .i64 (statesS ([97, 98, 124, 97, 99] : List UInt8))), (7, vint .i64 (statesS ([120, 42] : List UInt8))), (11, vint .i64 (statesS ([91, 45, 97, 93, 98, 42, 124, 99] : List UInt8)))] [5, 6] (by kernel_rfl) ?_ ?_
    · refine al ?_ (al ?_ (al ?_ (al ?_ (al ?_ (al ?_ (al ?_ (al ?_ (al ?_ (al ?_ (al ?_ (al ?_ (al ?_ (al ?_ (trivial))))))))))))))
      · exact states_ok _ (by first | omega | (intro hg; simp at hg; omega) | (simp; done) | (simp_all; done) | (simp_all; omega) | grind) -- r6.0
      · exact beq_iff_eq.2 ex4 -- r6.1
      · intro _; exact states_ok _ (by first | omega | (intro hg; simp at hg; omega) | (simp; done) | (simp_all; done) | (simp_all; omega) | grind) -- r6.2
      · exact id -- r6.3
      · intro _; exact beq_iff_eq.2 ex5.1 -- r6.4
      · exact id -- r6.5
      · intro _; exact states_ok _ (by first | omega | (intro hg; simp at hg; omega) | (simp; done) | (simp_all; done) | (simp_all; omega) | grind) -- r6.6
      · exact id -- r6.7
      · intro _; exact beq_iff_eq.2 ex5.2.1 -- r6.8
      · exact id -- r6.9
      · intro _; exact states_ok _ (by first | omega | (intro hg; simp at hg; omega) | (simp; done) | (simp_all; done) | (simp_all; omega) | grind) -- r6.10
      · exact id -- r6.11
      · intro _; exact decide_eq_true ex5.2.2 -- r6.12
      · exact id -- r6.13
    refine tr_then ?_
    refine tr_seq ?_
    refine tr_r (vc := []) (E' := [(5, none, vbool ((true || false) && (decide ((firstS lang2 3) = ([([] : List UInt8), ([120] : List UInt8), ([120, 120] : List UInt8)]))))), (6, none, vbool (((true || false) || false) || false)), (7, none, vint .i64 (-5))]) (H' := [.box (.p (eLang lang1)), .box (.p (eLang lang2))]) [] [] [5, 6, 7] (by kernel_rfl) ?_ ?_
    · exact trivial
    refine tr_then ?_
    refine tr_seq ?_
    refine tr_r (vc := [((true || false) && (decide ((firstS lang2 3) = ([([] : List UInt8), ([120] : List UInt8), ([120, 120] : List UInt8)])))) = true, true = true → true = true, (true && (((true || false) || false) || false)) = true → (Pure Try.prog 29 [.s ([91, 97, 45, 93] : List UInt8)] (vint .i64 (statesS ([91, 97, 45, 93] : List UInt8)))), (true && (((true || false) || false) || false)) = true → (true && (((true || false) || false) || false)) = true, (true && (((true || false) || false) || false)) = true → (true && (((true || false) || false) || false)) = true, (true && (((true || false) || false) || false)) = true → (((statesS ([91, 97, 45, 93] : List UInt8)) == (-5)) = true), (true && (((true || false) || false) || false)) = true → (true && (((true || false) || false) || false)) = true, ((true && (((true || false) || false) || false)) || false) = true → (Pure Try.prog 29 [.s ([97, 43, 43] : List UInt8)] (vint .i64 (statesS ([97, 43, 43] : List UInt8)))), ((true && (((true || false) || false) || false)) || false) = true → ((true && (((true || false) || false) || false)) || false) = true, ((true && (((true || false) || false) || false)) || false) = true → ((true && (((true || false) || false) || false)) || false) = true, ((true && (((true || false) || false) || false)) || false) = true → (((statesS ([97, 43, 43] : List UInt8)) == (-5)) = true), ((true && (((true || false) || false) || false)) || false) = true → ((true && (((true || false) || false) || false)) || false) = true, (((true && (((true || false) || false) || false)) || false) || false) = true → (Pure Try.prog 29 [.s ([91, 98, 45, 97, 93] : List UInt8)] (vint .i64 (statesS ([91, 98, 45, 97, 93] : List UInt8)))), (((true && (((true || false) || false) || false)) || false) || false) = true → (((true && (((true || false) || false) || false)) || false) || false) = true, (((true && (((true || false) || false) || false)) || false) || false) = true → (((true && (((true || false) || false) || false)) || false) || false) = true, (((true && (((true || false) || false) || false)) || false) || false) = true → (((statesS ([91, 98, 45, 97, 93] : List UInt8)) == (-5)) = true), (((true && (((true || false) || false) || false)) || false) || false) = true → (((true && (((true || false) || false) || false)) || false) || false) = true, ((((true && (((true || false) || false) || false)) || false) || false) || false) = true → (Pure Try.prog 29 [.s ([] : List UInt8)] (vint .i64 (statesS ([] : List UInt8)))), ((((true && (((true || false) || false) || false)) || false) || false) || false) = true → ((((true && (((true || false) || false) || false)) || false) || false) || false) = true, ((((true && (((true || false) || false) || false)) || false) || false) || false) = true → ((((true && (((true || false) || false) || false)) || false) || false) || false) = true, ((((true && (((true || false) || false) || false)) || false) || false) || false) = true → (((statesS ([] : List UInt8)) == (-5)) = true), ((((true && (((true || false) || false) || false)) || false) || false) || false) = true → ((((true && (((true || false) || false) || false)) || false) || false) || false) = true]) (E' := [(0, none, vbool (((((true && (((true || false) || false) || false)) || false) || false) || false) || false))]) (H' := [.box (.p (eLang lang1)), .box (.p (eLang lang2))]) [(0, vbool true), (7, vbool true), (12, vbool true), (17, vbool true), (22, vbool true)] [(5, vint .i64 (statesS ([91, 97, 45, 93] : List UInt8))), (10, vint .i64 (statesS ([97, 43, 43] : List UInt8))), (15, vint .i64 (statesS ([91, 98, 45, 97, 93] : List UInt8))), (20, vint .i64 (statesS ([] : List UInt8)))] [0] (by kernel_rfl) ?_ ?_
    · refine al ?_ (al ?_ (al ?_ (al ?_ (al ?_ (al ?_ (al ?_ (al ?_ (al ?_ (al ?_ (al ?_ (al ?_ (al ?_ (al ?_ (al ?_ (al ?_ (al ?_ (al ?_ (al ?_ (al ?_ (al ?_ (al ?_ (trivial))))))))))))))))))))))
      · rw [decide_eq_true ex8]; rfl -- r8.0
      · exact id -- r8.1
      · intro _; exact states_ok _ (by first | omega | (intro hg; simp at hg; omega) | (simp; done) | (simp_all; done) | (simp_all; omega) | grind) -- r8.2
      · exact id -- r8.3
      · exact id -- r8.4
      · intro _; exact beq_iff_eq.2 ex6.1 -- r8.5
      · exact id -- r8.6
      · intro _; exact states_ok _ (by first | omega | (intro hg; simp at hg; omega) | (simp; done) | (simp_all; done) | (simp_all; omega) | grind) -- r8.7
      · exact id -- r8.8
      · exact id -- r8.9
      · intro _; exact beq_iff_eq.2 ex6.2.1 -- r8.10
      · exact id -- r8.11
      · intro _; exact states_ok _ (by first | omega | (intro hg; simp at hg; omega) | (simp; done) | (simp_all; done) | (simp_all; omega) | grind) -- r8.12
      · exact id -- r8.13
      · exact id -- r8.14
      · intro _; exact beq_iff_eq.2 ex6.2.2.1 -- r8.15
      · exact id -- r8.16
      · intro _; exact states_ok _ (by first | omega | (intro hg; simp at hg; omega) | (simp; done) | (simp_all; done) | (simp_all; omega) | grind) -- r8.17
      · exact id -- r8.18
      · exact id -- r8.19
      · intro _; exact beq_iff_eq.2 ex6.2.2.2 -- r8.20
      · exact id -- r8.21
    refine tr_then ?_
    refine tr_pre (E' := [(0, none, vbool (((((true && (((true || false) || false) || false)) || false) || false) || false) || false))]) (H' := []) (fun A_ W_ hS => sl_weak (vc := []) [] [0] (by kernel_rfl) trivial hS) ?_
    refine tr_pre (E' := (0, none, vbool true) :: [(0, none, vbool (((((true && (((true || false) || false) || false)) || false) || false) || false) || false))]) (H' := []) (fun A_ W_ hS => sl_set_imp (d := vbool (((((true && (((true || false) || false) || false)) || false) || false) || false) || false)) 0 (vbool true) (by kernel_rfl) ?_ hS) ?_
    · refine imp_eq (congrArg (fun x => D.p (eB x)) (a₁ := (((((true && (((true || false) || false) || false)) || false) || false) || false) || false)) (a₂ := true) ?_) -- ret1.0
      first | rfl | (simp; done) | omega | (simp_all; done) | grind
    refine tr_pre (E' := [(0, none, vbool true)]) (H' := []) (fun A_ W_ hS => sl_proj (ts := [0]) (by kernel_rfl) hS) ?_
    exact tr_return' (vc := []) (ds := [vbool true]) (by kernel_rfl) trivial (by kernel_rfl) (fun _ _ h => h)
end Go.Proofs.Ytjnjmnfacaakfaa
namespace Go.Proofs.Ytjnjmnfacaakfaa
open Go.Eng

theorem check_dLang : check dLang ≠ 0 := by decide +kernel
def ordL (l : List Int) : Lang := (langS (patS (l.take 24))).1
def ordF (l : List Int) (most : Int) : List (List UInt8) := firstS (ordL l) (most % 110)
theorem firstS_bad {l : Lang} {m : Int} (h : check l ≠ 0) : firstS l m = [] := by unfold firstS; rw [if_pos (.inl h)]
theorem firstS_len {l : Lang} {m : Int} (h : 0 ≤ m) : ((firstS l m).length : Int) ≤ min m 100 := by
  unfold firstS
  split
  · simp; omega
  · simp only [List.length_take]; omega
theorem firstS_mem {l : Lang} {m : Int} {w : List UInt8} (h : w ∈ firstS l m) : w.length ≤ 12 ∧ has l w = true := by
  unfold firstS at h
  split at h
  · cases h
  · rename_i h0
    rw [not_or, Classical.not_not] at h0
    exact (mem_allW h0.1).1 (List.mem_of_mem_take h)
theorem firstS_ord {l : Lang} {m : Int} : (firstS l m).Pairwise (fun a b => bef a b = true) := by
  unfold firstS
  split
  · exact .nil
  · rename_i h0
    rw [not_or, Classical.not_not] at h0
    exact (allW_pw h0.1).sublist (List.take_sublist _ _)
theorem firstS_full {l : Lang} {m : Int} (h : 0 ≤ m) {w : List UInt8} (hlen : w.length ≤ 12) (hw : has l w = true) (hm : ((firstS l m).length : Int) < min m 100 ∨ (0 < (firstS l m).length ∧ bef w ((firstS l m).getD ((firstS l m).length - 1) []) = true)) : w ∈ firstS l m := by
  by_cases hc : check l ≠ 0
  · unfold has at hw
    rw [if_pos hc] at hw
    cases hw
  · by_cases h1 : m < 1
    · have e : firstS l m = [] := by unfold firstS; rw [if_pos (.inr h1)]
      rw [e] at hm
      rcases hm with hm | hm
      · simp at hm; omega
      · simp at hm
    · rw [Classical.not_not] at hc
      have e : firstS l m = (allW l).take (min m 100).toNat := by unfold firstS; rw [if_neg (by rw [not_or, Classical.not_not]; exact ⟨hc, h1⟩)]
      rw [e] at hm ⊢
      have hin := (mem_allW hc).2 ⟨hlen, hw⟩
      rcases hm with hm | ⟨hm0, hm⟩
      · rw [List.length_take] at hm
        rw [List.take_of_length_le (by omega)]; exact hin
      · exact take_full (r := bef) (fun a b => bef_asym) (allW_pw hc) hm0 hin (.inr hm)
theorem patS_len (l : List Int) : (patS l).length ≤ 56 := by
  have hv := nextV_lt ({ L := l, At := 0 } : Draw) (n := 2) (by omega)
  have := (branches_ok l (1 + nextV { L := l, At := 0 } 2).toNat).2
  unfold patS
  omega
theorem firstS_get {l : Lang} {m : Int} {k : Nat} (h : k < (firstS l m).length) : ((firstS l m).getD k []).length ≤ 12 ∧ has l ((firstS l m).getD k []) = true := by
  refine firstS_mem (m := m) ?_
  rw [List.getD_eq_getElem?_getD, List.getElem?_eq_getElem h, Option.getD_some]
  exact List.getElem_mem h
theorem firstS_bef {l : Lang} {m : Int} {k : Nat} (h : k < (firstS l m).length) (h0 : 0 < k) : bef ((firstS l m).getD (k - 1) []) ((firstS l m).getD k []) = true := by
  rw [List.getD_eq_getElem?_getD, List.getD_eq_getElem?_getD, List.getElem?_eq_getElem h, List.getElem?_eq_getElem (show k - 1 < _ by omega), Option.getD_some, Option.getD_some]
  exact List.pairwise_iff_getElem.1 firstS_ord (k - 1) k (by omega) h (by omega)
theorem cont_succ {f : List (List UInt8)} {q : Nat} (h : q < f.length) {w : List UInt8} : ((f.take q).contains w || (f.getD q [] == w)) = (f.take (q + 1)).contains w := by
  have e : f.getD q [] = f[q] := by rw [List.getD_eq_getElem?_getD, List.getElem?_eq_getElem h, Option.getD_some]
  rw [List.take_succ_eq_append_getElem h, e, Bool.eq_iff_iff]
  simp only [Bool.or_eq_true, List.contains_iff_mem, List.mem_append, List.mem_singleton, beq_iff_eq]
  constructor
  · rintro (a | a)
    · exact .inl a
    · exact .inr a.symm
  · rintro (a | a)
    · exact .inl a
    · exact .inr a.symm
theorem word_len (l : List Int) : (word l).length ≤ 8 := by unfold word; simp; omega
theorem langS_bad {s : List UInt8} (h : (langS s).2 ≠ 0) : check (langS s).1 ≠ 0 := by
  unfold langS at h ⊢
  split
  · exact check_dLang
  · split
    · exact check_dLang
    · split
      · rename_i h2; simp_all
      · exact check_dLang

theorem orders_ok (l : List Int) (most : Int) (n : List (List Int)) (hm0 : 0 ≤ most) (hm1 : most < 256) (hb0 : n.length < 4611686018427387904) (hb1 : ∀ k, k < n.length → (n.getD k []).length < 4611686018427387904) : Pure Try.prog 5 [(eL eI 1 0) l, .v (.int .u8 most), (eL (eL eI 1 0) 1 []) n] (vbool true) := by
  have hpl := patS_len (l.take 24)
  have hfl := firstS_len (l := ordL l) (m := most % 110) (by omega)
  refine pure_of (fn := Try.f5) Try.func5 rfl rfl fun F_ W0_ => ?_
  refine tr_seq ?_
  refine tr_r (vc := []) (E' := [(0, none, .p ((eL eI 1 0) l)), (1, none, vint .u8 most), (2, none, .p ((eL (eL eI 1 0) 1 []) n))]) (H' := []) [] [] [0, 1, 2] (by kernel_rfl) ?_ ?_
  · exact trivial
  refine tr_then ?_
  refine tr_seq ?_
  refine tr_r (vc := [Pure Try.prog 8 [] (vbool true)]) (E' := [(0, none, .p ((eL eI 1 0) l)), (1, none, vint .u8 most), (2, none, .p ((eL (eL eI 1 0) 1 []) n)), (7, none, vbool true)]) (H' := []) [] [(0, vbool true)] [0, 1, 2, 7] (by kernel_rfl) ?_ ?_
  · refine al ?_ (trivial)
    · exact sanity_ok -- r1.0
  refine tr_then ?_
  refine tr_seq ?_
  refine tr_r (vc := [Pure Try.prog 10 [(eL eI 1 0) l] (.p ((eL eI 1 0) (l.take 24))), Pure Try.prog 9 [(eL eI 1 0) (l.take 24)] (vstr (patS (l.take 24))), Pure Try.prog 11 [.s (patS (l.take 24))] (.tup [.p (eLang ((langS (patS (l.take 24))).1)), vint .i64 ((langS (patS (l.take 24))).2)]), (.p (eLang ((langS (patS (l.take 24))).1)) : D) = .p (eLang (ordL l))]) (E' := [(1, none, vint .u8 most), (2, none, .p ((eL (eL eI 1 0) 1 []) n)), (7, none, vbool true), (8, none, .ref 0 []), (9, none, vint .i64 ((langS (patS (l.take 24))).2))]) (H' := [.box (.p (eLang (ordL l)))]) [(5, .p (eLang (ordL l)))] [(1, .p ((eL eI 1 0) (l.take 24))), (2, vstr (patS (l.take 24))), (3, .tup [.p (eLang ((langS (patS (l.take 24))).1)), vint .i64 ((langS (patS (l.take 24))).2)])] [1, 2, 7, 8, 9] (by kernel_rfl) ?_ ?_
  · refine al ?_ (al ?_ (al ?_ (al ?_ (trivial))))
    · exact cut_ok _ -- r2.0
    · exact pattern_ok _ (by first | omega | (intro hg; simp at hg; omega) | (simp; done) | (simp_all; done) | (simp_all; omega) | grind) -- r2.1
    · exact Parse_ok _ (by omega) -- r2.2
    · rfl -- r2.3
  refine tr_then ?_
  refine tr_seq ?_
  refine tr_r (vc := [(IntKind.wrap .i64 most) = most, (110 : Int) ≠ 0, (most.tmod 110) = (most % 110)]) (E' := [(2, none, .p ((eL (eL eI 1 0) 1 []) n)), (7, none, vbool true), (8, none, .ref 0 []), (9, none, vint .i64 ((langS (patS (l.take 24))).2)), (10, none, vint .i64 (most % 110))]) (H' := [.box (.p (eLang (ordL l)))]) [(1, vint .i64 most), (2, vint .i64 (most % 110))] [] [2, 7, 8, 9, 10] (by kernel_rfl) ?_ ?_
  · refine al ?_ (al ?_ (al ?_ (trivial)))
    · exact wr64 (by omega) (by omega) (by omega) -- r3.0
    · first | omega | (intro hg; simp at hg; omega) | (simp; done) | (simp_all; done) | (simp_all; omega) | grind -- r3.1
    · exact Int.tmod_eq_emod_of_nonneg hm0 -- r3.2
  refine tr_then ?_
  refine tr_seq ?_
  refine tr_r (vc := [Pure Try.prog 14 [eLang (ordL l), .v (.int .i64 (most % 110))] (.p ((eL eS 1 []) (firstS (ordL l) (most % 110))))]) (E' := [(2, none, .p ((eL (eL eI 1 0) 1 []) n)), (7, none, vbool true), (8, none, .ref 0 []), (9, none, vint .i64 ((langS (patS (l.take 24))).2)), (10, none, vint .i64 (most % 110)), (11, none, .p ((eL eS 1 []) (firstS (ordL l) (most % 110))))]) (H' := [.box (.p (eLang (ordL l)))]) [] [(2, .p ((eL eS 1 []) (firstS (ordL l) (most % 110))))] [2, 7, 8, 9, 10, 11] (by kernel_rfl) ?_ ?_
  · refine al ?_ (trivial)
    · exact First_ok _ _ -- r4.0
  refine tr_then ?_
  refine tr_seq ?_
  refine tr_seq ?_
  refine tr_r (vc := []) (E' := [(2, none, .p ((eL (eL eI 1 0) 1 []) n)), (7, none, vbool true), (8, none, .ref 0 []), (10, none, vint .i64 (most % 110)), (11, none, .p ((eL eS 1 []) (firstS (ordL l) (most % 110)))), (35, none, vbool (((langS (patS (l.take 24))).2) != 0))]) (H' := [.box (.p (eLang (ordL l)))]) [] [] [2, 7, 8, 10, 11, 35] (by kernel_rfl) ?_ ?_
  · exact trivial
  refine tr_then ?_
  refine tr_condP (((langS (patS (l.take 24))).2) != 0) (((langS (patS (l.take 24))).2) ≠ 0) (by simp) (by kernel_rfl) (fun hc1 => ?_) (fun hc1 => ?_)
  · skip
    refine tr_seq ?_
    refine tr_r (vc := [true = true → true = true, true = true → true = true, true = true → true = true]) (E' := [(6, none, vbool (true && ((((firstS (ordL l) (most % 110)).length : Nat) : Int) == 0)))]) (H' := [.box (.p (eLang (ordL l)))]) [] [] [6] (by kernel_rfl) ?_ ?_
    · refine al ?_ (al ?_ (al ?_ (trivial)))
      · exact id -- r6.0
      · exact id -- r6.1
      · exact id -- r6.2
    refine tr_then ?_
    refine tr_pre (E' := [(6, none, vbool (true && ((((firstS (ordL l) (most % 110)).length : Nat) : Int) == 0)))]) (H' := []) (fun A_ W_ hS => sl_weak (vc := []) [] [6] (by kernel_rfl) trivial hS) ?_
    refine tr_pre (E' := (6, none, vbool true) :: [(6, none, vbool (true && ((((firstS (ordL l) (most % 110)).length : Nat) : Int) == 0)))]) (H' := []) (fun A_ W_ hS => sl_set_imp (d := vbool (true && ((((firstS (ordL l) (most % 110)).length : Nat) : Int) == 0))) 6 (vbool true) (by kernel_rfl) ?_ hS) ?_
    · refine imp_eq (congrArg (fun x => D.p (eB x)) (a₁ := (true && ((((firstS (ordL l) (most % 110)).length : Nat) : Int) == 0))) (a₂ := true) ?_) -- ret1.0
      rw [firstS_bad (show check (ordL l) ≠ 0 from langS_bad hc1)]; rfl
    refine tr_pre (E' := [(6, none, vbool true)]) (H' := []) (fun A_ W_ hS => sl_proj (ts := [6]) (by kernel_rfl) hS) ?_
    exact tr_return' (vc := []) (ds := [vbool true]) (by kernel_rfl) trivial (by kernel_rfl) (fun _ _ h => h)
  · skip
    refine tr_skip ?_
    refine tr_then ?_
    refine tr_seq ?_
    refine tr_seq ?_
    refine tr_r (vc := []) (E' := [(2, none, .p ((eL (eL eI 1 0) 1 []) n)), (7, none, vbool true), (8, none, .ref 0 []), (10, none, vint .i64 (most % 110)), (11, none, .p ((eL eS 1 []) (firstS (ordL l) (most % 110)))), (46, none, vbool (decide ((min (most % 110) 100) < (((firstS (ordL l) (most % 110)).length : Nat) : Int))))]) (H' := [.box (.p (eLang (ordL l)))]) [] [] [2, 7, 8, 10, 11, 46] (by kernel_rfl) ?_ ?_
    · exact trivial
    refine tr_then ?_
    refine tr_condP (decide ((min (most % 110) 100) < (((firstS (ordL l) (most % 110)).length : Nat) : Int))) ((min (most % 110) 100) < (((firstS (ordL l) (most % 110)).length : Nat) : Int)) (by simp) (by kernel_rfl) (fun hc2 => ?_) (fun hc2 => ?_)
    · exact absurd hc2 (by omega)
    · skip
      refine tr_skip ?_
      refine tr_then ?_
      refine tr_seq ?_
      refine tr_seq ?_
      refine tr_r (vc := []) (E' := [(2, none, .p ((eL (eL eI 1 0) 1 []) n)), (7, none, vbool true), (8, none, .ref 0 []), (10, none, vint .i64 (most % 110)), (11, none, .p ((eL eS 1 []) (firstS (ordL l) (most % 110)))), (47, none, .p ((eL eS 1 []) (firstS (ordL l) (most % 110)))), (48, none, vint .i64 (((firstS (ordL l) (most % 110)).length : Nat) : Int)), (49, none, vint .i64 0)]) (H' := [.box (.p (eLang (ordL l)))]) [] [] [2, 7, 8, 10, 11, 47, 48, 49] (by kernel_rfl) ?_ ?_
      · exact trivial
      refine tr_then ?_
      refine tr_block ?_
      refine tr_loop (α := Nat) (fun z : Nat => (fun (k : Nat) => [(2, none, .p ((eL (eL eI 1 0) 1 []) n)), (7, none, vbool true), (8, none, .ref 0 []), (10, none, vint .i64 (most % 110)), (11, none, .p ((eL eS 1 []) (firstS (ordL l) (most % 110)))), (47, none, .p ((eL eS 1 []) (firstS (ordL l) (most % 110)))), (48, none, vint .i64 (((firstS (ordL l) (most % 110)).length : Nat) : Int)), (49, none, vint .i64 ((k : Nat) : Int))]) z) (fun z : Nat => (fun (k : Nat) => [.box (.p (eLang (ordL l)))]) z) (fun z : Nat => (fun (k : Nat) => (k ≤ (firstS (ordL l) (most % 110)).length)) z) (fun z : Nat => (fun (k : Nat) => (firstS (ordL l) (most % 110)).length - k) z) 0 ?_ ?_ ?_
      · show (0 ≤ (firstS (ordL l) (most % 110)).length)
        · first | omega | (intro hg; simp at hg; omega) | (simp; done) | (simp_all; done) | (simp_all; omega) | grind -- l0.i.0
      · intro A_ W_ hS
        replace hS := sl_set (d := vint .i64 0) 49 (vint .i64 ((0 : Nat) : Int)) (by kernel_rfl) (eqD_int (by first | omega | (intro hg; simp at hg; omega) | (simp; done) | (simp_all; done) | (simp_all; omega) | grind)) hS -- l0.s49
        exact sl_weak (vc := []) [0] [2, 7, 8, 10, 11, 47, 48, 49] (by kernel_rfl) trivial hS
      · intro z hz
        revert z; intro k hz
        have hz : (k ≤ (firstS (ordL l) (most % 110)).length) := hz
        have hi0_0 := hz
        have hg : k < (firstS (ordL l) (most % 110)).length → _ := fun h => firstS_get (l := ordL l) (m := most % 110) (k := k) h
        refine tr_seq ?_
        refine tr_r (vc := []) (E' := [(2, none, .p ((eL (eL eI 1 0) 1 []) n)), (7, none, vbool true), (8, none, .ref 0 []), (10, none, vint .i64 (most % 110)), (11, none, .p ((eL eS 1 []) (firstS (ordL l) (most % 110)))), (47, none, .p ((eL eS 1 []) (firstS (ordL l) (most % 110)))), (48, none, vint .i64 (((firstS (ordL l) (most % 110)).length : Nat) : Int)), (49, none, vint .i64 ((k : Nat) : Int)), (50, none, vbool (decide (((k : Nat) : Int) < (((firstS (ordL l) (most % 110)).length : Nat) : Int))))]) (H' := [.box (.p (eLang (ordL l)))]) [] [] [2, 7, 8, 10, 11, 47, 48, 49, 50] (by kernel_rfl) ?_ ?_
        · exact trivial
        refine tr_then ?_
        refine tr_seq ?_
        refine tr_condP (decide (((k : Nat) : Int) < (((firstS (ordL l) (most % 110)).length : Nat) : Int))) (((k : Nat) : Int) < (((firstS (ordL l) (most % 110)).length : Nat) : Int)) (by simp) (by kernel_rfl) (fun hc3 => ?_) (fun hc3 => ?_)
        · skip
          refine tr_skip ?_
          refine tr_then ?_
          refine tr_seq ?_
          refine tr_block ?_
          refine tr_seq ?_
          refine tr_r (vc := [(0 : Int) ≤ ((k : Nat) : Int), ((k : Nat) : Int) < ((firstS (ordL l) (most % 110)).length : Int)]) (E' := [(2, none, .p ((eL (eL eI 1 0) 1 []) n)), (7, none, vbool true), (8, none, .ref 0 []), (10, none, vint .i64 (most % 110)), (11, none, .p ((eL eS 1 []) (firstS (ordL l) (most % 110)))), (12, none, vint .i64 ((k : Nat) : Int)), (13, none, vstr ((firstS (ordL l) (most % 110)).getD k [])), (47, none, .p ((eL eS 1 []) (firstS (ordL l) (most % 110)))), (48, none, vint .i64 (((firstS (ordL l) (most % 110)).length : Nat) : Int)), (49, none, vint .i64 ((k : Nat) : Int))]) (H' := [.box (.p (eLang (ordL l)))]) [] [] [2, 7, 8, 10, 11, 12, 13, 47, 48, 49] (by kernel_rfl) ?_ ?_
          · refine al ?_ (al ?_ (trivial))
            · first | omega | (intro hg; simp at hg; omega) | (simp; done) | (simp_all; done) | (simp_all; omega) | grind -- r11.0
            · first | omega | (intro hg; simp at hg; omega) | (simp; done) | (simp_all; done) | (simp_all; omega) | grind -- r11.1
          refine tr_then ?_
          refine tr_seq ?_
          refine tr_r (vc := [Pure Try.prog 16 [eLang (ordL l), .s ((firstS (ordL l) (most % 110)).getD k [])] (vbool (has (ordL l) ((firstS (ordL l) (most % 110)).getD k []))), (!(!(has (ordL l) ((firstS (ordL l) (most % 110)).getD k [])))) = true → (!(!(has (ordL l) ((firstS (ordL l) (most % 110)).getD k [])))) = true, (!(!(has (ordL l) ((firstS (ordL l) (most % 110)).getD k [])))) = true → (!(!(has (ordL l) ((firstS (ordL l) (most % 110)).getD k [])))) = true, (!(!(has (ordL l) ((firstS (ordL l) (most % 110)).getD k [])))) = true → (!(!(has (ordL l) ((firstS (ordL l) (most % 110)).getD k [])))) = true, (!((!(has (ordL l) ((firstS (ordL l) (most % 110)).getD k []))) || (decide (12 < ((((firstS (ordL l) (most % 110)).getD k []).length : Nat) : Int))))) = true → (!((!(has (ordL l) ((firstS (ordL l) (most % 110)).getD k []))) || (decide (12 < ((((firstS (ordL l) (most % 110)).getD k []).length : Nat) : Int))))) = true, (!((!(has (ordL l) ((firstS (ordL l) (most % 110)).getD k []))) || (decide (12 < ((((firstS (ordL l) (most % 110)).getD k []).length : Nat) : Int))))) = true → (!((!(has (ordL l) ((firstS (ordL l) (most % 110)).getD k []))) || (decide (12 < ((((firstS (ordL l) (most % 110)).getD k []).length : Nat) : Int))))) = true, ((!((!(has (ordL l) ((firstS (ordL l) (most % 110)).getD k []))) || (decide (12 < ((((firstS (ordL l) (most % 110)).getD k []).length : Nat) : Int))))) && (decide (0 < ((k : Nat) : Int)))) = true → ((!((!(has (ordL l) ((firstS (ordL l) (most % 110)).getD k []))) || (decide (12 < ((((firstS (ordL l) (most % 110)).getD k []).length : Nat) : Int))))) && (decide (0 < ((k : Nat) : Int)))) = true, ((!((!(has (ordL l) ((firstS (ordL l) (most % 110)).getD k []))) || (decide (12 < ((((firstS (ordL l) (most % 110)).getD k []).length : Nat) : Int))))) && (decide (0 < ((k : Nat) : Int)))) = true → ((IntKind.wrap .i64 (((k : Nat) : Int) - 1)) = (((k : Nat) : Int) - 1)), ((!((!(has (ordL l) ((firstS (ordL l) (most % 110)).getD k []))) || (decide (12 < ((((firstS (ordL l) (most % 110)).getD k []).length : Nat) : Int))))) && (decide (0 < ((k : Nat) : Int)))) = true → ((!((!(has (ordL l) ((firstS (ordL l) (most % 110)).getD k []))) || (decide (12 < ((((firstS (ordL l) (most % 110)).getD k []).length : Nat) : Int))))) && (decide (0 < ((k : Nat) : Int)))) = true, ((!((!(has (ordL l) ((firstS (ordL l) (most % 110)).getD k []))) || (decide (12 < ((((firstS (ordL l) (most % 110)).getD k []).length : Nat) : Int))))) && (decide (0 < ((k : Nat) : Int)))) = true → ((!((!(has (ordL l) ((firstS (ordL l) (most % 110)).getD k []))) || (decide (12 < ((((firstS (ordL l) (most % 110)).getD k []).length : Nat) : Int))))) && (decide (0 < ((k : Nat) : Int)))) = true, ((!((!(has (ordL l) ((firstS (ordL l) (most % 110)).getD k []))) || (decide (12 < ((((firstS (ordL l) (most % 110)).getD k []).length : Nat) : Int))))) && (decide (0 < ((k : Nat) : Int)))) = true → ((0 : Int) ≤ (((k : Nat) : Int) - 1)), ((!((!(has (ordL l) ((firstS (ordL l) (most % 110)).getD k []))) || (decide (12 < ((((firstS (ordL l) (most % 110)).getD k []).length : Nat) : Int))))) && (decide (0 < ((k : Nat) : Int)))) = true → ((((k : Nat) : Int) - 1) < ((firstS (ordL l) (most % 110)).length : Int)), ((!((!(has (ordL l) ((firstS (ordL l) (most % 110)).getD k []))) || (decide (12 < ((((firstS (ordL l) (most % 110)).getD k []).length : Nat) : Int))))) && (decide (0 < ((k : Nat) : Int)))) = true → ((!((!(has (ordL l) ((firstS (ordL l) (most % 110)).getD k []))) || (decide (12 < ((((firstS (ordL l) (most % 110)).getD k []).length : Nat) : Int))))) && (decide (0 < ((k : Nat) : Int)))) = true, ((!((!(has (ordL l) ((firstS (ordL l) (most % 110)).getD k []))) || (decide (12 < ((((firstS (ordL l) (most % 110)).getD k []).length : Nat) : Int))))) && (decide (0 < ((k : Nat) : Int)))) = true → ((!((!(has (ordL l) ((firstS (ordL l) (most % 110)).getD k []))) || (decide (12 < ((((firstS (ordL l) (most % 110)).getD k []).length : Nat) : Int))))) && (decide (0 < ((k : Nat) : Int)))) = true, ((!((!(has (ordL l) ((firstS (ordL l) (most % 110)).getD k []))) || (decide (12 < ((((firstS (ordL l) (most % 110)).getD k []).length : Nat) : Int))))) && (decide (0 < ((k : Nat) : Int)))) = true → ((!((!(has (ordL l) ((firstS (ordL l) (most % 110)).getD k []))) || (decide (12 < ((((firstS (ordL l) (most % 110)).getD k []).length : Nat) : Int))))) && (decide (0 < ((k : Nat) : Int)))) = true, ((!((!(has (ordL l) ((firstS (ordL l) (most % 110)).getD k []))) || (decide (12 < ((((firstS (ordL l) (most % 110)).getD k []).length : Nat) : Int))))) && (decide (0 < ((k : Nat) : Int)))) = true → (Pure Try.prog 17 [.s ((firstS (ordL l) (most % 110)).getD ((((k : Nat) : Int) - 1).toNat) []), .s ((firstS (ordL l) (most % 110)).getD k [])] (vbool (bef ((firstS (ordL l) (most % 110)).getD ((((k : Nat) : Int) - 1).toNat) []) ((firstS (ordL l) (most % 110)).getD k [])))), ((!((!(has (ordL l) ((firstS (ordL l) (most % 110)).getD k []))) || (decide (12 < ((((firstS (ordL l) (most % 110)).getD k []).length : Nat) : Int))))) && (decide (0 < ((k : Nat) : Int)))) = true → ((!((!(has (ordL l) ((firstS (ordL l) (most % 110)).getD k []))) || (decide (12 < ((((firstS (ordL l) (most % 110)).getD k []).length : Nat) : Int))))) && (decide (0 < ((k : Nat) : Int)))) = true, (!((!(has (ordL l) ((firstS (ordL l) (most % 110)).getD k []))) || (decide (12 < ((((firstS (ordL l) (most % 110)).getD k []).length : Nat) : Int))))) = true → ((!((!(has (ordL l) ((firstS (ordL l) (most % 110)).getD k []))) || (decide (12 < ((((firstS (ordL l) (most % 110)).getD k []).length : Nat) : Int))))) = true → (!((!(has (ordL l) ((firstS (ordL l) (most % 110)).getD k []))) || (decide (12 < ((((firstS (ordL l) (most % 110)).getD k []).length : Nat) : Int))))) = true), ((!((!(has (ordL l) ((firstS (ordL l) (most % 110)).getD k []))) || (decide (12 < ((((firstS (ordL l) (most % 110)).getD k []).length : Nat) : Int))))) && (decide (0 < ((k : Nat) : Int)))) = true → ((!((!(has (ordL l) ((firstS (ordL l) (most % 110)).getD k []))) || (decide (12 < ((((firstS (ordL l) (most % 110)).getD k []).length : Nat) : Int))))) && (decide (0 < ((k : Nat) : Int)))) = true, (!((!(has (ordL l) ((firstS (ordL l) (most % 110)).getD k []))) || (decide (12 < ((((firstS (ordL l) (most % 110)).getD k []).length : Nat) : Int))))) = true → (!((!(has (ordL l) ((firstS (ordL l) (most % 110)).getD k []))) || (decide (12 < ((((firstS (ordL l) (most % 110)).getD k []).length : Nat) : Int))))) = true]) (E' := [(2, none, .p ((eL (eL eI 1 0) 1 []) n)), (7, none, vbool true), (8, none, .ref 0 []), (10, none, vint .i64 (most % 110)), (11, none, .p ((eL eS 1 []) (firstS (ordL l) (most % 110)))), (47, none, .p ((eL eS 1 []) (firstS (ordL l) (most % 110)))), (48, none, vint .i64 (((firstS (ordL l) (most % 110)).length : Nat) : Int)), (49, none, vint .i64 ((k : Nat) : Int)), (76, none, vbool (((!(has (ordL l) ((firstS (ordL l) (most % 110)).getD k []))) || (decide (12 < ((((firstS (ordL l) (most % 110)).getD k []).length : Nat) : Int)))) || ((decide (0 < ((k : Nat) : Int))) && (!(bef ((firstS (ordL l) (most % 110)).getD ((((k : Nat) : Int) - 1).toNat) []) ((firstS (ordL l) (most % 110)).getD k []))))))]) (H' := [.box (.p (eLang (ordL l)))]) [(15, vint .i64 (((k : Nat) : Int) - 1))] [(2, vbool (has (ordL l) ((firstS (ordL l) (most % 110)).getD k []))), (19, vbool (bef ((firstS (ordL l) (most % 110)).getD ((((k : Nat) : Int) - 1).toNat) []) ((firstS (ordL l) (most % 110)).getD k [])))] [2, 7, 8, 10, 11, 47, 48, 49, 76] (by kernel_rfl) ?_ ?_
          · refine al ?_ (al ?_ (al ?_ (al ?_ (al ?_ (al ?_ (al ?_ (al ?_ (al ?_ (al ?_ (al ?_ (al ?_ (al ?_ (al ?_ (al ?_ (al ?_ (al ?_ (al ?_ (al ?_ (al ?_ (trivial))))))))))))))))))))
            · exact has_ok _ _ (by have h1 := (hg (by omega)).1; omega) -- r12.0
            · exact id -- r12.1
            · exact id -- r12.2
            · exact id -- r12.3
            · exact id -- r12.4
            · exact id -- r12.5
            · exact id -- r12.6
            · intro _; exact wr64 (by omega) (by omega) (by omega) -- r12.7
            · exact id -- r12.8
            · exact id -- r12.9
            · first | omega | (intro hg; simp at hg; omega) | (simp; done) | (simp_all; done) | (simp_all; omega) | grind -- r12.10
            · first | omega | (intro hg; simp at hg; omega) | (simp; done) | (simp_all; done) | (simp_all; omega) | grind -- r12.11
            · exact id -- r12.12
            · exact id -- r12.13
            · exact id -- r12.14
            · intro hk0; simp only [decide_eq_true_eq, Bool.and_eq_true] at hk0; rw [show ((k : Int) - 1).toNat = k - 1 by omega]; exact before_ok _ _ (by have h1 := (firstS_get (l := ordL l) (m := most % 110) (k := k - 1) (by omega)).1; omega) -- r12.15
            · exact id -- r12.16
            · intro _; exact id -- r12.17
            · exact id -- r12.18
            · exact id -- r12.19
          refine tr_then ?_
          refine tr_condP (((!(has (ordL l) ((firstS (ordL l) (most % 110)).getD k []))) || (decide (12 < ((((firstS (ordL l) (most % 110)).getD k []).length : Nat) : Int)))) || ((decide (0 < ((k : Nat) : Int))) && (!(bef ((firstS (ordL l) (most % 110)).getD ((((k : Nat) : Int) - 1).toNat) []) ((firstS (ordL l) (most % 110)).getD k []))))) ((((has (ordL l) ((firstS (ordL l) (most % 110)).getD k [])) = false) ∨ (12 < ((((firstS (ordL l) (most % 110)).getD k []).length : Nat) : Int))) ∨ ((0 < ((k : Nat) : Int)) ∧ ((bef ((firstS (ordL l) (most % 110)).getD ((((k : Nat) : Int) - 1).toNat) []) ((firstS (ordL l) (most % 110)).getD k [])) = false))) (by simp) (by kernel_rfl) (fun hc4 => ?_) (fun hc4 => ?_)
          · exact absurd hc4 (by have h1 := hg (by omega); rintro ((h | h) | ⟨h0, h⟩) <;> first | omega | (rw [h1.2] at h; cases h; done) | (rw [show ((k : Int) - 1).toNat = k - 1 by omega, firstS_bef (by omega) (by omega)] at h; cases h; done))
          · skip
            refine tr_skip ?_
            refine in_n ?_
            refine tr_then ?_
            refine tr_r (vc := [(IntKind.wrap .i64 (((k : Nat) : Int) + 1)) = (((k + 1) : Nat) : Int)]) (E' := [(2, none, .p ((eL (eL eI 1 0) 1 []) n)), (7, none, vbool true), (8, none, .ref 0 []), (10, none, vint .i64 (most % 110)), (11, none, .p ((eL eS 1 []) (firstS (ordL l) (most % 110)))), (47, none, .p ((eL eS 1 []) (firstS (ordL l) (most % 110)))), (48, none, vint .i64 (((firstS (ordL l) (most % 110)).length : Nat) : Int)), (49, none, vint .i64 (((k + 1) : Nat) : Int))]) (H' := [.box (.p (eLang (ordL l)))]) [(0, vint .i64 (((k + 1) : Nat) : Int))] [] [2, 7, 8, 10, 11, 47, 48, 49] (by kernel_rfl) ?_ ?_
            · refine al ?_ (trivial)
              · exact wr64 (by omega) (by omega) (by omega) -- r14.0
            refine lp_end (k + 1) ?_ ?_ ?_
            · show ((k + 1) ≤ (firstS (ordL l) (most % 110)).length)
              · first | omega | (intro hg; simp at hg; omega) | (simp; done) | (simp_all; done) | (simp_all; omega) | grind -- l0.n.0
            · show (firstS (ordL l) (most % 110)).length - (k + 1) < (firstS (ordL l) (most % 110)).length - k
              omega
            · intro A_ W_ hS
              exact sl_weak (vc := []) [0] [2, 7, 8, 10, 11, 47, 48, 49] (by kernel_rfl) trivial hS
        · skip
          refine tr_exit ?_
          refine th_e ?_
          refine th_e ?_
          refine in_hit ?_
          refine tr_then ?_
          refine tr_seq ?_
          refine tr_seq ?_
          refine tr_r (vc := []) (E' := [(2, none, .p ((eL (eL eI 1 0) 1 []) n)), (7, none, vbool true), (8, none, .ref 0 []), (10, none, vint .i64 (most % 110)), (11, none, .p ((eL eS 1 []) (firstS (ordL l) (most % 110)))), (14, none, vint .i64 0)]) (H' := [.box (.p (eLang (ordL l)))]) [] [] [2, 7, 8, 10, 11, 14] (by kernel_rfl) ?_ ?_
          · exact trivial
          refine tr_then ?_
          refine tr_block ?_
          refine tr_loop (α := Nat) (fun z : Nat => (fun (j : Nat) => [(2, none, .p ((eL (eL eI 1 0) 1 []) n)), (7, none, vbool true), (8, none, .ref 0 []), (10, none, vint .i64 (most % 110)), (11, none, .p ((eL eS 1 []) (firstS (ordL l) (most % 110)))), (14, none, vint .i64 ((j : Nat) : Int))]) z) (fun z : Nat => (fun (j : Nat) => [.box (.p (eLang (ordL l)))]) z) (fun z : Nat => (fun (j : Nat) => (j ≤ n.length)) z) (fun z : Nat => (fun (j : Nat) => n.length - j) z) 0 ?_ ?_ ?_
          · show (0 ≤ n.length)
            · first | omega | (intro hg; simp at hg; omega) | (simp; done) | (simp_all; done) | (simp_all; omega) | grind -- l1.i.0
          · intro A_ W_ hS
            replace hS := sl_set (d := vint .i64 0) 14 (vint .i64 ((0 : Nat) : Int)) (by kernel_rfl) (eqD_int (by first | omega | (intro hg; simp at hg; omega) | (simp; done) | (simp_all; done) | (simp_all; omega) | grind)) hS -- l1.s14
            exact sl_weak (vc := []) [0] [2, 7, 8, 10, 11, 14] (by kernel_rfl) trivial hS
          · intro z hz
            revert z; intro j hz
            have hz : (j ≤ n.length) := hz
            have hi1_0 := hz
            refine tr_seq ?_
            refine tr_seq ?_
            refine tr_r (vc := [(decide (((j : Nat) : Int) < ((n.length : Nat) : Int))) = true → (decide (((j : Nat) : Int) < ((n.length : Nat) : Int))) = true, (decide (((j : Nat) : Int) < ((n.length : Nat) : Int))) = true → (decide (((j : Nat) : Int) < ((n.length : Nat) : Int))) = true]) (E' := [(2, none, .p ((eL (eL eI 1 0) 1 []) n)), (7, none, vbool true), (8, none, .ref 0 []), (10, none, vint .i64 (most % 110)), (11, none, .p ((eL eS 1 []) (firstS (ordL l) (most % 110)))), (14, none, vint .i64 ((j : Nat) : Int)), (85, none, vbool ((decide (((j : Nat) : Int) < ((n.length : Nat) : Int))) && (decide (((j : Nat) : Int) < 6))))]) (H' := [.box (.p (eLang (ordL l)))]) [] [] [2, 7, 8, 10, 11, 14, 85] (by kernel_rfl) ?_ ?_
            · refine al ?_ (al ?_ (trivial))
              · exact id -- r16.0
              · exact id -- r16.1
            refine tr_then ?_
            refine tr_condP ((decide (((j : Nat) : Int) < ((n.length : Nat) : Int))) && (decide (((j : Nat) : Int) < 6))) ((((j : Nat) : Int) < ((n.length : Nat) : Int)) ∧ (((j : Nat) : Int) < 6)) (by simp) (by kernel_rfl) (fun hc5 => ?_) (fun hc5 => ?_)
            · skip
              refine tr_skip ?_
              refine tr_then ?_
              refine tr_seq ?_
              refine tr_block ?_
              refine tr_seq ?_
              refine tr_r (vc := [(0 : Int) ≤ ((j : Nat) : Int), ((j : Nat) : Int) < (n.length : Int), Pure Try.prog 15 [(eL eI 1 0) (n.getD j [])] (vstr (word (n.getD j [])))]) (E' := [(2, none, .p ((eL (eL eI 1 0) 1 []) n)), (7, none, vbool true), (8, none, .ref 0 []), (10, none, vint .i64 (most % 110)), (11, none, .p ((eL eS 1 []) (firstS (ordL l) (most % 110)))), (14, none, vint .i64 ((j : Nat) : Int)), (15, none, vstr (word (n.getD j [])))]) (H' := [.box (.p (eLang (ordL l)))]) [] [(4, vstr (word (n.getD j [])))] [2, 7, 8, 10, 11, 14, 15] (by kernel_rfl) ?_ ?_
              · refine al ?_ (al ?_ (al ?_ (trivial)))
                · first | omega | (intro hg; simp at hg; omega) | (simp; done) | (simp_all; done) | (simp_all; omega) | grind -- r18.0
                · first | omega | (intro hg; simp at hg; omega) | (simp; done) | (simp_all; done) | (simp_all; omega) | grind -- r18.1
                · exact word_ok _ (by first | omega | (intro hg; simp at hg; omega) | (simp; done) | (simp_all; done) | (simp_all; omega) | grind) -- r18.2
              refine tr_then ?_
              refine tr_seq ?_
              refine tr_r (vc := []) (E' := [(2, none, .p ((eL (eL eI 1 0) 1 []) n)), (7, none, vbool true), (8, none, .ref 0 []), (10, none, vint .i64 (most % 110)), (11, none, .p ((eL eS 1 []) (firstS (ordL l) (most % 110)))), (14, none, vint .i64 ((j : Nat) : Int)), (15, none, vstr (word (n.getD j []))), (16, none, vbool false)]) (H' := [.box (.p (eLang (ordL l)))]) [] [] [2, 7, 8, 10, 11, 14, 15, 16] (by kernel_rfl) ?_ ?_
              · exact trivial
              refine tr_then ?_
              refine tr_seq ?_
              refine tr_seq ?_
              refine tr_r (vc := []) (E' := [(2, none, .p ((eL (eL eI 1 0) 1 []) n)), (7, none, vbool true), (8, none, .ref 0 []), (10, none, vint .i64 (most % 110)), (11, none, .p ((eL eS 1 []) (firstS (ordL l) (most % 110)))), (14, none, vint .i64 ((j : Nat) : Int)), (15, none, vstr (word (n.getD j []))), (16, none, vbool false), (93, none, .p ((eL eS 1 []) (firstS (ordL l) (most % 110)))), (94, none, vint .i64 (((firstS (ordL l) (most % 110)).length : Nat) : Int)), (95, none, vint .i64 0)]) (H' := [.box (.p (eLang (ordL l)))]) [] [] [2, 7, 8, 10, 11, 14, 15, 16, 93, 94, 95] (by kernel_rfl) ?_ ?_
              · exact trivial
              refine tr_then ?_
              refine tr_block ?_
              refine tr_loop (α := Nat) (fun z : Nat => (fun (q : Nat) => [(2, none, .p ((eL (eL eI 1 0) 1 []) n)), (7, none, vbool true), (8, none, .ref 0 []), (10, none, vint .i64 (most % 110)), (11, none, .p ((eL eS 1 []) (firstS (ordL l) (most % 110)))), (14, none, vint .i64 ((j : Nat) : Int)), (15, none, vstr (word (n.getD j []))), (16, none, vbool (((firstS (ordL l) (most % 110)).take q).contains (word (n.getD j [])))), (93, none, .p ((eL eS 1 []) (firstS (ordL l) (most % 110)))), (94, none, vint .i64 (((firstS (ordL l) (most % 110)).length : Nat) : Int)), (95, none, vint .i64 ((q : Nat) : Int))]) z) (fun z : Nat => (fun (q : Nat) => [.box (.p (eLang (ordL l)))]) z) (fun z : Nat => (fun (q : Nat) => (q ≤ (firstS (ordL l) (most % 110)).length)) z) (fun z : Nat => (fun (q : Nat) => (firstS (ordL l) (most % 110)).length - q) z) 0 ?_ ?_ ?_
              · show (0 ≤ (firstS (ordL l) (most % 110)).length)
                · first | omega | (intro hg; simp at hg; omega) | (simp; done) | (simp_all; done) | (simp_all; omega) | grind -- l2.i.0
              · intro A_ W_ hS
                replace hS := sl_set (d := vbool false) 16 (vbool (((firstS (ordL l) (most % 110)).take 0).contains (word (n.getD j [])))) (by kernel_rfl) (eqD_bool (by first | omega | (intro hg; simp at hg; omega) | (simp; done) | (simp_all; done) | (simp_all; omega) | grind)) hS -- l2.s16
                replace hS := sl_set (d := vint .i64 0) 95 (vint .i64 ((0 : Nat) : Int)) (by kernel_rfl) (eqD_int (by first | omega | (intro hg; simp at hg; omega) | (simp; done) | (simp_all; done) | (simp_all; omega) | grind)) hS -- l2.s95
                exact sl_weak (vc := []) [0] [2, 7, 8, 10, 11, 14, 15, 16, 93, 94, 95] (by kernel_rfl) trivial hS
              · intro z hz
                revert z; intro q hz
                have hz : (q ≤ (firstS (ordL l) (most % 110)).length) := hz
                have hi2_0 := hz
                refine tr_seq ?_
                refine tr_r (vc := []) (E' := [(2, none, .p ((eL (eL eI 1 0) 1 []) n)), (7, none, vbool true), (8, none, .ref 0 []), (10, none, vint .i64 (most % 110)), (11, none, .p ((eL eS 1 []) (firstS (ordL l) (most % 110)))), (14, none, vint .i64 ((j : Nat) : Int)), (15, none, vstr (word (n.getD j []))), (16, none, vbool (((firstS (ordL l) (most % 110)).take q).contains (word (n.getD j [])))), (93, none, .p ((eL eS 1 []) (firstS (ordL l) (most % 110)))), (94, none, vint .i64 (((firstS (ordL l) (most % 110)).length : Nat) : Int)), (95, none, vint .i64 ((q : Nat) : Int)), (96, none, vbool (decide (((q : Nat) : Int) < (((firstS (ordL l) (most % 110)).length : Nat) : Int))))]) (H' := [.box (.p (eLang (ordL l)))]) [] [] [2, 7, 8, 10, 11, 14, 15, 16, 93, 94, 95, 96] (by kernel_rfl) ?_ ?_
                · exact trivial
                refine tr_then ?_
                refine tr_seq ?_
                refine tr_condP (decide (((q : Nat) : Int) < (((firstS (ordL l) (most % 110)).length : Nat) : Int))) (((q : Nat) : Int) < (((firstS (ordL l) (most % 110)).length : Nat) : Int)) (by simp) (by kernel_rfl) (fun hc6 => ?_) (fun hc6 => ?_)
                · skip
                  refine tr_skip ?_
                  refine tr_then ?_
                  refine tr_seq ?_
                  refine tr_block ?_
                  refine tr_seq ?_
                  refine tr_r (vc := [(0 : Int) ≤ ((q : Nat) : Int), ((q : Nat) : Int) < ((firstS (ordL l) (most % 110)).length : Int)]) (E' := [(2, none, .p ((eL (eL eI 1 0) 1 []) n)), (7, none, vbool true), (8, none, .ref 0 []), (10, none, vint .i64 (most % 110)), (11, none, .p ((eL eS 1 []) (firstS (ordL l) (most % 110)))), (14, none, vint .i64 ((j : Nat) : Int)), (15, none, vstr (word (n.getD j []))), (16, none, vbool (((firstS (ordL l) (most % 110)).take q).contains (word (n.getD j [])))), (18, none, vstr ((firstS (ordL l) (most % 110)).getD q [])), (93, none, .p ((eL eS 1 []) (firstS (ordL l) (most % 110)))), (94, none, vint .i64 (((firstS (ordL l) (most % 110)).length : Nat) : Int)), (95, none, vint .i64 ((q : Nat) : Int))]) (H' := [.box (.p (eLang (ordL l)))]) [] [] [2, 7, 8, 10, 11, 14, 15, 16, 18, 93, 94, 95] (by kernel_rfl) ?_ ?_
                  · refine al ?_ (al ?_ (trivial))
                    · first | omega | (intro hg; simp at hg; omega) | (simp; done) | (simp_all; done) | (simp_all; omega) | grind -- r22.0
                    · first | omega | (intro hg; simp at hg; omega) | (simp; done) | (simp_all; done) | (simp_all; omega) | grind -- r22.1
                  refine tr_then ?_
                  refine tr_r (vc := [(!(((firstS (ordL l) (most % 110)).take q).contains (word (n.getD j [])))) = true → (!(((firstS (ordL l) (most % 110)).take q).contains (word (n.getD j [])))) = true, (!(((firstS (ordL l) (most % 110)).take q).contains (word (n.getD j [])))) = true → (!(((firstS (ordL l) (most % 110)).take q).contains (word (n.getD j [])))) = true, (!(((firstS (ordL l) (most % 110)).take q).contains (word (n.getD j [])))) = true → (!(((firstS (ordL l) (most % 110)).take q).contains (word (n.getD j [])))) = true]) (E' := [(2, none, .p ((eL (eL eI 1 0) 1 []) n)), (7, none, vbool true), (8, none, .ref 0 []), (10, none, vint .i64 (most % 110)), (11, none, .p ((eL eS 1 []) (firstS (ordL l) (most % 110)))), (14, none, vint .i64 ((j : Nat) : Int)), (15, none, vstr (word (n.getD j []))), (16, none, vbool ((((firstS (ordL l) (most % 110)).take q).contains (word (n.getD j []))) || (((firstS (ordL l) (most % 110)).getD q []) == (word (n.getD j []))))), (93, none, .p ((eL eS 1 []) (firstS (ordL l) (most % 110)))), (94, none, vint .i64 (((firstS (ordL l) (most % 110)).length : Nat) : Int)), (95, none, vint .i64 ((q : Nat) : Int))]) (H' := [.box (.p (eLang (ordL l)))]) [] [] [2, 7, 8, 10, 11, 14, 15, 16, 93, 94, 95] (by kernel_rfl) ?_ ?_
                  · refine al ?_ (al ?_ (al ?_ (trivial)))
                    · exact id -- r23.0
                    · exact id -- r23.1
                    · exact id -- r23.2
                  refine in_n ?_
                  refine tr_then ?_
                  refine tr_r (vc := [(IntKind.wrap .i64 (((q : Nat) : Int) + 1)) = (((q + 1) : Nat) : Int)]) (E' := [(2, none, .p ((eL (eL eI 1 0) 1 []) n)), (7, none, vbool true), (8, none, .ref 0 []), (10, none, vint .i64 (most % 110)), (11, none, .p ((eL eS 1 []) (firstS (ordL l) (most % 110)))), (14, none, vint .i64 ((j : Nat) : Int)), (15, none, vstr (word (n.getD j []))), (16, none, vbool ((((firstS (ordL l) (most % 110)).take q).contains (word (n.getD j []))) || (((firstS (ordL l) (most % 110)).getD q []) == (word (n.getD j []))))), (93, none, .p ((eL eS 1 []) (firstS (ordL l) (most % 110)))), (94, none, vint .i64 (((firstS (ordL l) (most % 110)).length : Nat) : Int)), (95, none, vint .i64 (((q + 1) : Nat) : Int))]) (H' := [.box (.p (eLang (ordL l)))]) [(0, vint .i64 (((q + 1) : Nat) : Int))] [] [2, 7, 8, 10, 11, 14, 15, 16, 93, 94, 95] (by kernel_rfl) ?_ ?_
                  · refine al ?_ (trivial)
                    · exact wr64 (by omega) (by omega) (by omega) -- r24.0
                  refine lp_end (q + 1) ?_ ?_ ?_
                  · show ((q + 1) ≤ (firstS (ordL l) (most % 110)).length)
                    · first | omega | (intro hg; simp at hg; omega) | (simp; done) | (simp_all; done) | (simp_all; omega) | grind -- l2.n.0
                  · show (firstS (ordL l) (most % 110)).length - (q + 1) < (firstS (ordL l) (most % 110)).length - q
                    omega
                  · intro A_ W_ hS
                    replace hS := sl_set (d := vbool ((((firstS (ordL l) (most % 110)).take q).contains (word (n.getD j []))) || (((firstS (ordL l) (most % 110)).getD q []) == (word (n.getD j []))))) 16 (vbool (((firstS (ordL l) (most % 110)).take (q + 1)).contains (word (n.getD j [])))) (by kernel_rfl) (eqD_bool (by exact cont_succ (by omega))) hS -- l2.e16
                    exact sl_weak (vc := []) [0] [2, 7, 8, 10, 11, 14, 15, 16, 93, 94, 95] (by kernel_rfl) trivial hS
                · skip
                  refine tr_exit ?_
                  refine th_e ?_
                  refine th_e ?_
                  refine in_hit ?_
                  refine tr_then ?_
                  refine tr_seq ?_
                  refine tr_r (vc := [(!(decide ((((firstS (ordL l) (most % 110)).length : Nat) : Int) < (min (most % 110) 100)))) = true → (!(decide ((((firstS (ordL l) (most % 110)).length : Nat) : Int) < (min (most % 110) 100)))) = true, (!(decide ((((firstS (ordL l) (most % 110)).length : Nat) : Int) < (min (most % 110) 100)))) = true → (!(decide ((((firstS (ordL l) (most % 110)).length : Nat) : Int) < (min (most % 110) 100)))) = true, (!(decide ((((firstS (ordL l) (most % 110)).length : Nat) : Int) < (min (most % 110) 100)))) = true → (!(decide ((((firstS (ordL l) (most % 110)).length : Nat) : Int) < (min (most % 110) 100)))) = true, ((!(decide ((((firstS (ordL l) (most % 110)).length : Nat) : Int) < (min (most % 110) 100)))) && (decide (0 < (((firstS (ordL l) (most % 110)).length : Nat) : Int)))) = true → ((!(decide ((((firstS (ordL l) (most % 110)).length : Nat) : Int) < (min (most % 110) 100)))) && (decide (0 < (((firstS (ordL l) (most % 110)).length : Nat) : Int)))) = true, ((!(decide ((((firstS (ordL l) (most % 110)).length : Nat) : Int) < (min (most % 110) 100)))) && (decide (0 < (((firstS (ordL l) (most % 110)).length : Nat) : Int)))) = true → ((!(decide ((((firstS (ordL l) (most % 110)).length : Nat) : Int) < (min (most % 110) 100)))) && (decide (0 < (((firstS (ordL l) (most % 110)).length : Nat) : Int)))) = true, ((!(decide ((((firstS (ordL l) (most % 110)).length : Nat) : Int) < (min (most % 110) 100)))) && (decide (0 < (((firstS (ordL l) (most % 110)).length : Nat) : Int)))) = true → ((IntKind.wrap .i64 ((((firstS (ordL l) (most % 110)).length : Nat) : Int) - 1)) = ((((firstS (ordL l) (most % 110)).length : Nat) : Int) - 1)), ((!(decide ((((firstS (ordL l) (most % 110)).length : Nat) : Int) < (min (most % 110) 100)))) && (decide (0 < (((firstS (ordL l) (most % 110)).length : Nat) : Int)))) = true → ((!(decide ((((firstS (ordL l) (most % 110)).length : Nat) : Int) < (min (most % 110) 100)))) && (decide (0 < (((firstS (ordL l) (most % 110)).length : Nat) : Int)))) = true, ((!(decide ((((firstS (ordL l) (most % 110)).length : Nat) : Int) < (min (most % 110) 100)))) && (decide (0 < (((firstS (ordL l) (most % 110)).length : Nat) : Int)))) = true → ((!(decide ((((firstS (ordL l) (most % 110)).length : Nat) : Int) < (min (most % 110) 100)))) && (decide (0 < (((firstS (ordL l) (most % 110)).length : Nat) : Int)))) = true, ((!(decide ((((firstS (ordL l) (most % 110)).length : Nat) : Int) < (min (most % 110) 100)))) && (decide (0 < (((firstS (ordL l) (most % 110)).length : Nat) : Int)))) = true → ((0 : Int) ≤ ((((firstS (ordL l) (most % 110)).length : Nat) : Int) - 1)), ((!(decide ((((firstS (ordL l) (most % 110)).length : Nat) : Int) < (min (most % 110) 100)))) && (decide (0 < (((firstS (ordL l) (most % 110)).length : Nat) : Int)))) = true → (((((firstS (ordL l) (most % 110)).length : Nat) : Int) - 1) < ((firstS (ordL l) (most % 110)).length : Int)), ((!(decide ((((firstS (ordL l) (most % 110)).length : Nat) : Int) < (min (most % 110) 100)))) && (decide (0 < (((firstS (ordL l) (most % 110)).length : Nat) : Int)))) = true → ((!(decide ((((firstS (ordL l) (most % 110)).length : Nat) : Int) < (min (most % 110) 100)))) && (decide (0 < (((firstS (ordL l) (most % 110)).length : Nat) : Int)))) = true, ((!(decide ((((firstS (ordL l) (most % 110)).length : Nat) : Int) < (min (most % 110) 100)))) && (decide (0 < (((firstS (ordL l) (most % 110)).length : Nat) : Int)))) = true → ((!(decide ((((firstS (ordL l) (most % 110)).length : Nat) : Int) < (min (most % 110) 100)))) && (decide (0 < (((firstS (ordL l) (most % 110)).length : Nat) : Int)))) = true, ((!(decide ((((firstS (ordL l) (most % 110)).length : Nat) : Int) < (min (most % 110) 100)))) && (decide (0 < (((firstS (ordL l) (most % 110)).length : Nat) : Int)))) = true → ((!(decide ((((firstS (ordL l) (most % 110)).length : Nat) : Int) < (min (most % 110) 100)))) && (decide (0 < (((firstS (ordL l) (most % 110)).length : Nat) : Int)))) = true, ((!(decide ((((firstS (ordL l) (most % 110)).length : Nat) : Int) < (min (most % 110) 100)))) && (decide (0 < (((firstS (ordL l) (most % 110)).length : Nat) : Int)))) = true → (Pure Try.prog 17 [.s (word (n.getD j [])), .s ((firstS (ordL l) (most % 110)).getD (((((firstS (ordL l) (most % 110)).length : Nat) : Int) - 1).toNat) [])] (vbool (bef (word (n.getD j [])) ((firstS (ordL l) (most % 110)).getD (((((firstS (ordL l) (most % 110)).length : Nat) : Int) - 1).toNat) [])))), (!(decide ((((firstS (ordL l) (most % 110)).length : Nat) : Int) < (min (most % 110) 100)))) = true → ((!(decide ((((firstS (ordL l) (most % 110)).length : Nat) : Int) < (min (most % 110) 100)))) = true → (!(decide ((((firstS (ordL l) (most % 110)).length : Nat) : Int) < (min (most % 110) 100)))) = true), ((!(decide ((((firstS (ordL l) (most % 110)).length : Nat) : Int) < (min (most % 110) 100)))) && (decide (0 < (((firstS (ordL l) (most % 110)).length : Nat) : Int)))) = true → ((!(decide ((((firstS (ordL l) (most % 110)).length : Nat) : Int) < (min (most % 110) 100)))) && (decide (0 < (((firstS (ordL l) (most % 110)).length : Nat) : Int)))) = true, (!(decide ((((firstS (ordL l) (most % 110)).length : Nat) : Int) < (min (most % 110) 100)))) = true → (!(decide ((((firstS (ordL l) (most % 110)).length : Nat) : Int) < (min (most % 110) 100)))) = true]) (E' := [(2, none, .p ((eL (eL eI 1 0) 1 []) n)), (7, none, vbool true), (8, none, .ref 0 []), (10, none, vint .i64 (most % 110)), (11, none, .p ((eL eS 1 []) (firstS (ordL l) (most % 110)))), (14, none, vint .i64 ((j : Nat) : Int)), (15, none, vstr (word (n.getD j []))), (16, none, vbool (((firstS (ordL l) (most % 110)).take q).contains (word (n.getD j [])))), (19, none, vbool ((decide ((((firstS (ordL l) (most % 110)).length : Nat) : Int) < (min (most % 110) 100))) || ((decide (0 < (((firstS (ordL l) (most % 110)).length : Nat) : Int))) && (bef (word (n.getD j [])) ((firstS (ordL l) (most % 110)).getD (((((firstS (ordL l) (most % 110)).length : Nat) : Int) - 1).toNat) [])))))]) (H' := [.box (.p (eLang (ordL l)))]) [(14, vint .i64 ((((firstS (ordL l) (most % 110)).length : Nat) : Int) - 1))] [(17, vbool (bef (word (n.getD j [])) ((firstS (ordL l) (most % 110)).getD (((((firstS (ordL l) (most % 110)).length : Nat) : Int) - 1).toNat) [])))] [2, 7, 8, 10, 11, 14, 15, 16, 19] (by kernel_rfl) ?_ ?_
                  · refine al ?_ (al ?_ (al ?_ (al ?_ (al ?_ (al ?_ (al ?_ (al ?_ (al ?_ (al ?_ (al ?_ (al ?_ (al ?_ (al ?_ (al ?_ (al ?_ (al ?_ (trivial)))))))))))))))))
                    · exact id -- r25.0
                    · exact id -- r25.1
                    · exact id -- r25.2
                    · exact id -- r25.3
                    · exact id -- r25.4
                    · intro _; exact wr64 (by omega) (by omega) (by omega) -- r25.5
                    · exact id -- r25.6
                    · exact id -- r25.7
                    · first | omega | (intro hg; simp at hg; omega) | (simp; done) | (simp_all; done) | (simp_all; omega) | grind -- r25.8
                    · first | omega | (intro hg; simp at hg; omega) | (simp; done) | (simp_all; done) | (simp_all; omega) | grind -- r25.9
                    · exact id -- r25.10
                    · exact id -- r25.11
                    · exact id -- r25.12
                    · intro _; exact before_ok _ _ (by have h1 := word_len (n.getD j []); omega) -- r25.13
                    · intro _; exact id -- r25.14
                    · exact id -- r25.15
                    · exact id -- r25.16
                  refine tr_then ?_
                  refine tr_seq ?_
                  refine tr_r (vc := [Pure Try.prog 16 [eLang (ordL l), .s (word (n.getD j []))] (vbool (has (ordL l) (word (n.getD j [])))), (has (ordL l) (word (n.getD j []))) = true → (has (ordL l) (word (n.getD j []))) = true, ((has (ordL l) (word (n.getD j []))) && ((decide ((((firstS (ordL l) (most % 110)).length : Nat) : Int) < (min (most % 110) 100))) || ((decide (0 < (((firstS (ordL l) (most % 110)).length : Nat) : Int))) && (bef (word (n.getD j [])) ((firstS (ordL l) (most % 110)).getD (((((firstS (ordL l) (most % 110)).length : Nat) : Int) - 1).toNat) []))))) = true → ((has (ordL l) (word (n.getD j []))) && ((decide ((((firstS (ordL l) (most % 110)).length : Nat) : Int) < (min (most % 110) 100))) || ((decide (0 < (((firstS (ordL l) (most % 110)).length : Nat) : Int))) && (bef (word (n.getD j [])) ((firstS (ordL l) (most % 110)).getD (((((firstS (ordL l) (most % 110)).length : Nat) : Int) - 1).toNat) []))))) = true, ((has (ordL l) (word (n.getD j []))) && ((decide ((((firstS (ordL l) (most % 110)).length : Nat) : Int) < (min (most % 110) 100))) || ((decide (0 < (((firstS (ordL l) (most % 110)).length : Nat) : Int))) && (bef (word (n.getD j [])) ((firstS (ordL l) (most % 110)).getD (((((firstS (ordL l) (most % 110)).length : Nat) : Int) - 1).toNat) []))))) = true → ((has (ordL l) (word (n.getD j []))) && ((decide ((((firstS (ordL l) (most % 110)).length : Nat) : Int) < (min (most % 110) 100))) || ((decide (0 < (((firstS (ordL l) (most % 110)).length : Nat) : Int))) && (bef (word (n.getD j [])) ((firstS (ordL l) (most % 110)).getD (((((firstS (ordL l) (most % 110)).length : Nat) : Int) - 1).toNat) []))))) = true]) (E' := [(2, none, .p ((eL (eL eI 1 0) 1 []) n)), (7, none, vbool true), (8, none, .ref 0 []), (10, none, vint .i64 (most % 110)), (11, none, .p ((eL eS 1 []) (firstS (ordL l) (most % 110)))), (14, none, vint .i64 ((j : Nat) : Int)), (135, none, vbool (((has (ordL l) (word (n.getD j []))) && ((decide ((((firstS (ordL l) (most % 110)).length : Nat) : Int) < (min (most % 110) 100))) || ((decide (0 < (((firstS (ordL l) (most % 110)).length : Nat) : Int))) && (bef (word (n.getD j [])) ((firstS (ordL l) (most % 110)).getD (((((firstS (ordL l) (most % 110)).length : Nat) : Int) - 1).toNat) []))))) && (!(((firstS (ordL l) (most % 110)).take q).contains (word (n.getD j []))))))]) (H' := [.box (.p (eLang (ordL l)))]) [] [(2, vbool (has (ordL l) (word (n.getD j []))))] [2, 7, 8, 10, 11, 14, 135] (by kernel_rfl) ?_ ?_
                  · refine al ?_ (al ?_ (al ?_ (al ?_ (trivial))))
                    · exact has_ok _ _ (by have h1 := word_len (n.getD j []); omega) -- r26.0
                    · exact id -- r26.1
                    · exact id -- r26.2
                    · exact id -- r26.3
                  refine tr_then ?_
                  refine tr_condP (((has (ordL l) (word (n.getD j []))) && ((decide ((((firstS (ordL l) (most % 110)).length : Nat) : Int) < (min (most % 110) 100))) || ((decide (0 < (((firstS (ordL l) (most % 110)).length : Nat) : Int))) && (bef (word (n.getD j [])) ((firstS (ordL l) (most % 110)).getD (((((firstS (ordL l) (most % 110)).length : Nat) : Int) - 1).toNat) []))))) && (!(((firstS (ordL l) (most % 110)).take q).contains (word (n.getD j []))))) ((((has (ordL l) (word (n.getD j []))) = true) ∧ (((((firstS (ordL l) (most % 110)).length : Nat) : Int) < (min (most % 110) 100)) ∨ ((0 < (((firstS (ordL l) (most % 110)).length : Nat) : Int)) ∧ ((bef (word (n.getD j [])) ((firstS (ordL l) (most % 110)).getD (((((firstS (ordL l) (most % 110)).length : Nat) : Int) - 1).toNat) [])) = true)))) ∧ ((((firstS (ordL l) (most % 110)).take q).contains (word (n.getD j []))) = false)) (by simp) (by kernel_rfl) (fun hc7 => ?_) (fun hc7 => ?_)
                  · exact absurd hc7 (by rintro ⟨⟨h1, h2⟩, h3⟩; rw [show q = (firstS (ordL l) (most % 110)).length by omega, List.take_length, List.contains_iff_mem.2 (firstS_full (by omega) (by have h1 := word_len (n.getD j []); omega) h1 (h2.imp id (fun h => ⟨by omega, by rw [show (firstS (ordL l) (most % 110)).length - 1 = (((firstS (ordL l) (most % 110)).length : Int) - 1).toNat by omega]; exact h.2⟩)))] at h3; cases h3)
                  · skip
                    refine tr_skip ?_
                    refine in_n ?_
                    refine tr_then ?_
                    refine tr_r (vc := [(IntKind.wrap .i64 (((j : Nat) : Int) + 1)) = (((j + 1) : Nat) : Int)]) (E' := [(2, none, .p ((eL (eL eI 1 0) 1 []) n)), (7, none, vbool true), (8, none, .ref 0 []), (10, none, vint .i64 (most % 110)), (11, none, .p ((eL eS 1 []) (firstS (ordL l) (most % 110)))), (14, none, vint .i64 (((j + 1) : Nat) : Int))]) (H' := [.box (.p (eLang (ordL l)))]) [(1, vint .i64 (((j + 1) : Nat) : Int))] [] [2, 7, 8, 10, 11, 14] (by kernel_rfl) ?_ ?_
                    · refine al ?_ (trivial)
                      · exact wr64 (by omega) (by omega) (by omega) -- r17.0
                    refine lp_end (j + 1) ?_ ?_ ?_
                    · show ((j + 1) ≤ n.length)
                      · first | omega | (intro hg; simp at hg; omega) | (simp; done) | (simp_all; done) | (simp_all; omega) | grind -- l1.n.0
                    · show n.length - (j + 1) < n.length - j
                      omega
                    · intro A_ W_ hS
                      exact sl_weak (vc := []) [0] [2, 7, 8, 10, 11, 14] (by kernel_rfl) trivial hS
            · skip
              refine tr_exit ?_
              refine th_e ?_
              refine th_e ?_
              refine in_hit ?_
              refine tr_then ?_
              refine tr_seq ?_
              refine tr_r (vc := []) (E' := [(6, none, vbool true)]) (H' := [.box (.p (eLang (ordL l)))]) [] [] [6] (by kernel_rfl) ?_ ?_
              · exact trivial
              refine tr_then ?_
              refine tr_pre (E' := [(6, none, vbool true)]) (H' := []) (fun A_ W_ hS => sl_weak (vc := []) [] [6] (by kernel_rfl) trivial hS) ?_
              exact tr_return' (vc := []) (ds := [vbool true]) (by kernel_rfl) trivial (by kernel_rfl) (fun _ _ h => h)
end Go.Proofs.Ytjnjmnfacaakfaa
namespace Go.Proofs.Ytjnjmnfacaakfaa
open Go.Eng Go.ChangeShapes Go.WideShapes Go.ChangeAt Go.RowKit Go.Deep
theorem own_ : ownKnob Try.prog.godebug = none := by kernel_rfl
theorem laidOut_ : laidOutB Try.prog = true := by kernel_rfl
theorem cells3_ : Try.prog.cellsOf 3 = 1 := by kernel_rfl
theorem cells22_ : Try.prog.cellsOf 22 = 1 := by kernel_rfl
theorem bytes3_ : 0 < Try.prog.bytesOf 3 := of_decide_eq_true (by kernel_rfl)
theorem bytes22_ : 0 < Try.prog.bytesOf 22 := of_decide_eq_true (by kernel_rfl)
theorem readable22_ : Try.prog.readableRec 22 = true ∧ 22 < Try.prog.types.size := ⟨by kernel_rfl, of_decide_eq_true (by kernel_rfl)⟩
theorem readable5_ : Try.prog.readableRec 5 = true ∧ 5 < Try.prog.types.size := ⟨by kernel_rfl, of_decide_eq_true (by kernel_rfl)⟩
theorem readable30_ : Try.prog.readableRec 30 = true ∧ 30 < Try.prog.types.size := ⟨by kernel_rfl, of_decide_eq_true (by kernel_rfl)⟩
set_option maxRecDepth 100000 in
theorem orders_contract (H : Type) (enc : TypeId × Value → H) (W : World) (base : Nat) (args : Array Value) (ds gs : List (DataW H)) (before : List MemPlace)
    (hval : ∀ (j : Nat) t v, Try.f5.params[j]? = some t → args[j]? = some v → Value.okWide Try.prog W .any base t v)
    (hW : DataW.Whole enc Try.prog Try.f5.params.toList Rows.languageOrdersSpec.vars false W args.toList ds gs before)
    (hz : (DataW.weightsEach Try.prog (Try.f5.params.toList ++ Rows.languageOrdersSpec.plain.varTypes Try.prog) (ds ++ gs)).all (· ≤ reachBytes) = true) :
    Calls Try.prog 5 args W fun e W' => ∃ v, e = .returned v ∧ Rows.languageOrdersSpec.post enc Try.prog Try.f5 false true false false W args v W' := by
  refine contract_of (tb := 4) laidOut_ ?_ rfl Try.underlying4 rfl ?_ hval hW hz ?_
  · intro t ht
    have ht' : t ∈ [22, 5, 30] := ht
    simp only [List.mem_cons, List.not_mem_nil, or_false] at ht'
    rcases ht' with rfl | rfl | rfl
    · exact readable22_
    · exact readable5_
    · exact readable30_
  · intro ds hds
    match ds, hds with
    | [_, _, _], _ => exact ⟨rfl, rfl, rfl⟩
  · intro hO
    obtain ⟨v0, d0, p0, e0, k0, t0, w0⟩ := hO 0 22 rfl
    obtain ⟨v1, d1, p1, e1, k1, t1, w1⟩ := hO 1 5 rfl
    obtain ⟨v2, d2, p2, e2, k2, t2, w2⟩ := hO 2 30 rfl
    obtain ⟨l, a0, g0⟩ := arg_ints Try.underlying22 Try.underlying3 cells3_ k0 t0
    obtain ⟨most, a1, g1⟩ := arg_int Try.underlying5 k1 t1
    obtain ⟨n, a2, g2⟩ := arg_rows Try.underlying30 Try.underlying22 Try.underlying3 cells22_ cells3_ k2 t2
    have hm : 0 ≤ most ∧ most ≤ 255 := by simpa [Lit.wf, IntKind.min, IntKind.max, IntKind.signed, IntKind.bits] using g1
    have z2 := weigh_sl Try.underlying30 bytes22_ g2 w2
    refine ⟨_, orders_ok l most n hm.1 (by omega) z2.1 (fun k hk => ?_), rfl, ?_⟩
    · obtain ⟨d', h1, h2⟩ := z2.2 k hk
      exact (weigh_sl Try.underlying22 bytes3_ h1 h2).1
    · intro j p v hp hv
      match j, hp, hv with
      | 0, hp, hv => cases hp; cases e0.symm.trans hv; exact a0
      | 1, hp, hv => cases hp; cases e1.symm.trans hv; exact a1
      | 2, hp, hv => cases hp; cases e2.symm.trans hv; exact a2
set_option maxRecDepth 100000 in
theorem orders_lifted (os : Os) (started : os.Started) (H : Type) (enc : TypeId × Value → H) :
    ReturnsInHanded {} Try.checked os 5 .any (Rows.languageOrdersSpec.pre6 enc Try.prog Try.f5 Rows.languageOrdersRow.domain false) (Rows.languageOrdersSpec.post enc Try.prog Try.f5 false true false false) := by
  refine returnsInHanded_of_change_sized (C := Try.checked) own_ started (by kernel_rfl) Try.func5
    (ChangeSpec.witness6 (enc := enc) (C := Try.checked) false ⟨#[], #[.slice none 0 0, .int .u8 0, .slice none 0 0], []⟩ 8 (by kernel_rfl) (by kernel_rfl) (by kernel_rfl) (by kernel_rfl)) ?_
  intro W base args ds gs before hval hW _ hz _
  exact orders_contract H enc W base args ds gs before hval hW hz
theorem ordersProved : Rows.LanguageOrdersSaid :=
  OpenClaim.holds_of_wide 5 Try.f5 rfl rfl rfl rfl rfl rfl rfl ⟨rfl, rfl, rfl, rfl, rfl⟩ rfl rfl rfl rfl rfl (by kernel_rfl) Try.func5 (by kernel_rfl)
    (of_decide_eq_true (by kernel_rfl)) (by unfold Func.isWrapper; first | (rw [if_pos (by decide +kernel)]; kernel_rfl) | (rw [if_neg (by decide +kernel)]; exact ⟨rfl, rfl⟩))
    (fun os started H enc _ => orders_lifted os started H enc)
end Go.Proofs.Ytjnjmnfacaakfaa

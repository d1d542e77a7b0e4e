/-
  GlyphReaches: whatever the input, the call returns true, and each argument reads afterwards as it read before; tied to the program's text.
-/
import Derived.Test.YtekhlnihpfkkkaaGreatDoorCG5D
import Derived.Test.YtekhlnihpfkkkaaGreatDoorCards
import Derived.Test.YtekhlnihpfkkkaaGreatDoorTie
import Derived.LaidMore
import Derived.SevenTiedAt
import Derived.Stop.Joined
set_option linter.unusedSimpArgs false
set_option linter.unusedVariables false
namespace Go.Proofs.YtekhlnihpfkkkaaGreatDoor
open Go.Eng
def fcM (h : Nat × Nat) : Int := if h.1 = 1 then 3 else if h.1 = 2 then 7 else if h.1 = 3 then 9 else 0
def fdM (h : Nat × Nat) : Int := if h.1 = 1 then 1 else if h.1 = 2 then 2 else if h.1 = 3 then 2 else 0
def rcM (h : Nat × Nat) : List Int := if h.1 = 0 then [] else [(h.2 : Int)]
theorem ver1_ok (h : Nat × Nat) (points : Int) (h1 : h.1 < 4) (hb : h.1 = 0 ∨ (h.2 : Int) < points) : Pure Tryz.prog 10 [eTs (hpM h), eI points] (.tup [.p (.agg [eI (fcM h), eI (fdM h), eIs (rcM h)]), vint .i64 0]) := by
 obtain ⟨a, n⟩ := h
 match a, h1, hb with
 | 0, _, _ => exact pure_le (verify0_ok points) ⟨⟨rfl, rfl, rfl, trivial⟩, rfl, trivial⟩
 | 1, _, .inr hb => exact pure_le (verify1_ok n points (by omega) hb) ⟨⟨rfl, rfl, ⟨rfl, fun j hj => by rcases j with _ | j <;> first | rfl | (exact absurd hj (by simp))⟩, trivial⟩, rfl, trivial⟩
 | 2, _, .inr hb => exact pure_le (verify2_ok n points (by omega) hb) ⟨⟨rfl, rfl, ⟨rfl, fun j hj => by rcases j with _ | j <;> first | rfl | (exact absurd hj (by simp))⟩, trivial⟩, rfl, trivial⟩
 | 3, _, .inr hb => exact pure_le (verify3_ok n points (by omega) hb) ⟨⟨rfl, rfl, ⟨rfl, fun j hj => by rcases j with _ | j <;> first | rfl | (exact absurd hj (by simp))⟩, trivial⟩, rfl, trivial⟩
theorem wrap2 (a : Int) : IntKind.wrap .i64 (IntKind.wrap .i64 a + 0) = IntKind.wrap .i64 a := by
 rw [IntKind.wrap_i64, IntKind.wrap_i64]; omega
theorem shF_sc (s : Int) (p : Pt) : shF 0 0 (scF s p) = scF s p := by
 simp only [shF, scF, wrap2]
theorem gRun0 (s : Int) (p : Pt) : gRun 0 s p = p := rfl
theorem gRun_on (c : Nat) (s : Int) (p : Pt) : (gRun c s p).2.2 = p.2.2 := by
 match c with
 | 0 => rfl
 | 1 => rfl
 | 2 => simp only [gRun, gP2]; split <;> rfl
 | 3 => rfl
 | n + 4 => rfl
theorem shF_on (x y : Int) (p : Pt) : (shF x y p).2.2 = p.2.2 := rfl
def ownL (g : Gl) (P : List Int) (s : Int) : List (List Pt) := (outS g P s).map (·.map (shF 0 0))
def insL (g : Gl) (P : List Int) : List (List Pt) := instS g.out g.del P
theorem own_len (g : Gl) (P : List Int) (s : Int) : (ownL g P s).length = (insL g P).length := by
 simp only [ownL, outS, insL, List.length_map]
 generalize instS g.out g.del P = o
 cases o <;> simp [scS, runS]
theorem own_row (g : Gl) (P : List Int) (s : Int) (c : Nat) (hc : c < (insL g P).length) : (ownL g P s).getD c [] = if c = 0 then ((insL g P).getD 0 []).mapIdx fun j p => shF 0 0 (if j = g.hint.2 then gRun g.hint.1 s (scF s p) else scF s p) else ((insL g P).getD c []).map (scF s) := by
 revert hc
 simp only [ownL, outS, insL]
 generalize instS g.out g.del P = o
 intro hc
 match o, c, hc with
 | r :: o, 0, _ =>
  simp only [scS, List.map_cons, runS, runC, List.getD_cons_zero, if_true]
  refine List.ext_getElem? fun j => ?_
  simp only [List.getElem?_map, List.getElem?_mapIdx]
  cases r[j]? with
  | none => rfl
  | some p => simp only [Option.map_some, shF_sc]
 | r :: o, c + 1, hc =>
  have hc : c < o.length := by simpa using hc
  simp only [scS, List.map_cons, runS, List.getD_cons_succ, if_neg (Nat.succ_ne_zero c), List.map_map]
  rw [getD_map_lt (e := []) hc]
  simp only [Function.comp_apply, List.map_map]
  refine List.map_congr_left fun p _ => ?_
  simp only [Function.comp_apply, shF_sc]
theorem own_rlen (g : Gl) (P : List Int) (s : Int) (c : Nat) (hc : c < (insL g P).length) : ((ownL g P s).getD c []).length = ((insL g P).getD c []).length := by
 rw [own_row g P s c hc]
 split
 ·rename_i h; subst h; simp
 ·simp
theorem own_pt (g : Gl) (P : List Int) (s : Int) (c i : Nat) (hc : c < (insL g P).length) (hi : i < ((insL g P).getD c []).length) :
  (((ownL g P s).getD c []).getD i pt0).2.2 = (((insL g P).getD c []).getD i pt0).2.2 ∧ (¬ (c = 0 ∧ i = g.hint.2 ∧ g.hint.1 ≠ 0) → ((ownL g P s).getD c []).getD i pt0 = scF s (((insL g P).getD c []).getD i pt0)) := by
 rw [own_row g P s c hc]
 by_cases h : c = 0
 ·subst h
  rw [if_pos rfl, getD_mapIdx_lt (e := pt0) hi]
  refine ⟨?_, fun hn => ?_⟩
  ·rw [shF_on]
   split
   ·rw [gRun_on]; rfl
   ·rfl
  ·split
   ·rename_i hi2
    have h0 : g.hint.1 = 0 := by
     rcases Nat.eq_zero_or_pos g.hint.1 with h | h
     ·exact h
     ·exact absurd ⟨rfl, hi2, by omega⟩ hn
    rw [h0, gRun0, shF_sc]
   ·rw [shF_sc]
 ·rw [if_neg h, getD_map_lt (e := pt0) hi]
  exact ⟨rfl, fun _ => rfl⟩
def lawD (l : List (List Int)) (p : List Int) (s : Int) : LawD :=
 let F := madeS (cutS l)
 let P := posS (p.take 8) F.axes.length
 { l2 := cutS l, F := F, P := P, s := s, own := fun k => ownL (F.gls.getD k gl0) P s, ins := fun k => insL (F.gls.getD k gl0) P, fc := fun k => fcM (F.gls.getD k gl0).hint, fd := fun k => fdM (F.gls.getD k gl0).hint, rc := fun k => rcM (F.gls.getD k gl0).hint, mv := fun k c i => (bif (((ownL (F.gls.getD k gl0) P s).getD c []).getD i pt0).1 != IntKind.wrap .i64 ((((insL (F.gls.getD k gl0) P).getD c []).getD i pt0).1 * s) then true else (((ownL (F.gls.getD k gl0) P s).getD c []).getD i pt0).2.1 != IntKind.wrap .i64 ((((insL (F.gls.getD k gl0) P).getD c []).getD i pt0).2.1 * s)), th := fun k c i z => ((rcM (F.gls.getD k gl0).hint).take z).any fun x => x == ((off (insL (F.gls.getD k gl0) P) c + i : Nat) : Int) }
theorem rcM_le (h : Nat × Nat) : (rcM h).length ≤ 1 := by
 simp only [rcM]; split <;> simp
theorem th_step (h : Nat × Nat) (x : Int) (z : Nat) (hz : z < (rcM h).length) : (bif ((rcM h).take z).any (fun y => y == x) then true else (rcM h).getD z 0 == x) = ((rcM h).take (z + 1)).any (fun y => y == x) := by
 have h1 := rcM_le h
 have e : z = 0 := by omega
 subst e
 match hr : rcM h, hz with
 | a :: r, _ => simp
theorem fin_step (g : Gl) (P : List Int) (s : Int) (c i : Nat) (hc : c < (insL g P).length) (hi : i < ((insL g P).getD c []).length) :
  (bif (bif (((ownL g P s).getD c []).getD i pt0).1 != IntKind.wrap .i64 ((((insL g P).getD c []).getD i pt0).1 * s) then true else (((ownL g P s).getD c []).getD i pt0).2.1 != IntKind.wrap .i64 ((((insL g P).getD c []).getD i pt0).2.1 * s)) then !(((rcM g.hint).take (rcM g.hint).length).any fun x => x == ((off (insL g P) c + i : Nat) : Int)) else false) = false := by
 obtain ⟨_, h2⟩ := own_pt g P s c i hc hi
 by_cases h : c = 0 ∧ i = g.hint.2 ∧ g.hint.1 ≠ 0
 ·obtain ⟨rfl, rfl, h3⟩ := h
  have e : ((rcM g.hint).take (rcM g.hint).length).any (fun x => x == ((off (insL g P) 0 + g.hint.2 : Nat) : Int)) = true := by
   simp [rcM, h3, off]
  rw [e]
  generalize (bif _ then true else _ : Bool) = b
  cases b <;> rfl
 ·rw [h2 h]
  simp [scF]
theorem gls9 (l : List (List Int)) (p : List Int) (s : Int) : (lawD l p s).F.gls.length = 9 := gls_len _
theorem law_k (l : List (List Int)) (p : List Int) (s : Int) (h0 : 6 ≤ s) (h1 : s < 12) (k : Nat) (hk : k < 9) (hp : ((lawD l p s).g k).parts.length = 0) : OkK (lawD l p s) k := by
 have hA : (lawD l p s).F.axes.length ≤ 2 := by
  show (madeS (cutS l)).axes.length ≤ 2
  rw [axes_len]; exact mdA_le _
 have hP : (lawD l p s).P.length = (lawD l p s).F.axes.length := posS_len _ _
 have hb : ∀ i, i < (lawD l p s).P.length → -64 ≤ (lawD l p s).P.getD i 0 ∧ (lawD l p s).P.getD i 0 ≤ 64 := fun i hi => posS_in _ _ i (by rw [hP] at hi; exact hi)
 have hv : Pure Tryz.prog 44 [eFn (lawD l p s).F] (vint .i64 0) := made_valid (cutS l)
 have hg : k < (lawD l p s).F.gls.length := by rw [gls9]; exact hk
 have eg : (lawD l p s).F.gls.getD k gl0 = glM (cutS l) (mdA ((cutS l).getD 0 [])) k := gls_at _ hk
 have hparts : ((lawD l p s).F.gls.getD k gl0).parts = [] := List.eq_nil_of_length_eq_zero hp
 have hk6 : k ≠ 6 := by
  rintro rfl
  rw [eg, (gl6_at _ _).2.2.1] at hparts
  simp [glPts] at hparts
 have hax : (lawD l p s).F.axes.length = mdA ((cutS l).getD 0 []) := axes_len _
 -- what holds of the glyph, with points or without
 have main : Pure Tryz.prog 8 [eFn (lawD l p s).F, eI k, eIs (lawD l p s).P, eI (lawD l p s).s] (.tup [.p (eO ((lawD l p s).own k)), vint .i64 0]) ∧
   Pure Tryz.prog 9 [eO ((lawD l p s).g k).out, eDls ((lawD l p s).g k).del, eIs (lawD l p s).P] (.tup [.p (eO ((lawD l p s).ins k)), vint .i64 0]) ∧
   ((lawD l p s).g k).out.length ≤ 2 ^ 40 ∧ cnt ((lawD l p s).g k).out ≤ 2 ^ 40 ∧
   ((lawD l p s).g k).hint.1 < 4 ∧ (((lawD l p s).g k).hint.1 = 0 ∨ (((lawD l p s).g k).hint.2 : Int) < cnt ((lawD l p s).g k).out) ∧ ((lawD l p s).own k).length < 2 ^ 20 ∧ cnt ((lawD l p s).ins k) < 2 ^ 20 := by
  by_cases hk0 : k = 0
  ·subst hk0
   have ob : OkBl ((lawD l p s).F.gls.getD 0 gl0) := by rw [eg]; exact okBl_M _ _
   have ei : (lawD l p s).ins 0 = [] := by
    show insL ((lawD l p s).F.gls.getD 0 gl0) (lawD l p s).P = []
    rw [insL, ob.out]; rfl
   have eo : (lawD l p s).own 0 = [] := by
    have := own_len ((lawD l p s).F.gls.getD 0 gl0) (lawD l p s).P s
    rw [show insL ((lawD l p s).F.gls.getD 0 gl0) (lawD l p s).P = [] from ei] at this
    exact List.eq_nil_of_length_eq_zero this
   have e1 : ((lawD l p s).g 0).out = [] := ob.out
   have e2 : ((lawD l p s).g 0).del = [] := ob.del
   have e3 : ((lawD l p s).g 0).hint = (0, 0) := ob.hint
   refine ⟨?_, ?_, by rw [e1]; simp, by rw [e1]; simp [cnt, off], by rw [e3]; decide, .inl (by rw [e3]), by rw [eo]; simp, by rw [ei]; simp [cnt, off]⟩
   ·rw [eo]
    exact outlineB_ok _ 0 _ s hv hg hparts ob hP (by omega) hb h0 h1
   ·exact instance_ok _ _ _ (by rw [e1]; simp) (by rw [e1]; simp [cnt, off]) (by rw [e2]; simp) (by omega) (by rw [e2]; simp)
  ·have og : OkGl ((lawD l p s).F.gls.getD k gl0) (lawD l p s).P.length := by
    rw [eg, hP, hax]; exact okGl_M _ _ k hk0 hk6
   have hl := shp_len og.shp
   have hi := shp_len (shp_inst og.shp ((lawD l p s).F.gls.getD k gl0).del (lawD l p s).P)
   refine ⟨outline_ok _ k _ s hv hg hparts og hP (by omega) hb h0 h1, instance_ok _ _ _ (Nat.le_trans hl.1 (by decide)) (Nat.le_trans hl.2.1 (by decide)) og.dl (by omega) og.del, Nat.le_trans hl.1 (by decide), Nat.le_trans hl.2.1 (by decide), og.h1, .inr ?_, ?_, ?_⟩
   ·have := og.h2
    have := hl.2.2.1
    simp only [LawD.g]; omega
   ·rw [show ((lawD l p s).own k).length = _ from own_len _ _ _]
    exact Nat.lt_of_le_of_lt hi.1 (by decide)
   ·exact Nat.lt_of_le_of_lt hi.2.1 (by decide)
 obtain ⟨m1, m2, m3, m4, m5, m6, m7, m8⟩ := main
 have hrow : ∀ c, c < ((lawD l p s).own k).length → c < (insL ((lawD l p s).F.gls.getD k gl0) (lawD l p s).P).length := fun c hc => by
  rw [show ((lawD l p s).own k).length = _ from own_len _ _ _] at hc; exact hc
 exact ⟨m1, m2, count_ok _ m3 m4, ver1_ok _ _ m5 m6, own_len _ _ _, ⟨m7, m8⟩, rcM_le _, fun c hc => own_rlen _ _ _ c (hrow c hc), fun c i hc hi => rfl, fun c i hc hi => (own_pt _ _ _ c i (hrow c hc) hi).1, fun c i => rfl, fun c i z hz => th_step _ _ z hz, fun c i hc hi => fin_step _ _ _ c i (hrow c hc) hi⟩
theorem law_ok (l : List (List Int)) (p : List Int) (z : Int) (hl : l.length < 2 ^ 60) (hc : ∀ k, (l.getD k []).length < 2 ^ 60) (hp : p.length < 2 ^ 62) (hz : 0 ≤ z ∧ z < 256) : Pure Tryz.prog 3 [eLL l, eIs p, .v (.int .u8 z)] (vbool true) := by
 have e1 : z.tmod 6 = z % 6 := Int.tmod_eq_emod_of_nonneg hz.1
 have e2 : IntKind.wrap .i64 (z % 6) = z % 6 := wr64 (by omega) (by omega) rfl
 have hcl : (cutS l).length = cutN l := len_rm _ _
 have hc2 : ∀ k, ((cutS l).getD k []).length < 2 ^ 40 := fun k => by
  by_cases h : k < cutN l
  ·rw [show (cutS l).getD k [] = (l.getD k []).take 40 from getD_rm h, List.length_take]; omega
  ·rw [getD_ge (by omega)]; simp
 have hA : (madeS (cutS l)).axes.length ≤ 2 := by rw [axes_len]; exact mdA_le _
 refine law_of (lawD l p (6 + z % 6)) l p z sanity_ok (cut_ok l hl hc) (made_ok (cutS l) (by rw [hcl, cutN]; omega) hc2) (pos_ok _ _ (by rw [List.length_take]; omega) (by show (madeS (cutS l)).axes.length < 2 ^ 20; omega)) ?_ (by rw [gls9]; decide) (fun k hk hpk => law_k l p _ (by omega) (by omega) k (by rw [gls9] at hk; exact hk) hpk)
 rw [e1, e2]
 exact wr64 (by omega) (by omega) rfl
end Go.Proofs.YtekhlnihpfkkkaaGreatDoor
namespace Go.Proofs.YtekhlnihpfkkkaaGreatDoor
open Go.Eng Go.ChangeShapes Go.WideShapes Go.ChangeAt Go.RowKit Go.Deep
theorem own_ : ownKnob Tryz.prog.godebug = none := by kernel_rfl
theorem laidOut_ : laidOutB Tryz.prog = true := by kernel_rfl
theorem cells3_ : Tryz.prog.cellsOf 3 = 1 := by kernel_rfl
theorem cells23_ : Tryz.prog.cellsOf 23 = 1 := by kernel_rfl
theorem bytes3_ : 0 < Tryz.prog.bytesOf 3 := of_decide_eq_true (by kernel_rfl)
theorem bytes23_ : 0 < Tryz.prog.bytesOf 23 := of_decide_eq_true (by kernel_rfl)
theorem bytes3_8 : 8 ≤ Tryz.prog.bytesOf 3 := of_decide_eq_true (by kernel_rfl)
theorem bytes23_8 : 8 ≤ Tryz.prog.bytesOf 23 := of_decide_eq_true (by kernel_rfl)
theorem readable22_ : Tryz.prog.readableRec 22 = true ∧ 22 < Tryz.prog.types.size := ⟨by kernel_rfl, of_decide_eq_true (by kernel_rfl)⟩
theorem readable5_ : Tryz.prog.readableRec 5 = true ∧ 5 < Tryz.prog.types.size := ⟨by kernel_rfl, of_decide_eq_true (by kernel_rfl)⟩
theorem readable23_ : Tryz.prog.readableRec 23 = true ∧ 23 < Tryz.prog.types.size := ⟨by kernel_rfl, of_decide_eq_true (by kernel_rfl)⟩
theorem weigh8 {P : Program} {H : Type} {α : Type} {Good : α → DataW H → Prop} {d0 : α} {l : List α} {d : DataW H} {t e : TypeId} (ht : P.underlying t = some (.slice e)) (hb : 8 ≤ P.bytesOf e) (h : IsSl Good d0 l d) (hw : ∀ n ∈ d.weights P t, n ≤ reachBytes) : l.length < 2 ^ 44 := by
 rcases h with ⟨rfl, rfl⟩ | ⟨Ds, rest, rfl, hl, hd⟩
 ·simp
 ·have h1 := hw ((Ds.length + rest.length) * P.bytesOf e) (by simp [DataW.weights, ht])
  rw [hl] at h1
  have h2 : reachBytes < 2 ^ 47 := reachBytes_lt
  have h3 : l.length * 8 ≤ (l.length + rest.length) * P.bytesOf e := Nat.mul_le_mul (by omega) hb
  omega
set_option maxRecDepth 100000 in
theorem reaches_contract (H : Type) (enc : TypeId × Value → H) (W : World) (base : Nat) (args : Array Value) (ds gs : List (DataW H)) (before : List MemPlace)
  (hval : ∀ (j : Nat) t v, Tryz.f3.params[j]? = some t → args[j]? = some v → Value.okWide Tryz.prog W .any base t v)
  (hW : DataW.Whole enc Tryz.prog Tryz.f3.params.toList Rows.glyphReachesSpec.vars false W args.toList ds gs before)
  (hz : (DataW.weightsEach Tryz.prog (Tryz.f3.params.toList ++ Rows.glyphReachesSpec.plain.varTypes Tryz.prog) (ds ++ gs)).all (· ≤ reachBytes) = true) (hL : laidMetH Tryz.prog Rows.glyphReachesRow.laid W) :
  Calls Tryz.prog 3 args W fun e W' => ∃ v, e = .returned v ∧ Rows.glyphReachesSpec.post enc Tryz.prog Tryz.f3 false true false false W args v W' := by
 refine contract_of (tb := 4) laidOut_ ?_ rfl Tryz.underlying4 rfl ?_ (glob_of_laid hL) hval hW hz ?_
 ·intro t ht
  have ht' : t ∈ [22, 23, 5] := ht
  simp only [List.mem_cons, List.not_mem_nil, or_false] at ht'
  rcases ht' with rfl | rfl | rfl
  ·exact readable22_
  ·exact readable23_
  ·exact readable5_
 ·intro ds hds
  match ds, hds with
  | [_, _, _], _ => exact ⟨rfl, rfl, rfl⟩
 ·intro hO
  obtain ⟨v0, d0, p0, e0, k0, t0, w0⟩ := hO 0 22 rfl
  obtain ⟨v1, d1, p1, e1, k1, t1, w1⟩ := hO 1 23 rfl
  obtain ⟨v2, d2, p2, e2, k2, t2, w2⟩ := hO 2 5 rfl
  obtain ⟨l, a0, g0⟩ := arg_rows Tryz.underlying22 Tryz.underlying23 Tryz.underlying3 cells23_ cells3_ k0 t0
  obtain ⟨p, a1, g1⟩ := arg_ints Tryz.underlying23 Tryz.underlying3 cells3_ k1 t1
  obtain ⟨z, a2, g2⟩ := arg_int Tryz.underlying5 k2 t2
  have hm : 0 ≤ z ∧ z ≤ 255 := by simpa [Lit.wf, IntKind.min, IntKind.max, IntKind.signed, IntKind.bits] using g2
  have z0 := weigh_sl Tryz.underlying22 bytes23_ g0 w0
  have z1 := weigh_sl Tryz.underlying23 bytes3_ g1 w1
  refine ⟨_, law_ok l p z ?_ (fun k => ?_) z1.1 (by omega), rfl, ?_⟩
  ·have := weigh8 Tryz.underlying22 bytes23_8 g0 w0; omega
  ·by_cases hk : k < l.length
   ·obtain ⟨d', h1, h2⟩ := z0.2 k hk
    have := weigh8 Tryz.underlying23 bytes3_8 h1 h2
    omega
   ·rw [getD_ge (by omega)]; simp
  ·intro j p v hp hv
   match j, hp, hv with
   | 0, hp, hv => cases hp; cases e0.symm.trans hv; exact a0
   | 1, hp, hv => cases hp; cases e1.symm.trans hv; exact a1
   | 2, hp, hv => cases hp; cases e2.symm.trans hv; exact a2
theorem door_met (os : Os) (args : Array Value) : laidMetH Tryz.prog Rows.glyphReachesRow.laid ((World.doorLaid Tryz.prog 39 os).forCall (fun _ _ => 0) ⟨#[], args, []⟩).memory :=
 laidMetH_of_parts3 (fuel := 8) (laidMet_of_run' 8 (by kernel_rfl) (by kernel_rfl)) (by kernel_rfl) (by kernel_rfl)
set_option maxRecDepth 100000 in
theorem reaches_lifted (os : Os) (started : os.Started) (H : Type) (enc : TypeId × Value → H) :
  ReturnsInHanded {} Tryz.checked os 3 .any (fun w args => (Rows.glyphReachesSpec.pre enc Tryz.prog Tryz.f3 [] false w args ∧ laidMetH Tryz.prog Rows.glyphReachesRow.laid w) ∧ sizedMet enc Tryz.prog Tryz.f3 (OpenSpec.ofChange Rows.glyphReachesSpec) false w args)
   (Rows.glyphReachesSpec.post enc Tryz.prog Tryz.f3 false true false false) := by
 refine returnsInHanded_of_change_and (C := Tryz.checked) (X := fun w _ => laidMetH Tryz.prog Rows.glyphReachesRow.laid w) (fun _ _ _ hh h => h.of_heap hh) own_ started (by kernel_rfl) Tryz.func3
  (ChangeSpec.witness_shaped (enc := enc) (C := Tryz.checked) (os := os) (X := fun w _ => laidMetH Tryz.prog Rows.glyphReachesRow.laid w) false (World.doorLaid Tryz.prog 39 os) #[.slice none 0 0, .slice none 0 0, .int .u8 0] 8 rfl (World.shaped_of_RefB (by kernel_rfl) (by kernel_rfl)) (by kernel_rfl) (by kernel_rfl) (by kernel_rfl) (door_met os _)) ?_
 intro W base args ds gs before hval hW _ hz hL _
 exact reaches_contract H enc W base args ds gs before hval hW hz hL
theorem reachesProved : Rows.GlyphReachesSaid :=
 OpenClaim.holds_of_wide 3 Tryz.f3 rfl rfl rfl rfl rfl rfl rfl ⟨rfl, rfl, rfl, rfl, rfl⟩ rfl rfl rfl rfl rfl (by kernel_rfl) Tryz.func3 (by kernel_rfl)
  (of_decide_eq_true (by kernel_rfl)) (by unfold Func.isWrapper; first | (rw [if_pos (by decide +kernel)]; kernel_rfl) | (rw [if_neg (by decide +kernel)]; exact ⟨rfl, rfl⟩))
  (fun os started H enc _ => reaches_lifted os started H enc)
theorem reachesCard : Rows.GlyphReachesCardSaid :=
 Claim7.holds_tied_plain_at .later [] [.widerDeep, .funcs] true (true, "93a0c4d6d9dde37796b4e49d91c9805a0ed1de738cc1f460477cc78b73770645") true
  reachesProved (fun _ h => by cases h) (by kernel_rfl) (fun _ h => by cases h) glyphReaches_row_tie rfl ⟨rfl, rfl⟩ (by kernel_rfl) rfl
  (fun f fn hf hfn => by
   obtain rfl : f = 3 := Option.some.inj ((show Tryz.prog.funcNamed "indelible/indeliblelaw11.GlyphReaches" = some 3 by kernel_rfl).symm.trans hf) |>.symm
   obtain rfl : fn = Tryz.f3 := (Option.some.inj (Tryz.func3.symm.trans hfn)).symm
   exact ⟨by kernel_rfl, fun j t ht => by
    rw [Tryz.params3] at ht
    have hm : t ∈ [22, 23, 5] := by simpa using Array.mem_of_getElem? ht
    have hall : ([22, 23, 5].all fun u => !Tryz.prog.wantsStandIn u) = true := by kernel_rfl
    exact (show Tryz.prog.wantsStandIn t = false by simpa using List.all_eq_true.1 hall t hm)⟩)
  (by kernel_rfl)
end Go.Proofs.YtekhlnihpfkkkaaGreatDoor

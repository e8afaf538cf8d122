/- part 13 of the proof -/
import Derived.Test.YthelplgdpmhepaaGreatDoorT11
import Derived.Test.YthelplgdpmhepaaGreatDoorT12
set_option linter.all false
open Go Go.Abs Go.Proofs
set_option maxRecDepth 100000
namespace Go.Rd
def togL : List Bool := [true, true, true, true, false, true, true, false, false, false, true, false, true, false, false, true, false, false, false, false, false, false, false, false, false]
def boolsC (l : List Bool) : List AV := l.map fun b => .v (.bool b)
@[go_sem] theorem bools_kill (S T : List Nat) (l : List Bool) : killL S T (boolsC l) = boolsC l := by
  induction l with
  | nil => rfl
  | cons x l ih => simp only [boolsC, List.map_cons, killL, AV.kill] at ih ⊢; rw [ih]
@[go_sem] theorem bools_frz (S : List Nat) (l : List Bool) : freezeL S (boolsC l) = boolsC l := by
  induction l with
  | nil => rfl
  | cons x l ih => simp only [boolsC, List.map_cons, freezeL, AV.freeze] at ih ⊢; rw [ih]
@[go_sem] theorem bools_ren (ρ : Rn) (l : List Bool) : renL ρ (boolsC l) = boolsC l := by
  induction l with
  | nil => rfl
  | cons x l ih => simp only [boolsC, List.map_cons, renL, AV.ren] at ih ⊢; rw [ih]
@[go_sem] theorem bools_len (l : List Bool) : (boolsC l).length = l.length := by simp [boolsC]
@[go_sem] theorem bools_ok (l : List Bool) : okCells (boolsC l) = true := by
  induction l with
  | nil => rfl
  | cons x l ih => simp only [boolsC, List.map_cons, okCells, okCell, Value.oneCell'] at ih ⊢; rw [ih]; rfl
theorem bools_one (l : List Bool) (k : Nat) (h : k < l.length) : ((boolsC l).drop k).take 1 = [.v (.bool (l.getD k false))] := by
  rw [List.drop_eq_getElem_cons (by simpa [boolsC] using h)]
  simp [boolsC, List.getD, h]
def tog : List AV := boolsC togL
noncomputable abbrev C0 : Ctx := ⟨Tryz.prog, fun i => if i = 0 then some tog else none⟩
@[go_sem] theorem ev_g0 (st : St) : ev C0 st (.global 0) = .ep .no 0 tog 0 := rfl
def between (n a b : Int) : Bool := decide (a ≤ n) && decide (n ≤ b)
theorem f112_ok (n a b : Int) : FnOK C0 112 [I n, I a, I b] [] (B (between n a b)) [] := by
  refine FnOK.intro (fn := Tryz.f112) (c := Tryz.f112.body.getD .skip) (by kernel_rfl) (by kernel_rfl) (by kernel_rfl) (by kernel_rfl) (by simp [Tryz.f112]) (by simp [names]) ?_
  unfold Tryz.f112
  simp (disch := omega) only [go_sem]
  refine ⟨fun h => ?_, fun h => ?_⟩
  · refine ret_mk ⟨[], [], []⟩ _ (by (try simp (disch := omega) only [go_sem, resVs, resV]) <;> rfl) ⟨rfl, rfl⟩ (by simp) ?_ trivial
    simp (disch := omega) only [go_sem]
    exact .eq (by simp [between, h])
  · refine ret_mk ⟨[], [], []⟩ _ (by (try simp (disch := omega) only [go_sem, resVs, resV]) <;> rfl) ⟨rfl, rfl⟩ (by simp) ?_ trivial
    simp (disch := omega) only [go_sem]
    exact .eq (by simp [between, h])
def Proc.ok (p : Proc) : Bool := between p.site 0 3 && between p.inc 1 99 && between p.num 1 999
theorem f72_ok (p : Proc) : FnOK C0 72 [.agg p.c] [] (B p.ok) [] := by
  refine FnOK.intro (fn := Tryz.f72) (c := Tryz.f72.body.getD .skip) (by kernel_rfl) (by kernel_rfl) (by kernel_rfl) (by kernel_rfl) (by simp [Tryz.f72]) (by simp [names]) ?_
  unfold Tryz.f72
  simp (disch := omega) only [go_sem]
  refine call_pure (f112_ok p.site 0 3) (by simp (disch := omega) only [go_sem]) rfl ?_
  simp (disch := omega) only [go_sem]
  refine ⟨fun h => ?_, fun h => ?_⟩
  · refine call_pure (f112_ok p.inc 1 99) (by simp (disch := omega) only [go_sem]) rfl ?_
    simp (disch := omega) only [go_sem]
    refine ⟨fun h2 => ?_, fun h2 => ?_⟩
    · refine call_pure (f112_ok p.num 1 999) (by simp (disch := omega) only [go_sem]) rfl ?_
      simp (disch := omega) only [go_sem]
      refine ret_mk ⟨[], [], []⟩ _ (by (try simp (disch := omega) only [go_sem, resVs, resV]) <;> rfl) ⟨rfl, rfl⟩ (by simp) ?_ trivial
      simp (disch := omega) only [go_sem]
      exact .eq (by simp [Proc.ok, h, h2])
    · refine ret_mk ⟨[], [], []⟩ _ (by (try simp (disch := omega) only [go_sem, resVs, resV]) <;> rfl) ⟨rfl, rfl⟩ (by simp) ?_ trivial
      simp (disch := omega) only [go_sem]
      exact .eq (by simp [Proc.ok, h, h2])
  · refine ret_mk ⟨[], [], []⟩ _ (by (try simp (disch := omega) only [go_sem, resVs, resV]) <;> rfl) ⟨rfl, rfl⟩ (by simp) ?_ trivial
    simp (disch := omega) only [go_sem]
    exact .eq (by simp [Proc.ok, h])
def cmpP (p q : Proc) : Int := if p.site < q.site then -1 else if q.site < p.site then 1 else if p.inc < q.inc then -1 else if q.inc < p.inc then 1 else if p.num < q.num then -1 else if q.num < p.num then 1 else 0
theorem f81_ok (p q : Proc) : FnOK C0 81 [.agg p.c, .agg q.c] [] (I (cmpP p q)) [] := by
  refine FnOK.intro (fn := Tryz.f81) (c := Tryz.f81.body.getD .skip) (by kernel_rfl) (by kernel_rfl) (by kernel_rfl) (by kernel_rfl) (by simp [Tryz.f81]) (by simp [names]) ?_
  unfold Tryz.f81
  simp (disch := omega) only [go_sem]
  refine loop_intro (α := Nat) (fun i => ⟨[(8, I i), (7, .agg p.c), (3, .ptr 192 0)], [(192, q.c)]⟩) (fun i => i ≤ 3 ∧ (1 ≤ i → p.site = q.site) ∧ (2 ≤ i → p.inc = q.inc) ∧ (3 ≤ i → p.num = q.num)) (fun i => 3 - i) 0 (by simp) ?_ ?_
  · exact Imp.weak (by simp (disch := omega) only [go_sem]) (by simp (disch := omega) only [go_sem])
  rintro i ⟨hi, h1, h2, h3⟩ J hJ
  obtain rfl | rfl | rfl | rfl : i = 0 ∨ i = 1 ∨ i = 2 ∨ i = 3 := by omega
  · simp (disch := omega) only [go_sem]
    refine ⟨fun h => ?_, fun h => ⟨fun h' => ?_, fun h' => ?_⟩⟩
    · refine ret_mk ⟨[], [], []⟩ _ (by (try simp (disch := omega) only [go_sem, resVs, resV]) <;> rfl) ⟨rfl, rfl⟩ (by simp) ?_ trivial
      simp (disch := omega) only [go_sem]
      exact .eq (by simp at h; simp [cmpP, h])
    · refine ret_mk ⟨[], [], []⟩ _ (by (try simp (disch := omega) only [go_sem, resVs, resV]) <;> rfl) ⟨rfl, rfl⟩ (by simp) ?_ trivial
      simp (disch := omega) only [go_sem]
      exact .eq (by simp at h h'; simp [cmpP, h']; omega)
    · refine hJ _ 1 ⟨by omega, fun _ => by simp at h h'; omega, by omega, by omega⟩ (by omega) (Imp.weak (by simp (disch := omega) only [go_sem]) (by simp (disch := omega) only [go_sem]))
  · simp (disch := omega) only [go_sem]
    refine ⟨fun h => ?_, fun h => ⟨fun h' => ?_, fun h' => ?_⟩⟩
    · refine ret_mk ⟨[], [], []⟩ _ (by (try simp (disch := omega) only [go_sem, resVs, resV]) <;> rfl) ⟨rfl, rfl⟩ (by simp) ?_ trivial
      simp (disch := omega) only [go_sem]
      exact .eq (by simp at h; simp [cmpP, h, h1])
    · refine ret_mk ⟨[], [], []⟩ _ (by (try simp (disch := omega) only [go_sem, resVs, resV]) <;> rfl) ⟨rfl, rfl⟩ (by simp) ?_ trivial
      simp (disch := omega) only [go_sem]
      exact .eq (by simp at h h'; simp [cmpP, h', h1]; omega)
    · refine hJ _ 2 ⟨by omega, fun _ => h1 (by omega), fun _ => by simp at h h'; omega, by omega⟩ (by omega) (Imp.weak (by simp (disch := omega) only [go_sem]) (by simp (disch := omega) only [go_sem]))
  · simp (disch := omega) only [go_sem]
    refine ⟨fun h => ?_, fun h => ⟨fun h' => ?_, fun h' => ?_⟩⟩
    · refine ret_mk ⟨[], [], []⟩ _ (by (try simp (disch := omega) only [go_sem, resVs, resV]) <;> rfl) ⟨rfl, rfl⟩ (by simp) ?_ trivial
      simp (disch := omega) only [go_sem]
      exact .eq (by simp at h; simp [cmpP, h, h1, h2])
    · refine ret_mk ⟨[], [], []⟩ _ (by (try simp (disch := omega) only [go_sem, resVs, resV]) <;> rfl) ⟨rfl, rfl⟩ (by simp) ?_ trivial
      simp (disch := omega) only [go_sem]
      exact .eq (by simp at h h'; simp [cmpP, h', h1, h2]; omega)
    · refine hJ _ 3 ⟨by omega, fun _ => h1 (by omega), fun _ => h2 (by omega), fun _ => by simp at h h'; omega⟩ (by omega) (Imp.weak (by simp (disch := omega) only [go_sem]) (by simp (disch := omega) only [go_sem]))
  · simp (disch := omega) only [go_sem]
    refine ret_mk ⟨[], [], []⟩ _ (by (try simp (disch := omega) only [go_sem, resVs, resV]) <;> rfl) ⟨rfl, rfl⟩ (by simp) ?_ trivial
    simp (disch := omega) only [go_sem]
    exact .eq (by simp [cmpP, h1, h2, h3])
theorem f47_ok (p q : Proc) : FnOK C0 47 [.agg p.c, .agg q.c] [] (I (cmpP p q)) [] := by
  refine FnOK.intro (fn := Tryz.f47) (c := Tryz.f47.body.getD .skip) (by kernel_rfl) (by kernel_rfl) (by kernel_rfl) (by kernel_rfl) (by simp [Tryz.f47]) (by simp [names]) ?_
  unfold Tryz.f47
  simp (disch := omega) only [go_sem]
  refine call_pure (f81_ok p q) (by simp (disch := omega) only [go_sem]) rfl ?_
  simp (disch := omega) only [go_sem]
  refine ret_mk ⟨[], [], []⟩ _ (by (try simp (disch := omega) only [go_sem, resVs, resV]) <;> rfl) ⟨rfl, rfl⟩ (by simp) ?_ trivial
  simp (disch := omega) only [go_sem]
def nextG (g : Int) : Int := if g < 0 ∨ 1073741824 ≤ g then 1 else g + 1
theorem f210_ok (g : Int) : FnOK C0 210 [I g] [] (I (nextG g)) [] := by
  refine FnOK.intro (fn := Tryz.f210) (c := Tryz.f210.body.getD .skip) (by kernel_rfl) (by kernel_rfl) (by kernel_rfl) (by kernel_rfl) (by simp [Tryz.f210]) (by simp [names]) ?_
  unfold Tryz.f210
  simp (disch := omega) only [go_sem]
  repeat' (with_reducible refine And.intro (fun h => ?_) (fun h => ?_))
  all_goals (refine ret_mk ⟨[], [], []⟩ _ (by (try simp (disch := omega) only [go_sem, resVs, resV]) <;> rfl) ⟨rfl, rfl⟩ (by simp) ?_ trivial)
  all_goals (try simp (disch := omega) only [go_sem])
  all_goals (refine .eq ?_)
  all_goals (first | (simp_all [nextG, IntKind.wrap, IntKind.signed, IntKind.bits] <;> omega) | (refine Bool.eq_iff_iff.2 ?_; simp_all [nextG, IntKind.wrap, IntKind.signed, IntKind.bits] <;> omega))
def Amt.zero (a : Amt) : Bool := a.mode == 0 && a.units == 0
theorem f211_ok (a : Amt) : FnOK C0 211 [.agg a.c] [] (B a.zero) [] := by
  refine FnOK.intro (fn := Tryz.f211) (c := Tryz.f211.body.getD .skip) (by kernel_rfl) (by kernel_rfl) (by kernel_rfl) (by kernel_rfl) (by simp [Tryz.f211]) (by simp [names]) ?_
  unfold Tryz.f211
  simp (disch := omega) only [go_sem]
  repeat' (with_reducible refine And.intro (fun h => ?_) (fun h => ?_))
  all_goals (refine ret_mk ⟨[], [], []⟩ _ (by (try simp (disch := omega) only [go_sem, resVs, resV]) <;> rfl) ⟨rfl, rfl⟩ (by simp) ?_ trivial)
  all_goals (try simp (disch := omega) only [go_sem])
  all_goals (refine .eq ?_)
  all_goals (first | (simp_all [Amt.zero] <;> omega) | (refine Bool.eq_iff_iff.2 ?_; simp_all [Amt.zero] <;> omega))
def Res.shaped (r : Res) : Bool := if r.kind = 1 then r.units == 1 else if r.kind = 2 then between r.units 1 8 else false
theorem f252_ok (r : Res) : FnOK C0 252 [.agg r.c] [] (B r.shaped) [] := by
  refine FnOK.intro (fn := Tryz.f252) (c := Tryz.f252.body.getD .skip) (by kernel_rfl) (by kernel_rfl) (by kernel_rfl) (by kernel_rfl) (by simp [Tryz.f252]) (by simp [names]) ?_
  unfold Tryz.f252
  simp (disch := omega) only [go_sem]
  repeat' (with_reducible refine And.intro (fun h => ?_) (fun h => ?_))
  all_goals (refine ret_mk ⟨[], [], []⟩ _ (by (try simp (disch := omega) only [go_sem, resVs, resV]) <;> rfl) ⟨rfl, rfl⟩ (by simp) ?_ trivial)
  all_goals (try simp (disch := omega) only [go_sem])
  all_goals (refine .eq ?_)
  all_goals (first | (simp_all [Res.shaped, between] <;> omega) | (refine Bool.eq_iff_iff.2 ?_; simp_all [Res.shaped, between] <;> omega))
def modeOK (m : Int) : Bool := between m 1 5
theorem f259_ok (m : Int) : FnOK C0 259 [I m] [] (B (modeOK m)) [] := by
  refine FnOK.intro (fn := Tryz.f259) (c := Tryz.f259.body.getD .skip) (by kernel_rfl) (by kernel_rfl) (by kernel_rfl) (by kernel_rfl) (by simp [Tryz.f259]) (by simp [names]) ?_
  unfold Tryz.f259
  simp (disch := omega) only [go_sem]
  repeat' (with_reducible refine And.intro (fun h => ?_) (fun h => ?_))
  all_goals (refine ret_mk ⟨[], [], []⟩ _ (by (try simp (disch := omega) only [go_sem, resVs, resV]) <;> rfl) ⟨rfl, rfl⟩ (by simp) ?_ trivial)
  all_goals (try simp (disch := omega) only [go_sem])
  all_goals (refine .eq ?_)
  all_goals (first | (simp_all [modeOK, between] <;> omega) | (refine Bool.eq_iff_iff.2 ?_; simp_all [modeOK, between] <;> omega))
def Res.fits (r : Res) (a : Amt) : Bool := r.shaped && (if r.kind = 1 then modeOK a.mode && a.units == 0 else a.mode == 0 && between a.units 1 r.units)
theorem f221_ok (r : Res) (a : Amt) : FnOK C0 221 [.agg r.c, .agg a.c] [] (B (r.fits a)) [] := by
  refine FnOK.intro (fn := Tryz.f221) (c := Tryz.f221.body.getD .skip) (by kernel_rfl) (by kernel_rfl) (by kernel_rfl) (by kernel_rfl) (by simp [Tryz.f221]) (by simp [names]) ?_
  unfold Tryz.f221
  simp (disch := omega) only [go_sem]
  repeat' (first
    | (with_reducible refine And.intro (fun h => ?_) (fun h => ?_))
    | ((with_reducible show callB _ _ 252 _ _ _); refine call_pure (f252_ok r) ?_ rfl ?_; (focus (simp (disch := omega) only [go_sem]; done)); try simp (disch := omega) only [go_sem])
    | ((with_reducible show callB _ _ 259 _ _ _); refine call_pure (f259_ok a.mode) ?_ rfl ?_; (focus (simp (disch := omega) only [go_sem]; done)); try simp (disch := omega) only [go_sem]))
  all_goals (refine ret_mk ⟨[], [], []⟩ _ (by (try simp (disch := omega) only [go_sem, resVs, resV]) <;> rfl) ⟨rfl, rfl⟩ (by simp) ?_ trivial)
  all_goals (try simp (disch := omega) only [go_sem])
  all_goals (refine .eq ?_)
  all_goals (first | (simp_all [Res.fits, between] <;> omega) | (refine Bool.eq_iff_iff.2 ?_; simp_all [Res.fits, between] <;> omega))
def Res.permits (r : Res) (a : Amt) : Bool := r.shaped && (a.zero || r.fits a)
theorem f271_ok (r : Res) (a : Amt) : FnOK C0 271 [.agg r.c, .agg a.c] [] (B (r.permits a)) [] := by
  refine FnOK.intro (fn := Tryz.f271) (c := Tryz.f271.body.getD .skip) (by kernel_rfl) (by kernel_rfl) (by kernel_rfl) (by kernel_rfl) (by simp [Tryz.f271]) (by simp [names]) ?_
  unfold Tryz.f271
  simp (disch := omega) only [go_sem]
  repeat' (first
    | (with_reducible refine And.intro (fun h => ?_) (fun h => ?_))
    | ((with_reducible show callB _ _ 252 _ _ _); refine call_pure (f252_ok r) ?_ rfl ?_; (focus (simp (disch := omega) only [go_sem]; done)); try simp (disch := omega) only [go_sem])
    | ((with_reducible show callB _ _ 211 _ _ _); refine call_pure (f211_ok a) ?_ rfl ?_; (focus (simp (disch := omega) only [go_sem]; done)); try simp (disch := omega) only [go_sem])
    | ((with_reducible show callB _ _ 221 _ _ _); refine call_pure (f221_ok r a) ?_ rfl ?_; (focus (simp (disch := omega) only [go_sem]; done)); try simp (disch := omega) only [go_sem]))
  all_goals (refine ret_mk ⟨[], [], []⟩ _ (by (try simp (disch := omega) only [go_sem, resVs, resV]) <;> rfl) ⟨rfl, rfl⟩ (by simp) ?_ trivial)
  all_goals (try simp (disch := omega) only [go_sem])
  all_goals (refine .eq ?_)
  all_goals (first | (simp_all [Res.permits] <;> omega) | (refine Bool.eq_iff_iff.2 ?_; simp_all [Res.permits] <;> omega))
def cov (m : Int) : List Bool := if m = 5 then [false, true, true, true, true, true] else if m = 4 then [false, true, true, true, true, false] else if m = 2 then [false, true, true, false, false, false] else if m = 1 then [false, true, false, false, false, false] else if m = 3 then [false, true, false, true, false, false] else [false, false, false, false, false, false]
theorem f278_ok (m : Int) : FnOK C0 278 [I m] [] (.agg (boolsC (cov m))) [] := by
  refine FnOK.intro (fn := Tryz.f278) (c := Tryz.f278.body.getD .skip) (by kernel_rfl) (by kernel_rfl) (by kernel_rfl) (by kernel_rfl) (by simp [Tryz.f278]) (by simp [names]) ?_
  unfold Tryz.f278
  simp (disch := omega) only [go_sem]
  repeat' (first
    | (with_reducible refine And.intro (fun h => ?_) (fun h => ?_))
)
  all_goals (refine ret_mk ⟨[], [], []⟩ _ (by (try simp (disch := omega) only [go_sem, resVs, resV]) <;> rfl) ⟨rfl, rfl⟩ (by simp) ?_ trivial)
  all_goals (try simp (disch := omega) only [go_sem])
  all_goals (refine .eq ?_)
  all_goals (first | (simp_all [cov, boolsC] <;> omega) | (refine Bool.eq_iff_iff.2 ?_; simp_all [cov, boolsC] <;> omega))
def coversM (a b : Int) : Bool := modeOK a && modeOK b && (cov a).getD b.toNat false
theorem mode_cases {m : Int} (h : modeOK m = true) : m = 1 ∨ m = 2 ∨ m = 3 ∨ m = 4 ∨ m = 5 := by
  simp [modeOK, between] at h
  omega
theorem cov_len (m : Int) : (cov m).length = 6 := by
  unfold cov
  repeat' split
  all_goals rfl
theorem f274_ok (a b : Int) : FnOK C0 274 [I a, I b] [] (B (coversM a b)) [] := by
  refine FnOK.intro (fn := Tryz.f274) (c := Tryz.f274.body.getD .skip) (by kernel_rfl) (by kernel_rfl) (by kernel_rfl) (by kernel_rfl) (by simp [Tryz.f274]) (by simp [names]) ?_
  unfold Tryz.f274
  simp (disch := omega) only [go_sem]
  refine call_pure (f259_ok a) (by simp (disch := omega) only [go_sem]) rfl ?_
  simp (disch := omega) only [go_sem]
  refine And.intro (fun h => ?_) (fun h => ?_)
  · refine call_pure (f259_ok b) (by simp (disch := omega) only [go_sem]) rfl ?_
    simp (disch := omega) only [go_sem]
    refine And.intro (fun h' => ?_) (fun h' => ?_)
    · have h1 := mode_cases h'
      have hb : (b < 6) = True := by simp; omega
      have hb0 : (0 ≤ b) = True := by simp; omega
      have hl := cov_len a
      refine call_pure (y' := .agg (boolsC (cov a))) (f278_ok a) (by simp (disch := omega) only [go_sem]) (by simp (disch := omega) only [go_sem]) ?_
      simp (disch := omega) only [go_sem, hl, bools_one, hb, hb0, Nat.mul_one]
      refine ret_mk ⟨[], [], []⟩ _ (by (try simp (disch := omega) only [go_sem, resVs, resV]) <;> rfl) ⟨rfl, rfl⟩ (by simp) ?_ trivial
      simp (disch := omega) only [go_sem]
      exact .eq (by simp [coversM, h, h'])
    · refine ret_mk ⟨[], [], []⟩ _ (by (try simp (disch := omega) only [go_sem, resVs, resV]) <;> rfl) ⟨rfl, rfl⟩ (by simp) ?_ trivial
      simp (disch := omega) only [go_sem]
      exact .eq (by simp [coversM, h, h'])
  · refine ret_mk ⟨[], [], []⟩ _ (by (try simp (disch := omega) only [go_sem, resVs, resV]) <;> rfl) ⟨rfl, rfl⟩ (by simp) ?_ trivial
    simp (disch := omega) only [go_sem]
    exact .eq (by simp [coversM, h])
def compatM (a b : Int) : Bool := modeOK a && modeOK b && togL.getD ((a - 1) * 5 + (b - 1)).toNat false
theorem f272_ok (a b : Int) : FnOK C0 272 [I a, I b] [] (B (compatM a b)) [] := by
  refine FnOK.intro (fn := Tryz.f272) (c := Tryz.f272.body.getD .skip) (by kernel_rfl) (by kernel_rfl) (by kernel_rfl) (by kernel_rfl) (by simp [Tryz.f272]) (by simp [names]) ?_
  unfold Tryz.f272
  simp (disch := omega) only [go_sem]
  refine call_pure (f259_ok a) (by simp (disch := omega) only [go_sem]) rfl ?_
  simp (disch := omega) only [go_sem]
  refine And.intro (fun h => ?_) (fun h => ?_)
  · refine call_pure (f259_ok b) (by simp (disch := omega) only [go_sem]) rfl ?_
    simp (disch := omega) only [go_sem]
    refine And.intro (fun h' => ?_) (fun h' => ?_)
    · have h1 := mode_cases h
      have h2 := mode_cases h'
      have ha : (a - 1 < 5) = True := by simp; omega
      have ha0 : (0 ≤ a - 1) = True := by simp; omega
      have hb : (b - 1 < 5) = True := by simp; omega
      have hb0 : (0 ≤ b - 1) = True := by simp; omega
      have hl : togL.length = 25 := rfl
      have hk : ((a - 1) * 5 + (b - 1)).toNat = 0 + (a - 1).toNat * 5 + (b - 1).toNat * 1 := by omega
      simp (disch := omega) only [go_sem, tog, hl, bools_one, ha, ha0, hb, hb0, Nat.mul_one]
      refine ret_mk ⟨[], [], []⟩ _ (by (try simp (disch := omega) only [go_sem, resVs, resV]) <;> rfl) ⟨rfl, rfl⟩ (by simp) ?_ trivial
      simp (disch := omega) only [go_sem]
      exact .eq (by simp [compatM, h, h', hk])
    · refine ret_mk ⟨[], [], []⟩ _ (by (try simp (disch := omega) only [go_sem, resVs, resV]) <;> rfl) ⟨rfl, rfl⟩ (by simp) ?_ trivial
      simp (disch := omega) only [go_sem]
      exact .eq (by simp [compatM, h, h'])
  · refine ret_mk ⟨[], [], []⟩ _ (by (try simp (disch := omega) only [go_sem, resVs, resV]) <;> rfl) ⟨rfl, rfl⟩ (by simp) ?_ trivial
    simp (disch := omega) only [go_sem]
    exact .eq (by simp [compatM, h])
def Res.covers (r : Res) (a b : Amt) : Bool := r.permits a && r.permits b && (if a.zero || b.zero then b.zero else if r.kind = 1 then coversM a.mode b.mode else decide (b.units ≤ a.units))
theorem f256_ok (r : Res) (a b : Amt) : FnOK C0 256 [.agg r.c, .agg a.c, .agg b.c] [] (B (r.covers a b)) [] := by
  refine FnOK.intro (fn := Tryz.f256) (c := Tryz.f256.body.getD .skip) (by kernel_rfl) (by kernel_rfl) (by kernel_rfl) (by kernel_rfl) (by simp [Tryz.f256]) (by simp [names]) ?_
  unfold Tryz.f256
  simp (disch := omega) only [go_sem]
  repeat' (first
    | (with_reducible refine And.intro (fun h => ?_) (fun h => ?_))
    | ((with_reducible show callB _ _ 271 _ _ _); refine call_pure (f271_ok r a) ?_ rfl ?_; (focus (simp (disch := omega) only [go_sem]; done)); try simp (disch := omega) only [go_sem])
    | ((with_reducible show callB _ _ 271 _ _ _); refine call_pure (f271_ok r b) ?_ rfl ?_; (focus (simp (disch := omega) only [go_sem]; done)); try simp (disch := omega) only [go_sem])
    | ((with_reducible show callB _ _ 211 _ _ _); refine call_pure (f211_ok a) ?_ rfl ?_; (focus (simp (disch := omega) only [go_sem]; done)); try simp (disch := omega) only [go_sem])
    | ((with_reducible show callB _ _ 211 _ _ _); refine call_pure (f211_ok b) ?_ rfl ?_; (focus (simp (disch := omega) only [go_sem]; done)); try simp (disch := omega) only [go_sem])
    | ((with_reducible show callB _ _ 274 _ _ _); refine call_pure (f274_ok a.mode b.mode) ?_ rfl ?_; (focus (simp (disch := omega) only [go_sem]; done)); try simp (disch := omega) only [go_sem]))
  all_goals (refine ret_mk ⟨[], [], []⟩ _ (by (try simp (disch := omega) only [go_sem, resVs, resV]) <;> rfl) ⟨rfl, rfl⟩ (by simp) ?_ trivial)
  all_goals (try simp (disch := omega) only [go_sem])
  all_goals (refine .eq ?_)
  all_goals (first | (simp_all [Res.covers] <;> omega) | (refine Bool.eq_iff_iff.2 ?_; simp_all [Res.covers] <;> omega))
end Go.Rd
open Go Go.Abs Go.Proofs
set_option maxRecDepth 100000
namespace Go.Rd
@[go_sem] theorem procEq (p q : Proc) : (p.site == q.site && (p.inc == q.inc && p.num == q.num)) = decide (p = q) := by
  cases p; cases q
  refine Bool.eq_iff_iff.2 ?_
  simp
@[go_sem] theorem amtEq (p q : Amt) : (p.mode == q.mode && p.units == q.units) = decide (p = q) := by
  cases p; cases q
  refine Bool.eq_iff_iff.2 ?_
  simp
def getH (l : List Hold) (p : Proc) : Amt := match l.find? (fun h => decide (h.proc = p)) with
  | some h => h.amt
  | none => ⟨0, 0⟩
theorem find_take {α : Type} {f : α → Bool} {l : List α} {i : Nat} {b : α} (h : (l.take i).find? f = none) (hb : l[i]? = some b) : (l.take (i + 1)).find? f = if f b then some b else none := by
  rw [List.take_add_one, hb, List.find?_append, h]
  simp [List.find?]
theorem find_at {α : Type} {f : α → Bool} {l : List α} {i : Nat} {b : α} (h : (l.take i).find? f = none) (hb : l[i]? = some b) (hf : f b = true) : l.find? f = some b := by
  have h1 := find_take h hb
  rw [hf] at h1
  conv => lhs; rw [← List.take_append_drop (i + 1) l]
  rw [List.find?_append, h1]
  rfl
theorem f273_ok (l : List Hold) (p : Proc) (hl : l.length ≤ 1000000) : FnOK C0 273 [holdsV l, .agg p.c] [] (.agg (getH l p).c) [] := by
  refine FnOK.intro (fn := Tryz.f273) (c := Tryz.f273.body.getD .skip) (by kernel_rfl) (by kernel_rfl) (by kernel_rfl) (by kernel_rfl) (by simp [Tryz.f273]) (by simp [names]) ?_
  unfold Tryz.f273
  simp (disch := omega) only [go_sem]
  refine loop_intro (α := Nat) (fun i => ⟨[(9, I i), (8, I l.length), (7, holdsV l), (3, .ptr 192 0), (4, .ptr 256 0)], [(192, p.c), (256, (⟨0, 0⟩ : Amt).c)]⟩) (fun i => i ≤ (l).length ∧ (l.take i).find? (fun h => decide (h.proc = p)) = none) (fun i => (l).length - i) 0 ⟨by omega, rfl⟩ ?_ ?_
  · refine Imp.weak ?_ ?_
    all_goals (try simp (disch := omega) only [go_sem])
    all_goals (try (repeat' (with_reducible apply And.intro)))
    all_goals (first | exact .nilOwn (by omega) | exact .nilNo (by omega) | exact .sl (by simp []) | exact .int (by simp []) | exact .eq (by simp []))
  rintro i ⟨hi, hP⟩ J hJ
  simp (disch := omega) only [go_sem]
  refine And.intro (fun hlt => ?_) (fun hge => ?_)
  rotate_left
  have hil : i = (l).length := by simp at hge; omega
  rotate_left
  obtain ⟨b, hb⟩ : ∃ b, (l)[i]? = some b := ⟨_, List.getElem?_eq_getElem (by simp at hlt; omega)⟩
  have hbm := List.mem_of_getElem? hb
  simp (disch := omega) only [go_sem, List.getElem?_map, hb]
  · refine And.intro (fun h => ?_) (fun h => ?_)
    · have e : getH l p = b.amt := by unfold getH; rw [find_at hP hb (by simpa using h)]
      simp (disch := omega) only [go_sem, e]
      refine ret_mk ⟨[], [], []⟩ _ (by (try simp (disch := omega) only [go_sem, resVs, resV]) <;> rfl) ⟨rfl, rfl⟩ (by simp) ?_ trivial
      simp (disch := omega) only [go_sem]
    · refine hJ _ (i + 1) ⟨by simp at hlt; omega, (by rw [find_take hP hb]; simp at h; simp [h])⟩ (by simp at hlt; omega) (Imp.weak (by simp (disch := omega) only [go_sem]) (by simp (disch := omega) only [go_sem]))
  · subst hil
    rw [List.take_length] at hP
    have e : getH l p = ⟨0, 0⟩ := by unfold getH; rw [hP]
    simp (disch := omega) only [go_sem, e]
    refine ret_mk ⟨[], [], []⟩ _ (by (try simp (disch := omega) only [go_sem, resVs, resV]) <;> rfl) ⟨rfl, rfl⟩ (by simp) ?_ trivial
    simp (disch := omega) only [go_sem]
def procsH (l : List Hold) : List Proc := l.map (·.proc)
theorem f160_ok (l : List Hold) (hl : l.length ≤ 1000000) : FnOK C0 160 [holdsV l] [] (procsV (procsH l)) [] := by
  refine FnOK.intro (fn := Tryz.f160) (c := Tryz.f160.body.getD .skip) (by kernel_rfl) (by kernel_rfl) (by kernel_rfl) (by kernel_rfl) (by simp [Tryz.f160]) (by simp [names]) ?_
  unfold Tryz.f160
  simp (disch := omega) only [go_sem]
  refine loop_intro (α := Nat) (fun i => ⟨[(8, I i), (7, I l.length), (6, holdsV l), (3, .sl (.own 1024 0) 3 ((procsH (l.take i)).map Proc.c))], []⟩) (fun i => i ≤ (l).length ∧ True) (fun i => (l).length - i) 0 ⟨by omega, trivial⟩ ?_ ?_
  · refine Imp.weak ?_ ?_
    all_goals (try simp (disch := omega) only [go_sem])
    all_goals (try (repeat' (with_reducible apply And.intro)))
    all_goals (first | exact .nilOwn (by omega) | exact .nilNo (by omega) | exact .sl (by simp []) | exact .int (by simp []) | exact .eq (by simp []))
  rintro i ⟨hi, hP⟩ J hJ
  simp (disch := omega) only [go_sem]
  refine And.intro (fun hlt => ?_) (fun hge => ?_)
  rotate_left
  have hil : i = (l).length := by simp at hge; omega
  rotate_left
  obtain ⟨b, hb⟩ : ∃ b, (l)[i]? = some b := ⟨_, List.getElem?_eq_getElem (by simp at hlt; omega)⟩
  have hbm := List.mem_of_getElem? hb
  simp (disch := omega) only [go_sem, List.getElem?_map, hb]
  · simp (disch := omega) only [go_sem, procsH]
    refine hJ _ (i + 1) ⟨by simp at hlt; omega, trivial⟩ (by simp at hlt; omega) (Imp.weak ?_ (by simp (disch := omega) only [go_sem]))
    simp (disch := omega) only [go_sem]
    exact .sl (by simp [procsH, List.take_add_one, hb, Proc.c])
  · subst hil
    refine ret_mk ⟨[], [], [1024]⟩ _ (by (try simp (disch := omega) only [go_sem, resVs, resV]) <;> rfl) ⟨rfl, rfl⟩ (by simp) ?_ trivial
    simp (disch := omega) only [go_sem, List.take_length]
theorem f254_ok (q : Queue) (p : Proc) (hl : q.holds.length ≤ 1000000) : FnOK C0 254 [.agg q.c, .agg p.c] [] (.agg (getH q.holds p).c) [] := by
  refine FnOK.intro (fn := Tryz.f254) (c := Tryz.f254.body.getD .skip) (by kernel_rfl) (by kernel_rfl) (by kernel_rfl) (by kernel_rfl) (by simp [Tryz.f254]) (by simp [names]) ?_
  unfold Tryz.f254
  simp (disch := omega) only [go_sem]
  refine call_pure (f273_ok q.holds p hl) (by simp (disch := omega) only [go_sem]) rfl ?_
  simp (disch := omega) only [go_sem]
  refine ret_mk ⟨[], [], []⟩ _ (by (try simp (disch := omega) only [go_sem, resVs, resV]) <;> rfl) ⟨rfl, rfl⟩ (by simp) ?_ trivial
  simp (disch := omega) only [go_sem]
def findW (l : List Wait) (p : Proc) : Int := match l.findIdx? (fun h => decide (h.proc = p)) with
  | some i => i
  | none => -1
theorem idx_take {α : Type} {f : α → Bool} {l : List α} {i : Nat} (h : (l.take i).find? f = none) : ∀ b, l[i]? = some b → f b = true → l.findIdx? f = some i := by
  intro b hb hf
  rw [List.findIdx?_eq_some_iff_getElem]
  have hi : i < l.length := by
    rcases Nat.lt_or_ge i l.length with h | h
    · exact h
    · rw [List.getElem?_eq_none h] at hb; cases hb
  refine ⟨hi, ?_, fun j hj => ?_⟩
  · rw [List.getElem?_eq_getElem hi] at hb
    injection hb with hb
    rw [hb]; exact hf
  · rw [List.find?_eq_none] at h
    have := h (l[j]) (by
      rw [List.mem_take_iff_getElem]
      exact ⟨j, by omega, rfl⟩)
    simpa using this
theorem f255_ok (l : List Wait) (p : Proc) (hl : l.length ≤ 1000000) : FnOK C0 255 [waitsV l, .agg p.c] [] (I (findW l p)) [] := by
  refine FnOK.intro (fn := Tryz.f255) (c := Tryz.f255.body.getD .skip) (by kernel_rfl) (by kernel_rfl) (by kernel_rfl) (by kernel_rfl) (by simp [Tryz.f255]) (by simp [names]) ?_
  unfold Tryz.f255
  simp (disch := omega) only [go_sem]
  refine loop_intro (α := Nat) (fun i => ⟨[(9, I i), (8, I l.length), (7, waitsV l), (3, .ptr 192 0)], [(192, p.c)]⟩) (fun i => i ≤ (l).length ∧ (l.take i).find? (fun h => decide (h.proc = p)) = none) (fun i => (l).length - i) 0 ⟨by omega, rfl⟩ ?_ ?_
  · refine Imp.weak ?_ ?_
    all_goals (try simp (disch := omega) only [go_sem])
    all_goals (try (repeat' (with_reducible apply And.intro)))
    all_goals (first | exact .nilOwn (by omega) | exact .nilNo (by omega) | exact .sl (by simp []) | exact .int (by simp []) | exact .eq (by simp []))
  rintro i ⟨hi, hP⟩ J hJ
  simp (disch := omega) only [go_sem]
  refine And.intro (fun hlt => ?_) (fun hge => ?_)
  rotate_left
  have hil : i = (l).length := by simp at hge; omega
  rotate_left
  obtain ⟨b, hb⟩ : ∃ b, (l)[i]? = some b := ⟨_, List.getElem?_eq_getElem (by simp at hlt; omega)⟩
  have hbm := List.mem_of_getElem? hb
  simp (disch := omega) only [go_sem, List.getElem?_map, hb]
  · refine And.intro (fun h => ?_) (fun h => ?_)
    · have e : findW l p = i := by unfold findW; rw [idx_take hP b hb (by simpa using h)]
      simp (disch := omega) only [go_sem, e]
      refine ret_mk ⟨[], [], []⟩ _ (by (try simp (disch := omega) only [go_sem, resVs, resV]) <;> rfl) ⟨rfl, rfl⟩ (by simp) ?_ trivial
      simp (disch := omega) only [go_sem]
    · refine hJ _ (i + 1) ⟨by simp at hlt; omega, (by rw [find_take hP hb]; simp at h; simp [h])⟩ (by simp at hlt; omega) (Imp.weak (by simp (disch := omega) only [go_sem]) (by simp (disch := omega) only [go_sem]))
  · subst hil
    rw [List.take_length] at hP
    have e : findW l p = -1 := by
      unfold findW
      have : l.findIdx? (fun h => decide (h.proc = p)) = none := by
        rw [List.findIdx?_eq_none_iff]
        rw [List.find?_eq_none] at hP
        intro x hx
        simpa using hP x hx
      rw [this]
    simp (disch := omega) only [go_sem, e]
    refine ret_mk ⟨[], [], []⟩ _ (by (try simp (disch := omega) only [go_sem, resVs, resV]) <;> rfl) ⟨rfl, rfl⟩ (by simp) ?_ trivial
    simp (disch := omega) only [go_sem]
def reserved (s : Bs) : Bool := s == [97, 108, 108] || s == [97, 110, 121] || s == [111, 102] || s == [112, 114, 105, 111] || s == [108, 105, 109, 105, 116]
theorem f258_ok (s : Bs) : FnOK C0 258 [.v (.string (str s))] [] (B (reserved s)) [] := by
  refine FnOK.intro (fn := Tryz.f258) (c := Tryz.f258.body.getD .skip) (by kernel_rfl) (by kernel_rfl) (by kernel_rfl) (by kernel_rfl) (by simp [Tryz.f258]) (by simp [names]) ?_
  unfold Tryz.f258
  simp (disch := omega) only [go_sem]
  repeat' (first
    | (with_reducible refine And.intro (fun h => ?_) (fun h => ?_))
)
  all_goals (refine ret_mk ⟨[], [], []⟩ _ (by (try simp (disch := omega) only [go_sem, resVs, resV]) <;> rfl) ⟨rfl, rfl⟩ (by simp) ?_ trivial)
  all_goals (try simp (disch := omega) only [go_sem])
  all_goals (refine .eq ?_)
  all_goals (first | (simp_all [reserved] <;> omega) | (refine Bool.eq_iff_iff.2 ?_; simp_all [reserved] <;> omega))
end Go.Rd
open Go Go.Abs Go.Proofs
set_option maxRecDepth 100000
namespace Go.Rd
@[go_sem] theorem str_get (l : Bs) (i : Nat) : (str l)[i]? = l[i]? := by
  show (ByteArray.mk l.toArray)[i]? = l[i]?
  by_cases h : i < l.length
  · have h1 : i < (ByteArray.mk l.toArray).size := h
    rw [getElem?_pos _ i h1, getElem?_pos _ i h]
    rfl
  · have h1 : ¬ i < (ByteArray.mk l.toArray).size := h
    rw [getElem?_neg _ i h1, getElem?_neg _ i h]
def letter (c : UInt8) : Bool := decide (97 ≤ (c.toNat : Int)) && decide ((c.toNat : Int) ≤ 122)
def other (c : UInt8) : Bool := decide (48 ≤ (c.toNat : Int)) && decide ((c.toNat : Int) ≤ 57) || (c.toNat : Int) == 95 || (c.toNat : Int) == 45
def okc (i : Nat) (c : UInt8) : Bool := letter c || (!decide (i = 0) && other c)
def allAt {α : Type} (f : Nat → α → Bool) (l : List α) : Bool := l.zipIdx.all fun x => f x.2 x.1
theorem allAt_take {α : Type} {f : Nat → α → Bool} {l : List α} {i : Nat} {b : α} (hb : l[i]? = some b) : allAt f (l.take (i + 1)) = (allAt f (l.take i) && f i b) := by
  have hi : i < l.length := by
    rcases Nat.lt_or_ge i l.length with h | h
    · exact h
    · rw [List.getElem?_eq_none h] at hb; cases hb
  simp only [allAt, List.take_add_one, hb, Option.toList_some, List.zipIdx_append, List.all_append, List.length_take]
  simp [Nat.min_eq_left (Nat.le_of_lt hi)]
theorem allAt_false {α : Type} {f : Nat → α → Bool} {l : List α} {i : Nat} {b : α} (hb : l[i]? = some b) (h : f i b = false) : allAt f l = false := by
  unfold allAt
  rw [List.all_eq_false]
  refine ⟨(b, i), ?_, by simp [h]⟩
  rw [List.mk_mem_zipIdx_iff_getElem?]
  exact hb
def nameOK (s : Bs) : Bool := decide (1 ≤ s.length) && decide (s.length ≤ 12) && !reserved s && allAt okc s
theorem f220_ok (s : Bs) : FnOK C0 220 [.v (.string (str s))] [] (B (nameOK s)) [] := by
  refine FnOK.intro (fn := Tryz.f220) (c := Tryz.f220.body.getD .skip) (by kernel_rfl) (by kernel_rfl) (by kernel_rfl) (by kernel_rfl) (by simp [Tryz.f220]) (by simp [names]) ?_
  unfold Tryz.f220
  by_cases h1 : s.length < 1
  · have e1 : ((s.length : Int) < 1) = True := by simp; omega
    simp (disch := omega) only [go_sem, e1]
    refine ret_mk ⟨[], [], []⟩ _ (by (try simp (disch := omega) only [go_sem, resVs, resV]) <;> rfl) ⟨rfl, rfl⟩ (by simp) ?_ trivial
    simp (disch := omega) only [go_sem]
    exact .eq (by simp [nameOK]; omega)
  by_cases h2 : 12 < s.length
  · have e1 : ((s.length : Int) < 1) = False := by simp; omega
    have e2 : (12 < (s.length : Int)) = True := by simp; omega
    simp (disch := omega) only [go_sem, e1, e2, decide_false]
    refine ret_mk ⟨[], [], []⟩ _ (by (try simp (disch := omega) only [go_sem, resVs, resV]) <;> rfl) ⟨rfl, rfl⟩ (by simp) ?_ trivial
    simp (disch := omega) only [go_sem]
    exact .eq (by simp [nameOK]; omega)
  have e1 : ((s.length : Int) < 1) = False := by simp; omega
  have e2 : (12 < (s.length : Int)) = False := by simp; omega
  simp (disch := omega) only [go_sem, e1, e2, decide_false]
  refine call_pure (f258_ok s) (by simp (disch := omega) only [go_sem]) rfl ?_
  simp (disch := omega) only [go_sem]
  refine And.intro (fun h => ?_) (fun h => ?_)
  · refine ret_mk ⟨[], [], []⟩ _ (by (try simp (disch := omega) only [go_sem, resVs, resV]) <;> rfl) ⟨rfl, rfl⟩ (by simp) ?_ trivial
    simp (disch := omega) only [go_sem]
    exact .eq (by simp [nameOK, h])
  refine loop_intro (α := Nat) (fun i => ⟨[(21, I i), (20, I s.length), (0, .v (.string (str s)))], []⟩) (fun i => i ≤ (s).length ∧ allAt okc (s.take i) = true) (fun i => (s).length - i) 0 ⟨by omega, rfl⟩ ?_ ?_
  · refine Imp.weak ?_ ?_
    all_goals (try simp (disch := omega) only [go_sem])
    all_goals (try (repeat' (with_reducible apply And.intro)))
    all_goals (first | exact .nilOwn (by omega) | exact .nilNo (by omega) | exact .sl (by simp []) | exact .int (by simp []) | exact .eq (by simp []))
  rintro i ⟨hi, hP⟩ J hJ
  simp (disch := omega) only [go_sem]
  refine And.intro (fun hlt => ?_) (fun hge => ?_)
  rotate_left
  have hil : i = (s).length := by simp at hge; omega
  rotate_left
  obtain ⟨b, hb⟩ : ∃ b, (s)[i]? = some b := ⟨_, List.getElem?_eq_getElem (by simp at hlt; omega)⟩
  have hbm := List.mem_of_getElem? hb
  simp (disch := omega) only [go_sem, List.getElem?_map, hb]
  · repeat' (with_reducible refine And.intro (fun h => ?_) (fun h => ?_))
    all_goals (first
      | refine hJ _ (i + 1) ⟨by simp at hlt; omega, by rw [allAt_take hb, hP]; simp_all [okc, letter, other]⟩ (by simp at hlt; omega) (Imp.weak (by simp (disch := omega) only [go_sem]) (by simp (disch := omega) only [go_sem]))
      | (have hz : okc i b = false := by (simp_all [okc, letter, other] <;> omega)
         have e : nameOK s = false := by simp [nameOK, allAt_false hb hz]
         refine ret_mk ⟨[], [], []⟩ _ rfl ⟨rfl, rfl⟩ (by simp) ?_ trivial
         simp (disch := omega) only [go_sem, e]))
  · subst hil
    rw [List.take_length] at hP
    have e : nameOK s = true := by simp [nameOK, hP, h]; omega
    simp (disch := omega) only [go_sem, e]
    refine ret_mk ⟨[], [], []⟩ _ (by (try simp (disch := omega) only [go_sem, resVs, resV]) <;> rfl) ⟨rfl, rfl⟩ (by simp) ?_ trivial
    simp (disch := omega) only [go_sem]
theorem f215_ok (r : Res) : FnOK C0 215 [.agg r.c] [] (B (nameOK r.name && r.shaped && between r.home 0 3)) [] := by
  refine FnOK.intro (fn := Tryz.f215) (c := Tryz.f215.body.getD .skip) (by kernel_rfl) (by kernel_rfl) (by kernel_rfl) (by kernel_rfl) (by simp [Tryz.f215]) (by simp [names]) ?_
  unfold Tryz.f215
  simp (disch := omega) only [go_sem]
  repeat' (first
    | (with_reducible refine And.intro (fun h => ?_) (fun h => ?_))
    | ((with_reducible show callB _ _ 220 _ _ _); refine call_pure (f220_ok r.name) ?_ rfl ?_; (focus (simp (disch := omega) only [go_sem]; done)); try simp (disch := omega) only [go_sem])
    | ((with_reducible show callB _ _ 252 _ _ _); refine call_pure (f252_ok r) ?_ rfl ?_; (focus (simp (disch := omega) only [go_sem]; done)); try simp (disch := omega) only [go_sem]))
  all_goals (refine ret_mk ⟨[], [], []⟩ _ (by (try simp (disch := omega) only [go_sem, resVs, resV]) <;> rfl) ⟨rfl, rfl⟩ (by simp) ?_ trivial)
  all_goals (try simp (disch := omega) only [go_sem])
  all_goals (refine .eq ?_)
  all_goals (first | (simp_all [between] <;> omega) | (refine Bool.eq_iff_iff.2 ?_; simp_all [between] <;> omega))
end Go.Rd
open Go Go.Abs Go.Proofs
set_option maxRecDepth 100000
namespace Go.Rd
def lockR : Res := ⟨[], 1, 1, 0⟩
def poolR : Res := ⟨[], 2, 8, 0⟩
def Wait.ok (w : Wait) : Bool := w.proc.ok && (lockR.fits w.amt || poolR.fits w.amt) && between w.prio 0 7 && between w.passed 0 3
theorem f275_ok (w : Wait) : FnOK C0 275 [.agg w.c] [] (B w.ok) [] := by
  refine FnOK.intro (fn := Tryz.f275) (c := Tryz.f275.body.getD .skip) (by kernel_rfl) (by kernel_rfl) (by kernel_rfl) (by kernel_rfl) (by simp [Tryz.f275]) (by simp [names]) ?_
  unfold Tryz.f275
  simp (disch := omega) only [go_sem]
  repeat' (first
    | (with_reducible refine And.intro (fun h => ?_) (fun h => ?_))
    | ((with_reducible show callB _ _ 72 _ _ _); refine call_pure (f72_ok w.proc) ?_ rfl ?_; (focus (simp (disch := omega) only [go_sem]; done)); try simp (disch := omega) only [go_sem])
    | ((with_reducible show callB _ _ 221 _ _ _); refine call_pure (f221_ok ⟨[], 1, 1, 0⟩ w.amt) ?_ rfl ?_; (focus (simp (disch := omega) only [go_sem]; done)); try simp (disch := omega) only [go_sem])
    | ((with_reducible show callB _ _ 221 _ _ _); refine call_pure (f221_ok ⟨[], 2, 8, 0⟩ w.amt) ?_ rfl ?_; (focus (simp (disch := omega) only [go_sem]; done)); try simp (disch := omega) only [go_sem]))
  all_goals (refine ret_mk ⟨[], [], []⟩ _ (by (try simp (disch := omega) only [go_sem, resVs, resV]) <;> rfl) ⟨rfl, rfl⟩ (by simp) ?_ trivial)
  all_goals (try simp (disch := omega) only [go_sem])
  all_goals (refine .eq ?_)
  all_goals (first | (simp_all [Wait.ok, between, lockR, poolR] <;> omega) | (refine Bool.eq_iff_iff.2 ?_; simp_all [Wait.ok, between, lockR, poolR] <;> omega))
def linePos (l : List Wait) (i : Nat) (w : Wait) : Bool := w.ok && decide (findW l w.proc = (i : Int))
def lineOK (l : List Wait) : Bool := decide (l.length ≤ 8) && allAt (linePos l) l
theorem f257_ok (l : List Wait) : FnOK C0 257 [waitsV l] [] (B (lineOK l)) [] := by
  refine FnOK.intro (fn := Tryz.f257) (c := Tryz.f257.body.getD .skip) (by kernel_rfl) (by kernel_rfl) (by kernel_rfl) (by kernel_rfl) (by simp [Tryz.f257]) (by simp [names]) ?_
  unfold Tryz.f257
  by_cases h1 : 8 < l.length
  · have e1 : (8 < (l.length : Int)) = True := by simp; omega
    simp (disch := omega) only [go_sem, e1]
    refine ret_mk ⟨[], [], []⟩ _ (by (try simp (disch := omega) only [go_sem, resVs, resV]) <;> rfl) ⟨rfl, rfl⟩ (by simp) ?_ trivial
    simp (disch := omega) only [go_sem]
    exact .eq (by simp [lineOK]; omega)
  have e1 : (8 < (l.length : Int)) = False := by simp; omega
  simp (disch := omega) only [go_sem, e1, decide_false]
  refine loop_intro (α := Nat) (fun i => ⟨[(10, I i), (9, I l.length), (8, waitsV l), (0, waitsV l)], []⟩) (fun i => i ≤ (l).length ∧ allAt (linePos l) (l.take i) = true) (fun i => (l).length - i) 0 ⟨by omega, rfl⟩ ?_ ?_
  · refine Imp.weak ?_ ?_
    all_goals (try simp (disch := omega) only [go_sem])
    all_goals (try (repeat' (with_reducible apply And.intro)))
    all_goals (first | exact .nilOwn (by omega) | exact .nilNo (by omega) | exact .sl (by simp []) | exact .int (by simp []) | exact .eq (by simp []))
  rintro i ⟨hi, hP⟩ J hJ
  simp (disch := omega) only [go_sem]
  refine And.intro (fun hlt => ?_) (fun hge => ?_)
  rotate_left
  have hil : i = (l).length := by simp at hge; omega
  rotate_left
  obtain ⟨b, hb⟩ : ∃ b, (l)[i]? = some b := ⟨_, List.getElem?_eq_getElem (by simp at hlt; omega)⟩
  have hbm := List.mem_of_getElem? hb
  simp (disch := omega) only [go_sem, List.getElem?_map, hb]
  · refine call_pure (f275_ok b) (by simp (disch := omega) only [go_sem]) rfl ?_
    cases hw : b.ok
    · have e : lineOK l = false := by simp [lineOK, allAt_false hb (show linePos l i b = false by simp [linePos, hw])]
      simp (disch := omega) only [go_sem, Bool.not_false, e]
      refine ret_mk ⟨[], [], []⟩ _ (by (try simp (disch := omega) only [go_sem, resVs, resV]) <;> rfl) ⟨rfl, rfl⟩ (by simp) ?_ trivial
      simp (disch := omega) only [go_sem]
    simp (disch := omega) only [go_sem, Bool.not_true]
    refine call_pure (f255_ok l b.proc (by omega)) (by simp (disch := omega) only [go_sem]) rfl ?_
    simp (disch := omega) only [go_sem]
    refine And.intro (fun h => ?_) (fun h => ?_)
    · have e : lineOK l = false := by simp [lineOK, allAt_false hb (show linePos l i b = false by simp at h; simp [linePos, h])]
      simp (disch := omega) only [go_sem, e]
      refine ret_mk ⟨[], [], []⟩ _ (by (try simp (disch := omega) only [go_sem, resVs, resV]) <;> rfl) ⟨rfl, rfl⟩ (by simp) ?_ trivial
      simp (disch := omega) only [go_sem]
    · refine hJ _ (i + 1) ⟨by simp at hlt; omega, (by rw [allAt_take hb, hP]; simp at h; simp [linePos, hw, h])⟩ (by simp at hlt; omega) (Imp.weak (by simp (disch := omega) only [go_sem]) (by simp (disch := omega) only [go_sem]))
  · subst hil
    rw [List.take_length] at hP
    have e : lineOK l = true := by simp [lineOK, hP]; omega
    simp (disch := omega) only [go_sem, e]
    refine ret_mk ⟨[], [], []⟩ _ (by (try simp (disch := omega) only [go_sem, resVs, resV]) <;> rfl) ⟨rfl, rfl⟩ (by simp) ?_ trivial
    simp (disch := omega) only [go_sem]
def dropW (l : List Wait) (p : Proc) : List Wait := l.filter fun w => decide (w.proc ≠ p)
theorem f167_ok (l : List Wait) (p : Proc) (hl : l.length ≤ 1000000) : FnOK C0 167 [waitsV l, .agg p.c] [] (.tup [waitsV (dropW l p), B (decide ((dropW l p).length < l.length))]) [] := by
  refine FnOK.intro (fn := Tryz.f167) (c := Tryz.f167.body.getD .skip) (by kernel_rfl) (by kernel_rfl) (by kernel_rfl) (by kernel_rfl) (by simp [Tryz.f167]) (by simp [names]) ?_
  unfold Tryz.f167
  simp (disch := omega) only [go_sem]
  refine loop_intro (α := Nat) (fun i => ⟨[(11, I i), (10, I l.length), (9, waitsV l), (0, waitsV l), (3, .ptr 192 0), (6, .sl (.own 1408 0) 7 ((dropW (l.take i) p).map Wait.c))], [(192, p.c)]⟩) (fun i => i ≤ (l).length ∧ (dropW (l.take i) p).length ≤ i) (fun i => (l).length - i) 0 ⟨by omega, (by simp [dropW])⟩ ?_ ?_
  · refine Imp.weak ?_ ?_
    all_goals (try simp (disch := omega) only [go_sem])
    all_goals (try (repeat' (with_reducible apply And.intro)))
    all_goals (first | exact .nilOwn (by omega) | exact .nilNo (by omega) | exact .sl (by simp []) | exact .int (by simp []) | exact .eq (by simp []))
  rintro i ⟨hi, hP⟩ J hJ
  simp (disch := omega) only [go_sem]
  refine And.intro (fun hlt => ?_) (fun hge => ?_)
  rotate_left
  have hil : i = (l).length := by simp at hge; omega
  rotate_left
  obtain ⟨b, hb⟩ : ∃ b, (l)[i]? = some b := ⟨_, List.getElem?_eq_getElem (by simp at hlt; omega)⟩
  have hbm := List.mem_of_getElem? hb
  simp (disch := omega) only [go_sem, List.getElem?_map, hb]
  · refine And.intro (fun h => ?_) (fun h => ?_)
    · refine hJ _ (i + 1) ⟨by simp at hlt; omega, ?_⟩ (by simp at hlt; omega) (Imp.weak ?_ (by simp (disch := omega) only [go_sem]))
      · simp at h; simp [dropW, List.take_add_one, hb, h]
        simp [dropW] at hP; omega
      · simp (disch := omega) only [go_sem]
        exact .sl (by simp at h; simp [dropW, List.take_add_one, hb, h, Wait.c])
    · refine hJ _ (i + 1) ⟨by simp at hlt; omega, ?_⟩ (by simp at hlt; omega) (Imp.weak ?_ (by simp (disch := omega) only [go_sem]))
      · simp at h; simp [dropW, List.take_add_one, hb, h]
        simp [dropW] at hP; omega
      · simp (disch := omega) only [go_sem]
        exact .sl (by simp at h; simp [dropW, List.take_add_one, hb, h])
  · subst hil
    rw [List.take_length] at hP
    refine ret_mk ⟨[], [], [1408]⟩ _ rfl ⟨rfl, rfl⟩ (by simp) ?_ trivial
    simp (disch := omega) only [go_sem, List.take_length]
    exact .eq (by simp)
theorem bools_all (l : List Bool) (n : Nat) (h : l.length = n) : (boolsC l).take n = boolsC l := List.take_of_length_le (by simp [boolsC, h])
theorem bools_set (l : List Bool) (k : Nat) (x : Bool) (h : k < l.length) : (boolsC l).take k ++ [.v (.bool x)] ++ (boolsC l).drop (k + 1) = boolsC (l.set k x) := by
  rw [List.set_eq_take_append_cons_drop, if_pos h]
  simp [boolsC]
def seenOK (seen : List Bool) (m : Int) : Bool := (List.range 6).all fun k => !seen.getD k false || compatM k m
def compatL (r : Res) : List Amt → Int → List Bool → Bool
  | [], _, _ => true
  | a :: l, s, seen => r.permits a && !decide (r.units < s + a.units) && (if a.mode = 0 then compatL r l (s + a.units) seen else seenOK seen a.mode && compatL r l (s + a.units) (seen.set a.mode.toNat true))
def no6 : List Bool := [false, false, false, false, false, false]
def Res.compat (r : Res) (l : List Amt) : Bool := r.shaped && compatL r l 0 no6
theorem shaped_units {r : Res} (h : r.shaped = true) : 1 ≤ r.units ∧ r.units ≤ 8 := by
  simp only [Res.shaped] at h
  split at h
  · simp at h; omega
  · split at h
    · simp [between] at h; omega
    · cases h
theorem permits_amt {r : Res} {a : Amt} (h : r.permits a = true) : 0 ≤ a.units ∧ a.units ≤ 8 ∧ (a.mode = 0 ∨ modeOK a.mode = true) := by
  simp only [Res.permits, Bool.and_eq_true, Bool.or_eq_true] at h
  obtain ⟨h1, h2 | h2⟩ := h
  · simp [Amt.zero] at h2
    omega
  · simp only [Res.fits, Bool.and_eq_true] at h2
    obtain ⟨_, h3⟩ := h2
    split at h3
    · simp at h3
      obtain ⟨h3, h4⟩ := h3
      exact ⟨by omega, by omega, .inr h3⟩
    · simp [between] at h3
      have := shaped_units h1
      omega
theorem f253_ok (r : Res) (l : List Amt) (hl : l.length ≤ 1000000) : FnOK C0 253 [.agg r.c, amtsV l] [] (B (r.compat l)) [] := by
  refine FnOK.intro (fn := Tryz.f253) (c := Tryz.f253.body.getD .skip) (by kernel_rfl) (by kernel_rfl) (by kernel_rfl) (by kernel_rfl) (by simp [Tryz.f253]) (by simp [names]) ?_
  unfold Tryz.f253
  simp (disch := omega) only [go_sem]
  refine call_pure (f252_ok r) (by simp (disch := omega) only [go_sem]) rfl ?_
  cases hs : r.shaped
  · have e : r.compat l = false := by simp [Res.compat, hs]
    simp (disch := omega) only [go_sem, Bool.not_false, e]
    refine ret_mk ⟨[], [], []⟩ _ (by (try simp (disch := omega) only [go_sem, resVs, resV]) <;> rfl) ⟨rfl, rfl⟩ (by simp) ?_ trivial
    simp (disch := omega) only [go_sem]
  obtain ⟨hu1, hu2⟩ := shaped_units hs
  have hcomp : r.compat l = compatL r l 0 no6 := by simp [Res.compat, hs]
  simp (disch := omega) only [go_sem, Bool.not_true]
  refine loop_intro (α := Nat × Int × List Bool) (fun q => ⟨[(17, I q.1), (16, I l.length), (15, amtsV l), (7, I q.2.1), (6, .ptr 384 0), (5, B true), (2, .ptr 128 0)], [(384, boolsC q.2.2), (128, r.c)]⟩)
    (fun q => q.1 ≤ l.length ∧ q.2.2.length = 6 ∧ 0 ≤ q.2.1 ∧ q.2.1 ≤ 8 ∧ compatL r (l.drop q.1) q.2.1 q.2.2 = compatL r l 0 no6) (fun q => l.length - q.1) (0, 0, no6) ⟨by simp, rfl, by simp, by simp, by simp⟩ ?_ ?_
  · refine Imp.weak ?_ ?_
    · simp (disch := omega) only [go_sem]
    · simp (disch := omega) only [go_sem, boolsC, no6]
  rintro ⟨i, sum, seen⟩ ⟨hi, hsl, hs0, hs8, hc⟩ J hJ
  replace hi : i ≤ l.length := hi
  replace hsl : seen.length = 6 := hsl
  replace hs0 : 0 ≤ sum := hs0
  replace hs8 : sum ≤ 8 := hs8
  replace hc : compatL r (l.drop i) sum seen = compatL r l 0 no6 := hc
  simp (disch := omega) only [go_sem]
  refine And.intro (fun hlt => ?_) (fun hge => ?_)
  · have hlt' : i < l.length := by simp at hlt; omega
    obtain ⟨b, hb⟩ : ∃ b, l[i]? = some b := ⟨_, List.getElem?_eq_getElem hlt'⟩
    have hd : l.drop i = b :: l.drop (i + 1) := by
      rw [List.drop_eq_getElem_cons hlt']
      rw [List.getElem?_eq_getElem hlt'] at hb
      injection hb with hb
      rw [hb]
    rw [hd] at hc
    simp only [compatL] at hc
    simp (disch := omega) only [go_sem, List.getElem?_map, hb]
    refine call_pure (f271_ok r b) (by simp (disch := omega) only [go_sem]) rfl ?_
    cases hp : r.permits b
    · have e : r.compat l = false := by rw [hcomp, ← hc, hp]; rfl
      simp (disch := omega) only [go_sem, Bool.not_false, e]
      refine ret_mk ⟨[], [], []⟩ _ (by (try simp (disch := omega) only [go_sem, resVs, resV]) <;> rfl) ⟨rfl, rfl⟩ (by simp) ?_ trivial
      simp (disch := omega) only [go_sem]
    obtain ⟨hb0, hb8, hbm⟩ := permits_amt hp
    by_cases hgt : r.units < sum + b.units
    · have e : r.compat l = false := by rw [hcomp, ← hc, hp]; simp [hgt]
      simp (disch := omega) only [go_sem, Bool.not_true, e, hgt]
      refine ret_mk ⟨[], [], []⟩ _ (by (try simp (disch := omega) only [go_sem, resVs, resV]) <;> rfl) ⟨rfl, rfl⟩ (by simp) ?_ trivial
      simp (disch := omega) only [go_sem]
    rw [hp] at hc
    by_cases hm : b.mode = 0
    · have hm' : (b.mode == 0) = true := by simp [hm]
      simp (disch := omega) only [go_sem, Bool.not_true, hgt, decide_false, hm']
      refine hJ _ (i + 1, sum + b.units, seen) ⟨by simp; omega, hsl, by simp; omega, by simp; omega, ?_⟩ (by simp; omega) (Imp.weak (by simp (disch := omega) only [go_sem]) (by simp (disch := omega) only [go_sem]))
      simpa [hgt, hm] using hc
    have hm' : (b.mode == 0) = false := by simp [hm]
    have hmo : modeOK b.mode = true := by
      rcases hbm with h | h
      · exact absurd h hm
      · exact h
    have hmc := mode_cases hmo
    have hcs : (seenOK seen b.mode && compatL r (l.drop (i + 1)) (sum + b.units) (seen.set b.mode.toNat true)) = compatL r l 0 no6 := by simpa [hgt, hm] using hc
    simp (disch := omega) only [go_sem, Bool.not_true, hgt, decide_false, hm', hsl, bools_all]
    refine loop_intro (α := Nat) (fun k => ⟨[(42, I k), (41, .agg (boolsC seen)), (9, .ptr 576 0), (17, I i), (16, I l.length), (15, amtsV l), (7, I (sum + b.units)), (6, .ptr 384 0), (5, B true), (2, .ptr 128 0)], [(576, b.c), (384, boolsC seen), (128, r.c)]⟩)
      (fun k => k ≤ 6 ∧ (List.range k).all (fun j => !seen.getD j false || compatM j b.mode) = true) (fun k => 6 - k) 0 ⟨by omega, rfl⟩ ?_ ?_
    · refine Imp.weak ?_ ?_
      · simp (disch := omega) only [go_sem]
      · simp (disch := omega) only [go_sem]
    rintro k ⟨hk, hka⟩ J2 hJ2
    by_cases hk6 : k < 6
    · have hk6' : ((k : Int) < 6) = True := by simp; omega
      have hno : seen.getD k false = true → compatM k b.mode = false → r.compat l = false := fun h1 h2 => by
        have : seenOK seen b.mode = false := by
          unfold seenOK
          rw [List.all_eq_false]
          exact ⟨k, List.mem_range.2 (by omega), by rw [h1, h2]; decide⟩
        rw [hcomp, ← hcs, this]; rfl
      have hyes : (!seen.getD k false || compatM k b.mode) = true → (List.range (k + 1)).all (fun j => !seen.getD j false || compatM j b.mode) = true := fun h => by
        rw [List.range_succ, List.all_append, hka]
        simpa using h
      simp (disch := omega) only [go_sem, hk6', hsl, bools_one, Nat.mul_one]
      refine And.intro (fun h => ?_) (fun h => ?_)
      · refine call_pure (f272_ok k b.mode) (by simp (disch := omega) only [go_sem]) rfl ?_
        cases hcm : compatM k b.mode
        · simp (disch := omega) only [go_sem, Bool.not_false, hno h hcm]
          refine ret_mk ⟨[], [], []⟩ _ (by (try simp (disch := omega) only [go_sem, resVs, resV]) <;> rfl) ⟨rfl, rfl⟩ (by simp) ?_ trivial
          simp (disch := omega) only [go_sem]
        · simp (disch := omega) only [go_sem, Bool.not_true]
          refine hJ2 _ (k + 1) ⟨by omega, hyes (by rw [hcm]; simp)⟩ (by omega) (Imp.weak (by simp (disch := omega) only [go_sem]) (by simp (disch := omega) only [go_sem]))
      · refine hJ2 _ (k + 1) ⟨by omega, hyes (by rw [h]; rfl)⟩ (by omega) (Imp.weak (by simp (disch := omega) only [go_sem]) (by simp (disch := omega) only [go_sem]))
    · have hk6' : ((k : Int) < 6) = False := by simp; omega
      have hke : k = 6 := by omega
      subst hke
      have hso : seenOK seen b.mode = true := hka
      rw [hso] at hcs
      have hm6 : (b.mode < 6) = True := by simp; omega
      have hm0 : (0 ≤ b.mode) = True := by simp; omega
      simp (disch := omega) only [go_sem, hk6', decide_false, hm6, hm0, hsl, Nat.mul_one, bools_set]
      refine hJ _ (i + 1, sum + b.units, seen.set b.mode.toNat true) ⟨by simp; omega, by simp [hsl], by simp; omega, by simp; omega, by simpa using hcs⟩ (by simp; omega) (Imp.weak (by simp (disch := omega) only [go_sem]) (by simp (disch := omega) only [go_sem]))
  · have hil : i = l.length := by simp at hge; omega
    subst hil
    rw [List.drop_length] at hc
    have e : r.compat l = true := by rw [hcomp, ← hc]; rfl
    simp (disch := omega) only [go_sem, e]
    refine ret_mk ⟨[], [], []⟩ _ (by (try simp (disch := omega) only [go_sem, resVs, resV]) <;> rfl) ⟨rfl, rfl⟩ (by simp) ?_ trivial
    simp (disch := omega) only [go_sem]
end Go.Rd

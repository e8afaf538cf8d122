/- part 25 of the proof -/
import Derived.Test.YtaelofhhkpacbaaGreatDoorT11
import Derived.Test.YtaelofhhkpacbaaGreatDoorT24
set_option linter.all false
open Go Go.Abs Go.Proofs
set_option maxRecDepth 100000
namespace Go.Rd
theorem drawA_to {X : Env} {ops : Array Oper} {K : St → Prop} {st : St} (st0 : St) (h0 : K st0) (h : drawA X ops (fun s => Imp X s st0) st) : drawA X ops K st := fun A N g a w hA hN hX hR id Q hQ =>
  h A N g a w hA hN hX hR id Q fun g' st' a' w' hR' hI => by
    obtain ⟨g2, hR2⟩ := hI A N g' a' w' hA hR'
    exact hQ g2 st0 a' w' hR2 h0
def skipH (r : Res) (p : Proc) (a : Amt) (h : Hold) : Bool := decide (h.proc = p) || decide (r.kind = 1) && r.compat [h.amt, a]
def agT (r : Res) (p : Proc) (a : Amt) (l : List Hold) : List Proc := (l.filter fun h => !skipH r p a h).map (·.proc)
def againstH (r : Res) (l : List Hold) (p : Proc) (a : Amt) : List Proc := if holdsOK r l && p.ok && r.fits a && !roomH r l p a then agT r p a l else []
theorem agT_next {r : Res} {p : Proc} {a : Amt} {l : List Hold} {i : Nat} {b : Hold} (hb : l[i]? = some b) : agT r p a (l.take (i + 1)) = agT r p a (l.take i) ++ if skipH r p a b then [] else [b.proc] := by
  unfold agT
  rw [List.take_add_one, hb, Option.toList_some, List.filter_append, List.map_append]
  cases hs : skipH r p a b <;> simp [hs]
theorem agT_len (r : Res) (p : Proc) (a : Amt) (l : List Hold) : (agT r p a l).length ≤ l.length := by
  unfold agT
  rw [List.length_map]
  exact List.length_filter_le _ _
theorem f104_ok (r : Res) (l : List Hold) (p : Proc) (a : Amt) (hl : l.length ≤ 1000000) : FnOK C0 104 [.agg r.c, holdsV l, .agg p.c, .agg a.c] [] (procsV (againstH r l p a)) [] := by
  refine FnOK.intro (fn := Tryz.f104) (c := Tryz.f104.body.getD .skip) (by kernel_rfl) (by kernel_rfl) (by kernel_rfl) (by kernel_rfl) (by simp [Tryz.f104]) (by simp [names]) ?_
  unfold Tryz.f104
  simp (disch := omega) only [go_sem]
  refine call_pure (f150_ok r l p a) (by simp (disch := omega) only [go_sem]) rfl ?_
  cases hc : (holdsOK r l && p.ok && r.fits a)
  · have e : againstH r l p a = [] := by simp [againstH, hc]
    simp (disch := omega) only [go_sem, e]
    refine ret_mk ⟨[], [], []⟩ _ (by (try simp (disch := omega) only [go_sem, resVs, resV]) <;> rfl) ⟨rfl, rfl⟩ (by simp) ?_ trivial
    simp (disch := omega) only [go_sem]
  simp (disch := omega) only [go_sem]
  refine call_pure (f151_ok r l p a hl) (by simp (disch := omega) only [go_sem]) rfl ?_
  cases hr : roomH r l p a
  rotate_left
  · have e : againstH r l p a = [] := by simp [againstH, hr]
    simp (disch := omega) only [go_sem, e]
    refine ret_mk ⟨[], [], []⟩ _ (by (try simp (disch := omega) only [go_sem, resVs, resV]) <;> rfl) ⟨rfl, rfl⟩ (by simp) ?_ trivial
    simp (disch := omega) only [go_sem]
  have e : againstH r l p a = agT r p a l := by simp [againstH, hc, hr]
  simp (disch := omega) only [go_sem, e]
  refine loop_intro (α := Nat) (fun i => ⟨[(27, I i), (26, I l.length), (25, holdsV l), (9, .sl (.own 3200 0) 3 ((agT r p a (l.take i)).map Proc.c)), (4, .ptr 256 0), (6, .ptr 384 0), (7, .ptr 448 0)], [(256, r.c), (384, p.c), (448, a.c)]⟩) (fun i => i ≤ (l).length ∧ True) (fun i => (l).length - i) 0 ⟨by omega, trivial⟩ ?_ ?_
  · refine Imp.weak ?_ ?_
    all_goals (try simp (disch := omega) only [go_sem])
    all_goals (try (repeat' (with_reducible apply And.intro)))
    all_goals (first | exact .nilOwn (by omega) | exact .nilNo (by omega) | exact .sl (by simp [agT]) | exact .int (by simp [agT]) | exact .eq (by simp [agT]))
  rintro i ⟨hi, hP⟩ J hJ
  simp (disch := omega) only [go_sem]
  refine And.intro (fun hlt => ?_) (fun hge => ?_)
  rotate_left
  have hil : i = (l).length := by simp at hge; omega
  rotate_left
  obtain ⟨b, hb⟩ : ∃ b, (l)[i]? = some b := ⟨_, List.getElem?_eq_getElem (by simp at hlt; omega)⟩
  have hbm := List.mem_of_getElem? hb
  simp (disch := omega) only [go_sem, List.getElem?_map, hb]
  · have hag := agT_len r p a (l.take i)
    have hbd : (agT r p a (l.take i)).length + 1 ≤ 4294967296 := by simp at hag; omega
    have fin : ∀ s : Bool, skipH r p a b = s → s = true → ((agT r p a (l.take i)).map Proc.c) = ((agT r p a (l.take (i + 1))).map Proc.c) := fun s h1 h2 => by rw [agT_next hb, h1, h2]; simp
    refine And.intro (fun h => ?_) (fun h => ?_)
    · have hs : skipH r p a b = true := by simp [skipH]; left; simpa using h
      refine hJ _ (i + 1) ⟨by simp at hlt; omega, trivial⟩ (by simp at hlt; omega) (Imp.weak ?_ (by simp (disch := omega) only [go_sem]))
      simp (disch := omega) only [go_sem]
      exact .sl (by rw [fin _ hs rfl])
    · have hp : decide (b.proc = p) = false := by simpa using h
      by_cases hk : r.kind = 1
      · have e2 : (r.kind == 1) = true := by simp [hk]
        simp (disch := omega) only [go_sem, e2]
        refine call_lent [2752] (f152_ok r [b.amt, a] (by simp)) (by simp (disch := omega) only [go_sem, List.map_cons, List.map_nil]; exact .sl (by simp [Amt.c])) rfl trivial ?_
        cases hcp : r.compat [b.amt, a]
        · have hs : skipH r p a b = false := by simp [skipH, hp, hcp]
          simp (disch := omega) only [go_sem]
          refine hJ _ (i + 1) ⟨by simp at hlt; omega, trivial⟩ (by simp at hlt; omega) (Imp.weak ?_ (by simp (disch := omega) only [go_sem]))
          simp (disch := omega) only [go_sem]
          exact .sl (by rw [agT_next hb, hs]; simp [Proc.c])
        · have hs : skipH r p a b = true := by simp [skipH, hk, hcp]
          simp (disch := omega) only [go_sem]
          refine hJ _ (i + 1) ⟨by simp at hlt; omega, trivial⟩ (by simp at hlt; omega) (Imp.weak ?_ (by simp (disch := omega) only [go_sem]))
          simp (disch := omega) only [go_sem]
          exact .sl (by rw [fin _ hs rfl])
      · have e2 : (r.kind == 1) = false := by simp [hk]
        have hs : skipH r p a b = false := by simp [skipH, hp, hk]
        simp (disch := omega) only [go_sem, e2]
        refine hJ _ (i + 1) ⟨by simp at hlt; omega, trivial⟩ (by simp at hlt; omega) (Imp.weak ?_ (by simp (disch := omega) only [go_sem]))
        simp (disch := omega) only [go_sem]
        exact .sl (by rw [agT_next hb, hs]; simp [Proc.c])
  · subst hil
    refine ret_mk ⟨[], [], [3200]⟩ _ (by (try simp (disch := omega) only [go_sem, resVs, resV]) <;> rfl) ⟨rfl, rfl⟩ (by simp) ?_ trivial
    simp (disch := omega) only [go_sem, List.take_length]
theorem f101_ok (k : Int) : FnOK C0 101 [I k] [] (B (decide (k = 0))) [] := by
  refine FnOK.intro (fn := Tryz.f101) (c := Tryz.f101.body.getD .skip) (by kernel_rfl) (by kernel_rfl) (by kernel_rfl) (by kernel_rfl) (by simp [Tryz.f101]) (by simp [names]) ?_
  unfold Tryz.f101
  simp (disch := omega) only [go_sem]
  refine ret_mk ⟨[], [], []⟩ _ (by (try simp (disch := omega) only [go_sem, resVs, resV]) <;> rfl) ⟨rfl, rfl⟩ (by simp) ?_ trivial
  simp (disch := omega) only [go_sem]
  exact .eq (by simp [Bool.beq_eq_decide_eq])
theorem f105_ok (k : Int) : FnOK C0 105 [I k] [] (B (decide (0 < k))) [] := by
  refine FnOK.intro (fn := Tryz.f105) (c := Tryz.f105.body.getD .skip) (by kernel_rfl) (by kernel_rfl) (by kernel_rfl) (by kernel_rfl) (by simp [Tryz.f105]) (by simp [names]) ?_
  unfold Tryz.f105
  simp (disch := omega) only [go_sem]
  refine ret_mk ⟨[], [], []⟩ _ (by (try simp (disch := omega) only [go_sem, resVs, resV]) <;> rfl) ⟨rfl, rfl⟩ (by simp) ?_ trivial
  simp (disch := omega) only [go_sem]
@[reducible] def reasV : AV := .sl .no 3 [[I 1, .fn 101 [], .fn 102 []], [I 2, .fn 105 [], .fn 106 []]]
theorem f59_ok : FnOK C0 59 [] [] reasV [] := by
  refine FnOK.intro (fn := Tryz.f59) (c := Tryz.f59.body.getD .skip) (by kernel_rfl) (by kernel_rfl) (by kernel_rfl) (by kernel_rfl) (by simp [Tryz.f59]) (by simp [names]) ?_
  unfold Tryz.f59
  simp (disch := omega) only [go_sem]
  refine ret_mk ⟨[], [], [192]⟩ _ (by (try simp (disch := omega) only [go_sem, resVs, resV]) <;> rfl) ⟨rfl, rfl⟩ (by simp) ?_ trivial
  simp (disch := omega) only [go_sem, List.map_nil]
def wantA (q : Queue) (p : Proc) : Amt := (wantQ q p).getD ⟨0, 0⟩
set_option maxHeartbeats 4000000 in
theorem f102_ok (q : Queue) (l : List Proc) (k : Nat) (kx : Int) (hkx : kx = k) (p : Proc) (hk : l[k]? = some p) (h : q.convs.length + q.waits.length ≤ 1000000) (hh : q.holds.length ≤ 1000000) : FnOK C0 102 [.agg q.c, procsV l, I kx] [] (procsV (againstH q.res q.holds p (wantA q p))) [] := by
  subst hkx
  have hlt : k < l.length := lt_of_get hk
  refine FnOK.intro (fn := Tryz.f102) (c := Tryz.f102.body.getD .skip) (by kernel_rfl) (by kernel_rfl) (by kernel_rfl) (by kernel_rfl) (by simp [Tryz.f102]) (by simp [names]) ?_
  unfold Tryz.f102
  simp (disch := omega) only [go_sem]
  refine drawA_to ⟨[(1, procsV l), (2, I k), (3, .ptr 192 0), (7, .ptr 448 0)], [(192, q.c), (448, (wantA q p).c)]⟩ ?_ ?_
  rotate_left
  · refine draw_all (let o0 : OT := .done; let o1 : OT := .pick [(11, o0)]; let o2 : OT := .pick [(10, o1)]; let o3 : OT := .pick [(9, o2)]; let o4 : OT := .pick [(8, o1)]; let o5 : OT := .pick [(8, o2), (10, o4)]; let o6 : OT := .pick [(8, o3), (9, o5)]; let o7 : OT := .pick [(7, o2)]; let o8 : OT := .pick [(7, o3), (9, o7)]; let o9 : OT := .pick [(7, o5), (8, o7)]; let o10 : OT := .pick [(7, o6), (8, o8), (9, o9)]; let o11 : OT := .pick [(6, o9)]; let o12 : OT := .pick [(6, o10), (9, o11)]; let o13 : OT := .pick [(5, o11)]; let o14 : OT := .pick [(5, o12), (9, o13)]; let o15 : OT := .pick [(4, o13)]; let o16 : OT := .pick [(4, o14), (9, o15)]; let o17 : OT := .pick [(3, o15)]; let o18 : OT := .pick [(3, o16), (9, o17)]; let o19 : OT := .pick [(2, o17)]; let o20 : OT := .pick [(2, o18), (9, o19)]; let o21 : OT := .pick [(1, o17)]; let o22 : OT := .pick [(1, o18), (9, o21)]; let o23 : OT := .pick [(1, o19), (2, o21)]; let o24 : OT := .pick [(1, o20), (2, o22), (9, o23)]; let o25 : OT := .pick [(0, o13)]; let o26 : OT := .pick [(0, o14), (9, o25)]; let o27 : OT := .pick [(0, o15), (4, o25)]; let o28 : OT := .pick [(0, o16), (4, o26), (9, o27)]; let o29 : OT := .pick [(0, o17), (3, o27)]; let o30 : OT := .pick [(0, o18), (3, o28), (9, o29)]; let o31 : OT := .pick [(0, o19), (2, o29)]; let o32 : OT := .pick [(0, o20), (2, o30), (9, o31)]; let o33 : OT := .pick [(0, o21), (1, o29)]; let o34 : OT := .pick [(0, o22), (1, o30), (9, o33)]; let o35 : OT := .pick [(0, o23), (1, o31), (2, o33)]; let o36 : OT := .pick [(0, o24), (1, o32), (2, o34), (9, o35)]; o36) fol (by kernel_rfl) ?_
    simp (disch := omega) only [go_sem, List.getElem?_map, hk]
    repeat' (first | (with_reducible refine And.intro ?_ ?_) | (refine call_pure (f103_ok q p h) (by simp (disch := omega) only [go_sem]) rfl ?_; (try simp (disch := omega) only [go_sem, List.getElem?_map, hk])))
    all_goals exact Imp.weak (by simp (disch := omega) only [go_sem]) (by simp (disch := omega) only [go_sem, wantA])
  simp (disch := omega) only [go_sem]
  refine draw_mk 9 [([], [3]), ([0], [18]), ([], [3]), ([2], [20]), ([], [1]), ([], [2]), ([4, 5], [22, 23]), ([4, 5, 6], [24]), ([], [7]), ([0, 1, 2, 3, 4, 5, 6, 7, 8], []), ([0, 1, 2, 3, 4, 5, 6, 7, 8, 9], [])] fol (by kernel_rfl) ?_
  simp (disch := omega) only [go_sem, List.getElem?_map, hk]
  refine call_pure (f104_ok q.res q.holds p (wantA q p) hh) (by simp (disch := omega) only [go_sem]) rfl ?_
  simp (disch := omega) only [go_sem]
  refine ret_mk ⟨[], [], []⟩ _ (by (try simp (disch := omega) only [go_sem, resVs, resV]) <;> rfl) ⟨rfl, rfl⟩ (by simp) ?_ trivial
  simp (disch := omega) only [go_sem]
theorem f106_ok (q : Queue) (l : List Proc) (k : Nat) (kx : Int) (hkx : kx = (k : Int) + 1) (x : Proc) (hk : l[k]? = some x) (hl : l.length ≤ 1000000) (ms : List Proc) (hms : ms = [x]) : FnOK C0 106 [.agg q.c, procsV l, I kx] [] (procsV ms) [] := by
  subst hkx hms
  have hlt : k < l.length := lt_of_get hk
  have e : ((k : Int) + 1 - 1) = (k : Int) := by omega
  refine FnOK.intro (fn := Tryz.f106) (c := Tryz.f106.body.getD .skip) (by kernel_rfl) (by kernel_rfl) (by kernel_rfl) (by kernel_rfl) (by simp [Tryz.f106]) (by simp [names]) ?_
  unfold Tryz.f106
  simp (disch := omega) only [go_sem, e, List.getElem?_map, hk]
  refine ret_mk ⟨[], [], [768]⟩ _ (by (try simp (disch := omega) only [go_sem, resVs, resV]) <;> rfl) ⟨rfl, rfl⟩ (by simp) ?_ trivial
  simp (disch := omega) only [go_sem, List.map_cons, List.map_nil]
  exact .sl (by simp [Proc.c])
structure Cause where
  proc : Proc
  name : Bs
  why : Int
  members : List Proc
  deriving DecidableEq
def Cause.c (c : Cause) : List AV := [.v (.int .i64 c.proc.site), .v (.int .i64 c.proc.inc), .v (.int .i64 c.proc.num), .v (.string (str c.name)), .v (.int .i64 c.why), procsV c.members]
attribute [go_sem] Cause.c
def cz : Cause := ⟨⟨0, 0, 0⟩, [], 0, []⟩
def ordQ (q : Queue) : List Proc := procsW (q.convs ++ q.waits)
def causeQ (q : Queue) (p : Proc) : Option Cause := match (ordQ q).findIdx? (fun x => decide (x = p)) with
  | none => none
  | some 0 => some ⟨p, q.res.name, 1, againstH q.res q.holds p (wantA q p)⟩
  | some (k + 1) => some ⟨p, q.res.name, 2, [((ordQ q)[k]?).getD ⟨0, 0, 0⟩]⟩
theorem f27_ok (q : Queue) (p : Proc) (h : q.convs.length + q.waits.length ≤ 1000000) (hh : q.holds.length ≤ 1000000) : FnOK C0 27 [.agg q.c, .agg p.c] [] (.tup [.agg ((causeQ q p).getD cz).c, B (causeQ q p).isSome]) [] := by
  have hol : (ordQ q).length ≤ 1000000 := by simpa [ordQ, procsW] using h
  have z0 : (decide ((0 : Int) < 2)) = true := by decide
  have z1 : (decide ((1 : Int) < 2)) = true := by decide
  have z2 : (decide ((2 : Int) < 2)) = false := by decide
  refine FnOK.intro (fn := Tryz.f27) (c := Tryz.f27.body.getD .skip) (by kernel_rfl) (by kernel_rfl) (by kernel_rfl) (by kernel_rfl) (by simp [Tryz.f27]) (by simp [names]) ?_
  unfold Tryz.f27
  simp (disch := omega) only [go_sem]
  refine call_pure (f57_ok q h) (by simp (disch := omega) only [go_sem]) rfl ?_
  simp (disch := omega) only [go_sem, show procsW (q.convs ++ q.waits) = ordQ q from rfl]
  refine call_pure (f58_ok (ordQ q) p hol) (by simp (disch := omega) only [go_sem]) rfl ?_
  cases hf : (ordQ q).findIdx? (fun x => decide (x = p)) with
  | none =>
    have e : causeQ q p = none := by simp [causeQ, hf]
    have em : ((-1 : Int) < 0) = True := by simp
    simp (disch := omega) only [go_sem, e, em, decide_true, cz]
    refine ret_mk ⟨[], [], []⟩ _ (by (try simp (disch := omega) only [go_sem, resVs, resV]) <;> rfl) ⟨rfl, rfl⟩ (by simp) ?_ trivial
    simp (disch := omega) only [go_sem]
    refine .tup (WeakArgs.weakL ?_)
    simp (disch := omega) only [go_sem]
    repeat' (with_reducible apply And.intro)
    all_goals (first | exact .nilNo (by omega) | exact .agg (WeakArgs.weakL (by simp (disch := omega) only [go_sem])))
  | some k =>
    obtain ⟨k1, k2, _⟩ := List.findIdx?_eq_some_iff_getElem.1 hf
    have hk : (ordQ q)[k]? = some p := by rw [List.getElem?_eq_getElem k1]; simpa using k2
    have ek : ((k : Int) < 0) = False := eq_false (by omega)
    simp (disch := omega) only [go_sem, ek, decide_false]
    refine call_pure f59_ok (by simp (disch := omega) only [go_sem]) rfl ?_
    simp (disch := omega) only [go_sem, List.length_cons, List.length_nil]
    cases k with
    | zero =>
      have e : causeQ q p = some ⟨p, q.res.name, 1, againstH q.res q.holds p (wantA q p)⟩ := by simp [causeQ, hf]
      refine loop_intro (α := Nat) (fun i => ⟨[(26, I i), (25, I 2), (24, reasV), (2, .ptr 128 0), (4, .ptr 256 0), (6, procsV (ordQ q)), (7, I 0), (8, .ptr 512 0)], [(128, q.c), (256, cz.c), (512, (if i = 0 then ⟨p, q.res.name, 0, []⟩ else (⟨p, q.res.name, 1, againstH q.res q.holds p (wantA q p)⟩ : Cause)).c)]⟩) (fun i => i ≤ 2) (fun i => 2 - i) 0 (by simp) ?_ ?_
      · refine Imp.weak ?_ ?_
        · simp (disch := omega) only [go_sem]
        · simp (disch := omega) only [go_sem, cz]
      rintro i hi J hJ
      obtain rfl | rfl | rfl : i = 0 ∨ i = 1 ∨ i = 2 := by omega
      · simp (disch := omega) only [go_sem, z0]
        refine call_pure (f101_ok 0) (by simp (disch := omega) only [go_sem]) rfl ?_
        simp (disch := omega) only [go_sem, decide_true]
        refine draw_mk 9 [([], [10]), ([0], [34]), ([], [10]), ([2], [36]), ([], [2]), ([], [6]), ([], [7]), ([2, 3, 4, 5, 6], [37, 38, 39, 40]), ([0, 1], [8]), ([0, 1, 2, 3, 4, 5, 6, 7, 8], []), ([0, 1, 2, 3, 4, 5, 6, 7, 8, 9], []), ([0, 1, 2, 3, 4, 5, 6, 7, 8, 9, 10], [])] fol (by kernel_rfl) ?_
        simp (disch := omega) only [go_sem]
        first | ((with_reducible show callB _ _ _ _ _ _); refine call_pure (f102_ok q (ordQ q) 0 0 rfl p hk h hh) (by simp (disch := omega) only [go_sem]) rfl ?_) | ((with_reducible show freeCallB _ _ _ _ _ _ _ _ _ _); refine freeCall_mk ⟨⟨[], [], []⟩, [], []⟩ (f102_ok q (ordQ q) 0 0 rfl p hk h hh) (by simp (disch := omega) only [go_sem]) rfl rfl trivial (.inl rfl) ?_)
        simp (disch := omega) only [go_sem]
        refine hJ _ 1 (by omega) (by omega) (Imp.weak (by simp (disch := omega) only [go_sem]) (by simp (disch := omega) only [go_sem, Nat.one_ne_zero]))
      · simp (disch := omega) only [go_sem, z1]
        refine call_pure (f105_ok 0) (by simp (disch := omega) only [go_sem]) rfl ?_
        simp (disch := omega) only [go_sem, Int.lt_irrefl, decide_false]
        refine hJ _ 2 (by omega) (by omega) (Imp.weak (by simp (disch := omega) only [go_sem]) (by simp (disch := omega) only [go_sem, Nat.one_ne_zero]))
      · simp (disch := omega) only [go_sem, z2]
        rw [e]
        refine ret_mk ⟨[], [], []⟩ _ (by (try simp (disch := omega) only [go_sem, resVs, resV]) <;> rfl) ⟨rfl, rfl⟩ (by simp) ?_ trivial
        simp (disch := omega) only [go_sem]
    | succ k =>
      obtain ⟨x, hx⟩ : ∃ x, (ordQ q)[k]? = some x := ⟨_, List.getElem?_eq_getElem (by omega)⟩
      obtain ⟨ms, hms⟩ : ∃ ms, ms = [x] := ⟨_, rfl⟩
      have e : causeQ q p = some ⟨p, q.res.name, 2, ms⟩ := by simp [causeQ, hf, hx, hms]
      refine loop_intro (α := Nat) (fun i => ⟨[(26, I i), (25, I 2), (24, reasV), (2, .ptr 128 0), (4, .ptr 256 0), (6, procsV (ordQ q)), (7, I ((k : Int) + 1)), (8, .ptr 512 0)], [(128, q.c), (256, cz.c), (512, (if i = 2 then ⟨p, q.res.name, 2, ms⟩ else (⟨p, q.res.name, 0, []⟩ : Cause)).c)]⟩) (fun i => i ≤ 2) (fun i => 2 - i) 0 (by simp) ?_ ?_
      · refine Imp.weak ?_ ?_
        · simp (disch := omega) only [go_sem]
        · simp (disch := omega) only [go_sem, cz]
      rintro i hi J hJ
      have n1 : decide ((k : Int) + 1 = 0) = false := decide_eq_false (by omega)
      have n2 : decide (0 < (k : Int) + 1) = true := decide_eq_true (by omega)
      obtain rfl | rfl | rfl : i = 0 ∨ i = 1 ∨ i = 2 := by omega
      · simp (disch := omega) only [go_sem, z0]
        refine call_pure (f101_ok ((k : Int) + 1)) (by simp (disch := omega) only [go_sem]) rfl ?_
        simp (disch := omega) only [go_sem, n1]
        refine hJ _ 1 (by omega) (by omega) (Imp.weak (by simp (disch := omega) only [go_sem]) (by simp (disch := omega) only [go_sem]))
      · simp (disch := omega) only [go_sem, z1]
        refine call_pure (f105_ok ((k : Int) + 1)) (by simp (disch := omega) only [go_sem]) rfl ?_
        simp (disch := omega) only [go_sem, n2]
        refine draw_mk 9 [([], [10]), ([0], [34]), ([], [10]), ([2], [36]), ([], [2]), ([], [6]), ([], [7]), ([2, 3, 4, 5, 6], [37, 38, 39, 40]), ([0, 1], [8]), ([0, 1, 2, 3, 4, 5, 6, 7, 8], []), ([0, 1, 2, 3, 4, 5, 6, 7, 8, 9], []), ([0, 1, 2, 3, 4, 5, 6, 7, 8, 9, 10], [])] fol (by kernel_rfl) ?_
        simp (disch := omega) only [go_sem]
        first | ((with_reducible show callB _ _ _ _ _ _); refine call_pure (f106_ok q (ordQ q) k _ rfl x hx hol ms hms) (by simp (disch := omega) only [go_sem]) rfl ?_) | ((with_reducible show freeCallB _ _ _ _ _ _ _ _ _ _); refine freeCall_mk ⟨⟨[], [], []⟩, [], []⟩ (f106_ok q (ordQ q) k _ rfl x hx hol ms hms) (by simp (disch := omega) only [go_sem]) rfl rfl trivial (.inl rfl) ?_)
        simp (disch := omega) only [go_sem]
        refine hJ _ 2 (by omega) (by omega) (Imp.weak (by simp (disch := omega) only [go_sem]) (by simp (disch := omega) only [go_sem]))
      · simp (disch := omega) only [go_sem, z2]
        rw [e]
        refine ret_mk ⟨[], [], []⟩ _ (by (try simp (disch := omega) only [go_sem, resVs, resV]) <;> rfl) ⟨rfl, rfl⟩ (by simp) ?_ trivial
        simp (disch := omega) only [go_sem]
end Go.Rd
open Go Go.Abs Go.Proofs
set_option maxRecDepth 100000
namespace Go.Rd
structure Wit where
  state : WS
  members : List Proc
  causes : List Cause
@[reducible] def causesV (l : List Cause) : AV := .sl .no 6 (l.map Cause.c)
def Wit.c (w : Wit) : List AV := [queuesV w.state.queues, needsV w.state.needs, procsV w.members, causesV w.causes]
attribute [go_sem] Wit.c
def wE : Wit := ⟨wsE, [], []⟩
theorem allQ_two {q : Queue} (h : allQ q ≤ 100) : q.convs.length + q.waits.length ≤ 1000000 ∧ q.holds.length ≤ 1000000 := by
  unfold allQ sizeQ at h
  omega
def rightS (s : WS) (c : Cause) : Bool := match s.queues.find? (fun q => q.res.name == c.name) with
  | none => false
  | some q => (causeQ q c.proc).isSome && decide (((causeQ q c.proc).getD cz).why = c.why) && decide (((causeQ q c.proc).getD cz).members = c.members)
theorem causeQ_len {q : Queue} (h : allQ q ≤ 100) (p : Proc) : ((causeQ q p).getD cz).members.length ≤ 1000000 := by
  unfold causeQ
  split
  · simp [cz]
  · simp only [Option.getD_some, againstH]
    split
    · have := agT_len q.res p (wantA q p) q.holds
      have := allQ_two h
      omega
    · simp
  · simp
theorem f37_ok (s : WS) (c : Cause) (h : Few s) : FnOK C0 37 [.agg s.c, .agg c.c] [] (B (rightS s c)) [] := by
  have h1 := h.nq
  refine FnOK.intro (fn := Tryz.f37) (c := Tryz.f37.body.getD .skip) (by kernel_rfl) (by kernel_rfl) (by kernel_rfl) (by kernel_rfl) (by simp [Tryz.f37]) (by simp [names]) ?_
  unfold Tryz.f37
  simp (disch := omega) only [go_sem]
  refine loop_intro (α := Nat) (fun i => ⟨[(12, I i), (11, I s.queues.length), (10, queuesV s.queues), (3, .ptr 192 0)], [(192, c.c)]⟩) (fun i => i ≤ (s.queues).length ∧ (s.queues.take i).find? (fun q => q.res.name == c.name) = none) (fun i => (s.queues).length - i) 0 ⟨by omega, rfl⟩ ?_ ?_
  · refine Imp.weak ?_ ?_
    all_goals (try simp (disch := omega) only [go_sem])
    all_goals (try (repeat' (with_reducible apply And.intro)))
    all_goals (first | exact .nilOwn (by omega) | exact .nilNo (by omega) | exact .sl (by simp []) | exact .int (by simp []) | exact .eq (by simp []))
  rintro i ⟨hi, hP⟩ J hJ
  simp (disch := omega) only [go_sem]
  refine And.intro (fun hlt => ?_) (fun hge => ?_)
  rotate_left
  have hil : i = (s.queues).length := by simp at hge; omega
  rotate_left
  obtain ⟨b, hb⟩ : ∃ b, (s.queues)[i]? = some b := ⟨_, List.getElem?_eq_getElem (by simp at hlt; omega)⟩
  have hbm := List.mem_of_getElem? hb
  simp (disch := omega) only [go_sem, List.getElem?_map, hb]
  · obtain ⟨q1, q2⟩ := allQ_two (h.aq b hbm)
    have ql := causeQ_len (h.aq b hbm) c.proc
    by_cases hn : b.res.name = c.name
    · have e1 : (b.res.name == c.name) = true := by simp [hn]
      have e : rightS s c = ((causeQ b c.proc).isSome && decide (((causeQ b c.proc).getD cz).why = c.why) && decide (((causeQ b c.proc).getD cz).members = c.members)) := by
        have : s.queues.find? (fun q => q.res.name == c.name) = some b := find_at hP hb e1
        simp [rightS, this]
      have e2 : (b.res.name != c.name) = false := by simp [hn]
      rw [e]
      simp (disch := omega) only [go_sem, e1, e2, Bool.not_true]
      refine call_pure (f27_ok b c.proc q1 q2) (by simp (disch := omega) only [go_sem]) rfl ?_
      generalize (causeQ b c.proc).getD cz = d at ql
      cases hs : (causeQ b c.proc).isSome
      · simp (disch := omega) only [go_sem]
        refine ret_mk ⟨[], [], []⟩ _ (by (try simp (disch := omega) only [go_sem, resVs, resV]) <;> rfl) ⟨rfl, rfl⟩ (by simp) ?_ trivial
        simp (disch := omega) only [go_sem]
      simp (disch := omega) only [go_sem]
      by_cases hw : d.why = c.why
      rotate_left
      · have e3 : (d.why == c.why) = false := by simp [hw]
        simp (disch := omega) only [go_sem, e3]
        refine ret_mk ⟨[], [], []⟩ _ (by (try simp (disch := omega) only [go_sem, resVs, resV]) <;> rfl) ⟨rfl, rfl⟩ (by simp) ?_ trivial
        simp (disch := omega) only [go_sem]
        exact wb (by simp [hw])
      have e3 : (d.why == c.why) = true := by simp [hw]
      simp (disch := omega) only [go_sem, e3]
      refine call_pure (f36_ok d.members c.members ql) (by simp (disch := omega) only [go_sem]) rfl ?_
      simp (disch := omega) only [go_sem]
      refine ret_mk ⟨[], [], []⟩ _ (by (try simp (disch := omega) only [go_sem, resVs, resV]) <;> rfl) ⟨rfl, rfl⟩ (by simp) ?_ trivial
      simp (disch := omega) only [go_sem]
      exact wb (by simp [hw])
    · have e1 : (b.res.name == c.name) = false := by simp [hn]
      have e2 : (b.res.name != c.name) = true := by simp [hn]
      simp (disch := omega) only [go_sem, e1, e2, Bool.not_false]
      refine hJ _ (i + 1) ⟨by simp at hlt; omega, (by rw [find_take hP hb]; simp [e1])⟩ (by simp at hlt; omega) (Imp.weak (by simp (disch := omega) only [go_sem]) (by simp (disch := omega) only [go_sem]))
  · subst hil
    rw [List.take_length] at hP
    refine ret_mk ⟨[], [], []⟩ _ (by (try simp (disch := omega) only [go_sem, resVs, resV]) <;> rfl) ⟨rfl, rfl⟩ (by simp) ?_ trivial
    simp (disch := omega) only [go_sem]
    exact wb (by simp [rightS, hP])
theorem few_Restrict {s : WS} (h : Few s) (l : List Proc) : Few (RestrictS s l).1 := by
  unfold RestrictS
  split
  · exact few_res h l
  · exact ⟨by simp [wsE], by simp [wsE], by simp [wsE]⟩
def agreesS (w : Wit) (s : WS) : Bool := decide ((RestrictS s w.members).2 = 0) && alikeS (RestrictS s w.members).1 w.state
theorem f15_ok (w : Wit) (s : WS) (hw : Few w.state) (h : Few s) (hm : w.members.length ≤ 1000000) : FnOK C0 15 [.agg w.c, .agg s.c] [] (B (agreesS w s)) [] := by
  refine FnOK.intro (fn := Tryz.f15) (c := Tryz.f15.body.getD .skip) (by kernel_rfl) (by kernel_rfl) (by kernel_rfl) (by kernel_rfl) (by simp [Tryz.f15]) (by simp [names]) ?_
  unfold Tryz.f15
  simp (disch := omega) only [go_sem]
  refine call_pure (f24_ok s w.members h hm) (by simp (disch := omega) only [go_sem]) rfl ?_
  have hf := few_Restrict h w.members
  unfold agreesS
  generalize RestrictS s w.members = r at hf
  by_cases h0 : r.2 = 0
  · have e : (r.2 == 0) = true := by simp [h0]
    simp (disch := omega) only [go_sem, e]
    refine call_pure (f47_ok r.1 w.state hf hw) (by simp (disch := omega) only [go_sem]) rfl ?_
    simp (disch := omega) only [go_sem]
    refine ret_mk ⟨[], [], []⟩ _ (by (try simp (disch := omega) only [go_sem, resVs, resV]) <;> rfl) ⟨rfl, rfl⟩ (by simp) ?_ trivial
    simp (disch := omega) only [go_sem]
    exact wb (by simp [h0])
  · have e : (r.2 == 0) = false := by simp [h0]
    simp (disch := omega) only [go_sem, e]
    refine ret_mk ⟨[], [], []⟩ _ (by (try simp (disch := omega) only [go_sem, resVs, resV]) <;> rfl) ⟨rfl, rfl⟩ (by simp) ?_ trivial
    simp (disch := omega) only [go_sem]
    exact wb (by simp [h0])
end Go.Rd
open Go Go.Abs Go.Proofs
set_option maxRecDepth 100000
namespace Go.Rd
@[go_sem] theorem causesV_nil : causesV [] = .sl .no 6 [] := rfl
def causesQ (p : Proc) (l : List Queue) : List Cause := l.filterMap fun q => causeQ q p
def causesS (l : List Queue) (ms : List Proc) : List Cause := ms.flatMap fun p => causesQ p l
theorem causesQ_next {p : Proc} {l : List Queue} {i : Nat} {b : Queue} (hb : l[i]? = some b) : causesQ p (l.take (i + 1)) = causesQ p (l.take i) ++ (causeQ b p).toList := by
  unfold causesQ
  rw [List.take_add_one, hb, Option.toList_some, List.filterMap_append]
  cases h : causeQ b p <;> simp [h]
theorem causesQ_len (p : Proc) (l : List Queue) : (causesQ p l).length ≤ l.length := List.length_filterMap_le _ _
theorem causesS_next {l : List Queue} {ms : List Proc} {i : Nat} {p : Proc} (hb : ms[i]? = some p) : causesS l (ms.take (i + 1)) = causesS l (ms.take i) ++ causesQ p l := by
  unfold causesS
  rw [List.take_add_one, hb, Option.toList_some, List.flatMap_append]
  simp
theorem causesS_len (l : List Queue) : ∀ ms : List Proc, (causesS l ms).length ≤ ms.length * l.length
  | [] => by simp [causesS]
  | p :: ms => by
    have h1 := causesS_len l ms
    have h2 := causesQ_len p l
    unfold causesS at h1 ⊢
    simp only [List.flatMap_cons, List.length_append, List.length_cons, Nat.add_mul, Nat.one_mul]
    omega
def ofS (s : WS) (l : List Proc) : Wit × Int :=
  if (RestrictS s l).2 = 0 then
    if (procsS (RestrictS s l).1).length = 0 ∨ 0 < (FreeS (RestrictS s l).1).length then (wE, 14)
    else (⟨(RestrictS s l).1, procsS (RestrictS s l).1, causesS (RestrictS s l).1.queues (procsS (RestrictS s l).1)⟩, 0)
  else (wE, (RestrictS s l).2)
theorem f10_ok (s : WS) (l : List Proc) (h : Few s) (hl : l.length ≤ 1000000) : FnOK C0 10 [.agg s.c, procsV l] [] (.tup [.agg (ofS s l).1.c, I (ofS s l).2]) [] := by
  have hf := few_Restrict h l
  refine FnOK.intro (fn := Tryz.f10) (c := Tryz.f10.body.getD .skip) (by kernel_rfl) (by kernel_rfl) (by kernel_rfl) (by kernel_rfl) (by simp [Tryz.f10]) (by simp [names]) ?_
  unfold Tryz.f10
  simp (disch := omega) only [go_sem]
  refine call_pure (f24_ok s l h hl) (by simp (disch := omega) only [go_sem]) rfl ?_
  unfold ofS
  generalize RestrictS s l = r at hf
  by_cases h0 : r.2 = 0
  rotate_left
  · have e : (r.2 != 0) = true := by simp [h0]
    simp (disch := omega) only [go_sem, e, if_neg h0, wE, wsE]
    refine ret_mk ⟨[], [], []⟩ _ (by (try simp (disch := omega) only [go_sem, resVs, resV]) <;> rfl) ⟨rfl, rfl⟩ (by simp) ?_ trivial
    simp (disch := omega) only [go_sem]
    refine .tup (WeakArgs.weakL ?_)
    simp (disch := omega) only [go_sem]
    repeat' (with_reducible apply And.intro)
    all_goals (first | exact .nilNo (by omega) | exact .agg (WeakArgs.weakL (by simp (disch := omega) only [go_sem])))
  have e : (r.2 != 0) = false := by simp [h0]
  rw [if_pos h0]
  obtain ⟨x, re⟩ := r
  have hf : Few x := hf
  have hpl := procsS_len hf
  have hq := hf.nq
  simp (disch := omega) only [go_sem, e]
  refine draw_mk 5 [([], [6]), ([], [6]), ([1], [26]), ([0, 1, 2], [25, 27]), ([], []), ([0, 1, 2, 3, 4], [])] fol (by kernel_rfl) ?_
  simp (disch := omega) only [go_sem]
  first | ((with_reducible show callB _ _ _ _ _ _); refine call_pure (f25_ok x hf) (by simp (disch := omega) only [go_sem]) rfl ?_) | ((with_reducible show freeCallB _ _ _ _ _ _ _ _ _ _); refine freeCall_mk ⟨⟨[], [], []⟩, [], []⟩ (f25_ok x hf) (by simp (disch := omega) only [go_sem]) rfl rfl trivial (.inl rfl) ?_)
  simp (disch := omega) only [go_sem]
  by_cases h1 : (procsS x).length = 0
  · have e1 : (((procsS x).length : Int) == 0) = true := by simp [h1]
    simp (disch := omega) only [go_sem, e1, if_pos (show (procsS x).length = 0 ∨ 0 < (FreeS x).length from .inl h1), wE, wsE]
    refine ret_mk ⟨[], [], []⟩ _ (by (try simp (disch := omega) only [go_sem, resVs, resV]) <;> rfl) ⟨rfl, rfl⟩ (by simp) ?_ trivial
    simp (disch := omega) only [go_sem]
    refine .tup (WeakArgs.weakL ?_)
    simp (disch := omega) only [go_sem]
    repeat' (with_reducible apply And.intro)
    all_goals (first | exact .nilNo (by omega) | exact .agg (WeakArgs.weakL (by simp (disch := omega) only [go_sem])))
  have e1 : (((procsS x).length : Int) == 0) = false := by simp [h1]
  simp (disch := omega) only [go_sem, e1]
  refine call_pure (f26_ok x hf) (by simp (disch := omega) only [go_sem]) rfl ?_
  by_cases h2 : 0 < (FreeS x).length
  · have e2 : decide (0 < ((FreeS x).length : Int)) = true := decide_eq_true (by omega)
    simp (disch := omega) only [go_sem, e2, if_pos (show (procsS x).length = 0 ∨ 0 < (FreeS x).length from .inr h2), wE, wsE]
    refine ret_mk ⟨[], [], []⟩ _ (by (try simp (disch := omega) only [go_sem, resVs, resV]) <;> rfl) ⟨rfl, rfl⟩ (by simp) ?_ trivial
    simp (disch := omega) only [go_sem]
    refine .tup (WeakArgs.weakL ?_)
    simp (disch := omega) only [go_sem]
    repeat' (with_reducible apply And.intro)
    all_goals (first | exact .nilNo (by omega) | exact .agg (WeakArgs.weakL (by simp (disch := omega) only [go_sem])))
  have e2 : decide (0 < ((FreeS x).length : Int)) = false := decide_eq_false (by omega)
  rw [if_neg (show ¬((procsS x).length = 0 ∨ 0 < (FreeS x).length) by omega)]
  simp (disch := omega) only [go_sem, e2]
  generalize procsS x = ms at hpl h1
  refine loop_intro (α := Nat) (fun i => ⟨[(43, I i), (42, I ms.length), (41, procsV ms), (4, .ptr 256 0), (6, .ptr 384 0), (8, .ptr 512 0)], [(256, wE.c), (384, x.c), (512, [queuesV x.queues, needsV x.needs, procsV ms, .sl (.own 4160 0) 6 ((causesS x.queues (ms.take i)).map Cause.c)])]⟩) (fun i => i ≤ (ms).length ∧ True) (fun i => (ms).length - i) 0 ⟨by omega, trivial⟩ ?_ ?_
  · refine Imp.weak ?_ ?_
    all_goals (try simp (disch := omega) only [go_sem])
    all_goals (try (repeat' (with_reducible apply And.intro)))
    all_goals (first | exact .nilOwn (by omega) | exact .nilNo (by omega) | exact .sl (by simp [wE, wsE, causesS]) | exact .int (by simp [wE, wsE, causesS]) | exact .eq (by simp [wE, wsE, causesS]))
  rintro i ⟨hi, hP⟩ J hJ
  simp (disch := omega) only [go_sem]
  refine And.intro (fun hlt => ?_) (fun hge => ?_)
  rotate_left
  have hil : i = (ms).length := by simp at hge; omega
  rotate_left
  obtain ⟨b, hb⟩ : ∃ b, (ms)[i]? = some b := ⟨_, List.getElem?_eq_getElem (by simp at hlt; omega)⟩
  have hbm := List.mem_of_getElem? hb
  simp (disch := omega) only [go_sem, List.getElem?_map, hb]
  · obtain ⟨o, rfl⟩ : ∃ o, o = i := ⟨i, rfl⟩
    have hJo := hJ
    have hbo := hb
    have hlo : o < ms.length := by simp at hlt; omega
    clear hJ hb hlt
    obtain ⟨p, rfl⟩ : ∃ p, p = b := ⟨b, rfl⟩
    have n1 := causesS_len x.queues (ms.take o)
    have n2 : (ms.take o).length ≤ 20000 := by simp; omega
    have n3 : (ms.take o).length * x.queues.length ≤ 20000 * 100 := Nat.mul_le_mul n2 hq
    refine loop_intro (α := Nat) (fun i => ⟨[(50, I i), (49, I x.queues.length), (48, queuesV x.queues), (43, I o), (42, I ms.length), (41, procsV ms), (4, .ptr 256 0), (6, .ptr 384 0), (8, .ptr 512 0), (10, .ptr 640 0)], [(256, wE.c), (384, x.c), (512, [queuesV x.queues, needsV x.needs, procsV ms, .sl (.own 4160 0) 6 ((causesS x.queues (ms.take o) ++ causesQ p (x.queues.take i)).map Cause.c)]), (640, p.c)]⟩) (fun i => i ≤ (x.queues).length ∧ True) (fun i => (x.queues).length - i) 0 ⟨by omega, trivial⟩ ?_ ?_
    · refine Imp.weak ?_ ?_
      all_goals (try simp (disch := omega) only [go_sem])
      all_goals (try (repeat' (with_reducible apply And.intro)))
      all_goals (first | exact .nilOwn (by omega) | exact .nilNo (by omega) | exact .sl (by simp [causesQ]) | exact .int (by simp [causesQ]) | exact .eq (by simp [causesQ]))
    rintro i ⟨hi, hP⟩ J hJ
    simp (disch := omega) only [go_sem]
    refine And.intro (fun hlt => ?_) (fun hge => ?_)
    rotate_left
    have hil : i = (x.queues).length := by simp at hge; omega
    rotate_left
    obtain ⟨b, hb⟩ : ∃ b, (x.queues)[i]? = some b := ⟨_, List.getElem?_eq_getElem (by simp at hlt; omega)⟩
    have hbm := List.mem_of_getElem? hb
    simp (disch := omega) only [go_sem, List.getElem?_map, hb]
    · obtain ⟨q1, q2⟩ := allQ_two (hf.aq b hbm)
      have n4 := causesQ_len p (x.queues.take i)
      have n5 : (x.queues.take i).length ≤ 100 := by simp; omega
      have hbd : (causesS x.queues (ms.take o)).length + (causesQ p (x.queues.take i)).length + 1 ≤ 4294967296 := by omega
      have nx := causesQ_next (p := p) hb
      refine call_pure (f27_ok b p q1 q2) (by simp (disch := omega) only [go_sem]) rfl ?_
      cases hc : causeQ b p with
      | none =>
        rw [hc] at nx
        simp (disch := omega) only [go_sem, Option.isSome_none, Option.getD_none, cz]
        refine hJ _ (i + 1) ⟨by simp at hlt; omega, trivial⟩ (by simp at hlt; omega) (Imp.weak (by simp (disch := omega) only [go_sem]) ?_)
        simp (disch := omega) only [go_sem]
        exact .sl (by rw [nx]; simp)
      | some c =>
        rw [hc] at nx
        simp (disch := omega) only [go_sem, Option.isSome_some, Option.getD_some]
        refine hJ _ (i + 1) ⟨by simp at hlt; omega, trivial⟩ (by simp at hlt; omega) (Imp.weak (by simp (disch := omega) only [go_sem]) ?_)
        simp (disch := omega) only [go_sem]
        exact .sl (by rw [nx]; simp [Cause.c])
    · subst hil
      refine hJo _ (o + 1) ⟨by omega, trivial⟩ (by omega) (Imp.weak (by simp (disch := omega) only [go_sem]) ?_)
      simp (disch := omega) only [go_sem]
      exact .sl (by rw [causesS_next hbo])
  · subst hil
    simp (disch := omega) only [go_sem, List.take_length]
    refine ret_mk ⟨[], [], [4160]⟩ _ (by (try simp (disch := omega) only [go_sem, resVs, resV]) <;> rfl) ⟨rfl, rfl⟩ (by simp) ?_ trivial
    simp (disch := omega) only [go_sem]
def buildS (s : WS) : Wit × Int := ofS s (ReduceS s).2
theorem f8_ok (s : WS) (h : Few s) (hl : (ReduceS s).2.length ≤ 1000000) : FnOK C0 8 [.agg s.c] [] (.tup [.agg (buildS s).1.c, I (buildS s).2]) [] := by
  refine FnOK.intro (fn := Tryz.f8) (c := Tryz.f8.body.getD .skip) (by kernel_rfl) (by kernel_rfl) (by kernel_rfl) (by kernel_rfl) (by simp [Tryz.f8]) (by simp [names]) ?_
  unfold Tryz.f8
  simp (disch := omega) only [go_sem]
  refine call_pure (f23_ok s h) (by simp (disch := omega) only [go_sem]) rfl ?_
  simp (disch := omega) only [go_sem]
  refine call_pure (f10_ok s (ReduceS s).2 h hl) (by simp (disch := omega) only [go_sem]) rfl ?_
  unfold buildS
  simp (disch := omega) only [go_sem]
  refine ret_mk ⟨[], [], []⟩ _ (by (try simp (disch := omega) only [go_sem, resVs, resV]) <;> rfl) ⟨rfl, rfl⟩ (by simp) ?_ trivial
  simp (disch := omega) only [go_sem]
end Go.Rd
open Go Go.Abs Go.Proofs
set_option maxRecDepth 100000
namespace Go.Rd
abbrev Pl := Proc × Bs
def keyC (k : Pl) : List Value := [.int .i64 k.1.site, .int .i64 k.1.inc, .int .i64 k.1.num, .string (str k.2)]
def mpC : List Pl → List AV
  | [] => []
  | k :: l => .agg (vals (keyC k)) :: B true :: mpC l
@[go_sem] theorem mpC_nil : mpC [] = [] := rfl
theorem mpC_app : ∀ l m, mpC (l ++ m) = mpC l ++ mpC m
  | [], m => rfl
  | k :: l, m => by simp [mpC, mpC_app l m]
@[go_sem] theorem mpC_kill (S T : List Nat) : ∀ l, killL S T (mpC l) = mpC l
  | [] => rfl
  | k :: l => by simp [mpC, killL, AV.kill, keyC, vals, mpC_kill S T l]
@[go_sem] theorem mpC_frz (S : List Nat) : ∀ l, freezeL S (mpC l) = mpC l
  | [] => rfl
  | k :: l => by simp [mpC, freezeL, AV.freeze, keyC, vals, mpC_frz S l]
@[go_sem] theorem mpC_ren (ρ : Rn) : ∀ l, renL ρ (mpC l) = mpC l
  | [] => rfl
  | k :: l => by simp [mpC, renL, AV.ren, keyC, vals, mpC_ren ρ l]
theorem keyEq (a b : Pl) : eqVals [1, 1, 1, 2] (keyC a) (keyC b) = some (decide (a = b)) := by
  obtain ⟨⟨x, y, z⟩, n⟩ := a
  obtain ⟨⟨x', y', z'⟩, n'⟩ := b
  simp only [keyC, eqVals, if_true, Option.map_some, Option.some.injEq, str_toList]
  refine Bool.eq_iff_iff.2 ?_
  simp [and_assoc]
theorem keyVals_c (k : Pl) : keyVals true (.agg (vals (keyC k))) = some (keyC k) := by
  simp [keyVals, vals, keyC, valsOf]
theorem findM_mp (k : Pl) : ∀ l : List Pl, ∃ r, findM true [1, 1, 1, 2] (keyC k) (mpC l) = some r ∧ ((k ∈ l ∧ ∃ j, r = some (j, B true)) ∨ (k ∉ l ∧ r = none))
  | [] => ⟨none, rfl, .inr ⟨by simp, rfl⟩⟩
  | k' :: l => by
    obtain ⟨r, h1, h2⟩ := findM_mp k l
    by_cases h : k = k'
    · refine ⟨some (0, B true), ?_, .inl ⟨by simp [h], 0, rfl⟩⟩
      simp [mpC, findM, keyVals_c, keyEq, h]
    · refine ⟨r.map fun p => (p.1 + 1, p.2), ?_, ?_⟩
      · simp [mpC, findM, keyVals_c, keyEq, h, h1]
      · rcases h2 with ⟨h3, j, rfl⟩ | ⟨h3, rfl⟩
        · exact .inl ⟨by simp [h3], j + 1, rfl⟩
        · exact .inr ⟨by simp [h, h3], rfl⟩
theorem zM4 : zeroM Tryz.prog 4 = some (B false) := by
  have h : zeroV Tryz.prog 4 = some (.bool false) := by kernel_rfl
  simp [zeroM, h, Value.oneCell']
@[go_sem] theorem look_mp (l : List Pl) (p : Proc) (name : Bs) : lookupA Tryz.prog 76 (mpC l) (.agg [.v (.int .i64 p.site), .v (.int .i64 p.inc), .v (.int .i64 p.num), .v (.string (str name))]) = some (B (decide ((p, name) ∈ l))) := by
  have hk := keyVals_c (p, name)
  have he := keyEq (p, name) (p, name)
  obtain ⟨r, h1, h2⟩ := findM_mp (p, name) l
  unfold lookupA
  simp only [F.mp76]
  rw [show (AV.agg [.v (.int .i64 p.site), .v (.int .i64 p.inc), .v (.int .i64 p.num), .v (.string (str name))]) = .agg (vals (keyC (p, name))) from rfl, hk]
  simp only [he, Option.isSome_some, if_true, h1]
  rcases h2 with ⟨h3, j, rfl⟩ | ⟨h3, rfl⟩
  · simp [h3]
  · simp [h3, zM4]
theorem ins_mp {l : List Pl} {p : Proc} {name : Bs} (h : (p, name) ∉ l) : insertA Tryz.prog 76 (mpC l) (.agg [.v (.int .i64 p.site), .v (.int .i64 p.inc), .v (.int .i64 p.num), .v (.string (str name))]) (B true) = some (mpC (l ++ [(p, name)])) := by
  have hk := keyVals_c (p, name)
  have he := keyEq (p, name) (p, name)
  obtain ⟨r, h1, h2⟩ := findM_mp (p, name) l
  unfold insertA
  simp only [F.mp76]
  rw [show (AV.agg [.v (.int .i64 p.site), .v (.int .i64 p.inc), .v (.int .i64 p.num), .v (.string (str name))]) = .agg (vals (keyC (p, name))) from rfl, hk]
  simp only [he, Option.isSome_some, if_true, h1]
  rcases h2 with ⟨h3, _⟩ | ⟨_, rfl⟩
  · exact absurd h3 h
  · rw [mpC_app]; rfl
end Go.Rd
/- Regions that draw their order, set by set: the state at each set of operations that have been done is given. -/
namespace Go.Abs

/-- the temporaries of the operations done: weight (a power of two), temporary, value -/
def sel (m : Nat) : List (Nat × Nat × AV) → List (Nat × AV)
  | [] => []
  | (w, t, x) :: l => if m / w % 2 = 1 then (t, x) :: sel m l else sel m l

def dagE (X : Env) (ops : Array Oper) (S : Nat → St) (m : Nat) : List (Nat × Nat) → Prop
  | [] => True
  | (i, m') :: l => opsA X ops (opAt ops i) (fun st' => Imp X st' (S m')) (S m) ∧ dagE X ops S m l
def dagP (X : Env) (ops : Array Oper) (S : Nat → St) : List (Nat × List (Nat × Nat)) → Prop
  | [] => True
  | (m, l) :: t => dagE X ops S m l ∧ dagP X ops S t

def okD (ops : Array Oper) (full : Nat) (tab : List (Nat × List (Nat × Nat))) : Bool :=
  (tab.any fun p => p.1 == 0) && ((List.range ops.size).all fun i => full.testBit i) && tab.all fun p =>
    (p.1 == full || (List.range ops.size).any (fun i => !p.1.testBit i && (edgesOf ops i).all fun e => p.1.testBit e)) &&
    ((List.range ops.size).all fun i => p.1.testBit i || !((edgesOf ops i).all fun e => p.1.testBit e) || p.2.any (fun q => q.1 == i)) &&
    p.2.all fun q => q.2 == (p.1 ||| 2 ^ q.1) && tab.any (fun p' => p'.1 == q.2)

section
variable {X : Env} {A : A0} {N : Nat} {ops : Array Oper}

theorem dagE_mem {S : Nat → St} {m : Nat} {q : Nat × Nat} : ∀ {l : List (Nat × Nat)}, dagE X ops S m l → q ∈ l → opsA X ops (opAt ops q.1) (fun st' => Imp X st' (S q.2)) (S m)
  | [], _, h => by cases h
  | (i, m') :: l, h, hm => by
    simp only [dagE] at h
    rcases List.mem_cons.1 hm with rfl | hm
    · exact h.1
    · exact dagE_mem h.2 hm
theorem dagP_mem {S : Nat → St} {p : Nat × List (Nat × Nat)} : ∀ {tab : List (Nat × List (Nat × Nat))}, dagP X ops S tab → p ∈ tab → dagE X ops S p.1 p.2
  | [], _, h => by cases h
  | (i, m') :: l, h, hm => by
    simp only [dagP] at h
    rcases List.mem_cons.1 hm with rfl | hm
    · exact h.1
    · exact dagP_mem h.2 hm

theorem dag_sound (hA : A.ext = X.ext) (hX : ∀ s ∈ X.ext, s % 64 = 63) (hN : RegN N ops) {Q : Exit → Act → World → Prop} {K : St → Prop} (hQ : ∀ g st a w, R X.C A N g st a w → K st → Q .normal a w)
    {full : Nat} {tab : List (Nat × List (Nat × Nat))} {S : Nat → St} (hok : okD ops full tab = true) (hs : dagP X ops S tab) (he : K (S full)) :
    ∀ (fuel : Nat) (m : Nat) (l : List (Nat × Nat)) (listed : Array Bool) (g : Gh) (a : Act) (w : World), listed.size = ops.size → unl listed ≤ fuel → (∀ j, j < ops.size → dOf listed j = m.testBit j) → (m, l) ∈ tab → R X.C A N g (S m) a w →
      wpAny X.C.P .any ops Q fuel listed a w := by
  have hok' := hok
  simp only [okD, Bool.and_eq_true, List.all_eq_true, List.mem_range] at hok'
  obtain ⟨⟨_, hfull⟩, htab⟩ := hok'
  intro fuel
  induction fuel with
  | zero =>
    intro m l listed g a w hsz hu hd hm hR
    obtain ⟨⟨h1, h2⟩, h3⟩ := htab (m, l) hm
    simp only [Bool.or_eq_true, beq_iff_eq, List.any_eq_true, List.mem_range, Bool.and_eq_true] at h1
    rcases h1 with rfl | ⟨i, hi, hi1, hi2⟩
    · refine ⟨?_, hQ g _ a w hR he⟩
      cases hrd : Region.ready .any ops listed with
      | nil => rfl
      | cons j l' =>
        have hj : j ∈ Region.ready .any ops listed := by rw [hrd]; simp
        have := (ready_iff hsz).1 hj
        rw [hd j this.1, hfull j this.1] at this
        simp at this
    · have hmem : i ∈ Region.ready .any ops listed := (ready_iff hsz).2 ⟨hi, by rw [hd i hi]; simpa using hi1, fun e hee => by
        have h4 := List.all_eq_true.1 hi2 e hee
        have hlt := edge_lt hN e hee hi
        rw [hd e hlt]; exact h4⟩
      obtain ⟨k1, k2, _⟩ := (ready_iff hsz).1 hmem
      rw [unl_zero (by omega) (by omega : i < listed.size)] at k2
      cases k2
  | succ fuel ih =>
    intro m l listed g a w hsz hu hd hm hR
    obtain ⟨⟨h1, h2⟩, h3⟩ := htab (m, l) hm
    simp only [Bool.or_eq_true, beq_iff_eq, List.any_eq_true, List.mem_range, Bool.and_eq_true] at h1
    refine ⟨fun h0 => ?_, fun j hj => ?_⟩
    · rcases h1 with rfl | ⟨i, hi, hi1, hi2⟩
      · exact hQ g _ a w hR he
      · have hmem : i ∈ Region.ready .any ops listed := (ready_iff hsz).2 ⟨hi, by rw [hd i hi]; simpa using hi1, fun e hee => by
          have h4 := List.all_eq_true.1 hi2 e hee
          have hlt := edge_lt hN e hee hi
          rw [hd e hlt]; exact h4⟩
        rw [h0] at hmem; cases hmem
    · obtain ⟨k1, k2, k3⟩ := (ready_iff hsz).1 hj
      have hnb : m.testBit j = false := by rw [← hd j k1]; exact k2
      have h4 := h2 j k1
      have he' : (edgesOf ops j).all (fun e => m.testBit e) = true := List.all_eq_true.2 fun e hee => by
        have h5 := k3 e hee
        have hlt := edge_lt hN e hee k1
        rw [hd e hlt] at h5; exact h5
      simp only [hnb, he', Bool.not_true, Bool.or_false, Bool.false_or, List.any_eq_true, beq_iff_eq] at h4
      obtain ⟨q, hq, rfl⟩ := h4
      have h5 := h3 q hq
      simp only [beq_iff_eq, List.any_eq_true] at h5
      obtain ⟨h6, p', hp', h7⟩ := h5
      have ho : ops[q.1]? = some ops[q.1] := Array.getElem?_eq_getElem k1
      have hop := dagE_mem (dagP_mem hs hm) hq
      simp only [opAt, ho, opsA] at hop
      refine op_sound hA hX ho (fun g' st' a' w' hR' hK' => ?_) (hN.1 _ (Array.getElem_mem k1)) hop hR
      obtain ⟨g2, hR2⟩ := hK' A N g' a' w' hA hR'
      refine ih q.2 p'.2 _ g2 a' w' (by simp [hsz]) (by have := unl_set (by omega : q.1 < listed.size) k2; omega) (fun j' hj' => ?_) (by rw [← h7]; exact hp') hR2
      rw [dOf_set (by omega)]
      simp only [addD]
      rw [h6, Nat.testBit_or, Nat.testBit_two_pow]
      by_cases hjj : j' = q.1
      · subst hjj; simp
      · simp [hjj, Ne.symm hjj, hd j' hj']
end

theorem draw_dag {X : Env} {ops : Array Oper} {K : St → Prop} {st : St} (full : Nat) (tab : List (Nat × List (Nat × Nat))) (S : Nat → St) (hm : X.C.P.follows .mixedOrders = true) (hok : (edgesOK ops && okD ops full tab) = true)
    (h0 : Imp X st (S 0)) (hs : dagP X ops S tab) (he : K (S full)) : drawA X ops K st := by
  refine drawA_imp h0 ?_
  intro A N g a w hA hN hX hR id Q hQ
  simp only [Bool.and_eq_true] at hok
  refine wp_region_any hm ?_
  have h0 : ∃ l, (0, l) ∈ tab := by
    have := hok.2
    simp only [okD, Bool.and_eq_true, List.any_eq_true, beq_iff_eq] at this
    obtain ⟨⟨⟨p, hp, h⟩, _⟩, _⟩ := this
    exact ⟨p.2, by rw [← h]; exact hp⟩
  obtain ⟨l, hl⟩ := h0
  refine dag_sound hA hX (N := N) (K := K) ⟨fun o ho => ?_, fun i hi e he => ?_⟩ hQ hok.2 hs he ops.size 0 l (Array.replicate ops.size false) g a _ (by simp) (by simp [unl]) (fun j hj => by simp [dOf, Array.getD, hj]) hl hR.drew
  · unfold opOK
    cases hd : o.dst with
    | none => rfl
    | some d => simp; exact hN o ho d hd
  · have := hok.1
    simp only [edgesOK, List.all_eq_true, List.mem_range, decide_eq_true_eq] at this
    exact this i hi e he
@[go_sem] theorem dagE_nil (X : Env) (ops : Array Oper) (S : Nat → St) (m : Nat) : dagE X ops S m [] = True := rfl
@[go_sem] theorem dagE_cons (X : Env) (ops : Array Oper) (S : Nat → St) (m i m' : Nat) (l : List (Nat × Nat)) : dagE X ops S m ((i, m') :: l) = (opsA X ops (opAt ops i) (fun st' => Imp X st' (S m')) (S m) ∧ dagE X ops S m l) := rfl
@[go_sem] theorem dagP_nil (X : Env) (ops : Array Oper) (S : Nat → St) : dagP X ops S [] = True := rfl
@[go_sem] theorem dagP_cons (X : Env) (ops : Array Oper) (S : Nat → St) (m : Nat) (l : List (Nat × Nat)) (t : List (Nat × List (Nat × Nat))) : dagP X ops S ((m, l) :: t) = (dagE X ops S m l ∧ dagP X ops S t) := rfl
@[go_sem] theorem sel_nil (m : Nat) : sel m [] = [] := rfl
@[go_sem] theorem sel_cons (m w t : Nat) (x : AV) (l : List (Nat × Nat × AV)) : sel m ((w, t, x) :: l) = if m / w % 2 = 1 then (t, x) :: sel m l else sel m l := rfl
end Go.Abs

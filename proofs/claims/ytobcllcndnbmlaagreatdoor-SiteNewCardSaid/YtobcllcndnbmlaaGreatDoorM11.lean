/- part 11 of the proof -/
import Derived.Test.YtobcllcndnbmlaaGreatDoorProg
import Derived.Test.YtobcllcndnbmlaaGreatDoorM05
set_option linter.all false
open Go Go.Abs
namespace Go.Rd
abbrev Bs := List UInt8
def str (l : Bs) : ByteArray := ⟨l.toArray⟩
theorem ba_loop (bs : ByteArray) : ∀ (n i : Nat) (r : List UInt8), bs.size - i = n → ByteArray.toList.loop bs i r = r.reverse ++ bs.data.toList.drop i := by
  intro n
  induction n with
  | zero =>
    intro i r h
    rw [ByteArray.toList.loop]
    have hs : bs.size = bs.data.size := rfl
    rw [if_neg (by omega), List.drop_eq_nil_of_le (by simp; omega)]
    simp
  | succ n ih =>
    intro i r h
    rw [ByteArray.toList.loop]
    have hs : bs.size = bs.data.size := rfl
    rw [if_pos (by omega), ih (i + 1) _ (by omega)]
    rw [List.drop_eq_getElem_cons (l := bs.data.toList) (i := i) (by simp; omega)]
    have : bs.get! i = bs.data.toList[i]'(by simp; omega) := by
      show bs.data[i]! = _
      rw [getElem!_pos bs.data i (by omega)]
      simp
    simp [this]
theorem ba_toList (l : List UInt8) : (⟨l.toArray⟩ : ByteArray).toList = l := by
  unfold ByteArray.toList
  rw [ba_loop _ _ 0 [] rfl]
  simp
theorem str_size (l : Bs) : (str l).size = l.length := rfl
theorem str_toList (l : Bs) : (str l).toList = l := ba_toList l
structure Proc where
  site : Int
  inc : Int
  num : Int
  deriving DecidableEq
structure Amt where
  mode : Int
  units : Int
  deriving DecidableEq
structure Hold where
  proc : Proc
  amt : Amt
  deriving DecidableEq
structure Wait where
  proc : Proc
  amt : Amt
  prio : Int
  passed : Int
  deriving DecidableEq
structure Res where
  name : Bs
  kind : Int
  units : Int
  home : Int
  deriving DecidableEq
structure Queue where
  res : Res
  holds : List Hold
  convs : List Wait
  waits : List Wait
  gen : Int
  deriving DecidableEq
structure Atom where
  name : Bs
  amt : Amt
  deriving DecidableEq
inductive Expr where
  | mk (k : Int) (atom : Atom) (kids : List Expr)
structure Need where
  proc : Proc
  expr : Expr
  gen : Int
structure WS where
  queues : List Queue
  needs : List Need
def Proc.c (p : Proc) : List AV := [.v (.int .i64 p.site), .v (.int .i64 p.inc), .v (.int .i64 p.num)]
def Amt.c (a : Amt) : List AV := [.v (.int .i64 a.mode), .v (.int .i64 a.units)]
def Hold.c (h : Hold) : List AV := [.v (.int .i64 h.proc.site), .v (.int .i64 h.proc.inc), .v (.int .i64 h.proc.num), .v (.int .i64 h.amt.mode), .v (.int .i64 h.amt.units)]
def Wait.c (h : Wait) : List AV := [.v (.int .i64 h.proc.site), .v (.int .i64 h.proc.inc), .v (.int .i64 h.proc.num), .v (.int .i64 h.amt.mode), .v (.int .i64 h.amt.units), .v (.int .i64 h.prio), .v (.int .i64 h.passed)]
def Res.c (r : Res) : List AV := [.v (.string (str r.name)), .v (.int .i64 r.kind), .v (.int .i64 r.units), .v (.int .i64 r.home)]
@[reducible] def holdsV (l : List Hold) : AV := .sl .no 5 (l.map Hold.c)
@[reducible] def waitsV (l : List Wait) : AV := .sl .no 7 (l.map Wait.c)
@[reducible] def procsV (l : List Proc) : AV := .sl .no 3 (l.map Proc.c)
@[reducible] def amtsV (l : List Amt) : AV := .sl .no 2 (l.map Amt.c)
def Queue.c (q : Queue) : List AV := [.v (.string (str q.res.name)), .v (.int .i64 q.res.kind), .v (.int .i64 q.res.units), .v (.int .i64 q.res.home), holdsV q.holds, waitsV q.convs, waitsV q.waits, .v (.int .i64 q.gen)]
@[reducible] def queuesV (l : List Queue) : AV := .sl .no 8 (l.map Queue.c)
def Atom.c (a : Atom) : List AV := [.v (.string (str a.name)), .v (.int .i64 a.amt.mode), .v (.int .i64 a.amt.units)]
@[reducible] def atomsV (l : List Atom) : AV := .sl .no 3 (l.map Atom.c)
def Expr.k : Expr → Int
  | .mk k _ _ => k
def Expr.atom : Expr → Atom
  | .mk _ a _ => a
def Expr.kids : Expr → List Expr
  | .mk _ _ l => l
mutual
def Expr.kidsV : List Expr → List (List AV)
  | [] => []
  | e :: l => Expr.c e :: Expr.kidsV l
def Expr.c : Expr → List AV
  | .mk k a l => [.v (.int .i64 k), .v (.string (str a.name)), .v (.int .i64 a.amt.mode), .v (.int .i64 a.amt.units), .sl .no 5 (Expr.kidsV l)]
end
theorem kidsV_map : ∀ l, Expr.kidsV l = l.map Expr.c
  | [] => rfl
  | e :: l => by simp [Expr.kidsV, kidsV_map l]
@[reducible] def exprsV (l : List Expr) : AV := .sl .no 5 (l.map Expr.c)
theorem Expr.c_def (e : Expr) : e.c = [.v (.int .i64 e.k), .v (.string (str e.atom.name)), .v (.int .i64 e.atom.amt.mode), .v (.int .i64 e.atom.amt.units), exprsV e.kids] := by
  cases e with
  | mk k a l => simp [Expr.c, Expr.k, Expr.atom, Expr.kids, kidsV_map]
def Need.c (n : Need) : List AV := [.v (.int .i64 n.proc.site), .v (.int .i64 n.proc.inc), .v (.int .i64 n.proc.num), .v (.int .i64 n.expr.k), .v (.string (str n.expr.atom.name)), .v (.int .i64 n.expr.atom.amt.mode), .v (.int .i64 n.expr.atom.amt.units), exprsV n.expr.kids, .v (.int .i64 n.gen)]
@[reducible] def needsV (l : List Need) : AV := .sl .no 9 (l.map Need.c)
def WS.c (s : WS) : List AV := [queuesV s.queues, needsV s.needs]
attribute [go_sem] Proc.c Amt.c Hold.c Wait.c Res.c Queue.c Atom.c Expr.c_def Need.c WS.c str_size str_toList ba_toList
@[go_sem] theorem oc_int (k : IntKind) (n : Int) : (Value.int k n).oneCell' = true := rfl
@[go_sem] theorem oc_bool (b : Bool) : (Value.bool b).oneCell' = true := rfl
@[go_sem] theorem oc_str (s : ByteArray) : (Value.string s).oneCell' = true := rfl
@[go_sem] theorem oc_sl (a : Option Addr) (n m : Nat) : (Value.slice a n m).oneCell' = true := rfl
@[reducible] def I (n : Int) : AV := .v (.int .i64 n)
@[reducible] def B (b : Bool) : AV := .v (.bool b)
end Go.Rd
open Go Go.Abs Go.Proofs
set_option maxRecDepth 100000
namespace Go.Rd
attribute [go_sem] if_pos wrap64 Int.natCast_add
theorem fol : Tryz.prog.follows .mixedOrders = true := by kernel_rfl
@[go_sem] theorem F.sz3 : szOf Tryz.prog 3 = some 1 := by kernel_rfl
@[go_sem] theorem F.ag3 : aggOf Tryz.prog 3 = some false := by kernel_rfl
@[go_sem] theorem F.ze3 : zeroOf Tryz.prog 3 = some [.int .i64 0] := by kernel_rfl
@[go_sem] theorem F.in3 : intT Tryz.prog 3 = some .i64 := by kernel_rfl
@[go_sem] theorem F.sl3 : isSliceT Tryz.prog 3 = false := by kernel_rfl
@[go_sem] theorem F.i63 : isI64 Tryz.prog 3 = true := by kernel_rfl
@[go_sem] theorem F.sz4 : szOf Tryz.prog 4 = some 1 := by kernel_rfl
@[go_sem] theorem F.ag4 : aggOf Tryz.prog 4 = some false := by kernel_rfl
@[go_sem] theorem F.ze4 : zeroOf Tryz.prog 4 = some [.bool false] := by kernel_rfl
@[go_sem] theorem F.bo4 : boolT Tryz.prog 4 = true := by kernel_rfl
@[go_sem] theorem F.sz5 : szOf Tryz.prog 5 = some 1 := by kernel_rfl
@[go_sem] theorem F.ag5 : aggOf Tryz.prog 5 = some false := by kernel_rfl
@[go_sem] theorem F.ze5 : zeroOf Tryz.prog 5 = some [.int .u8 0] := by kernel_rfl
@[go_sem] theorem F.in5 : intT Tryz.prog 5 = some .u8 := by kernel_rfl
@[go_sem] theorem F.sl5 : isSliceT Tryz.prog 5 = false := by kernel_rfl
@[go_sem] theorem F.i65 : isI64 Tryz.prog 5 = false := by kernel_rfl
@[go_sem] theorem F.sz9 : szOf Tryz.prog 9 = some 1 := by kernel_rfl
@[go_sem] theorem F.ag9 : aggOf Tryz.prog 9 = some false := by kernel_rfl
@[go_sem] theorem F.ze9 : zeroOf Tryz.prog 9 = some [.string (str [])] := by kernel_rfl
@[go_sem] theorem F.st9 : strT Tryz.prog 9 = true := by kernel_rfl
@[go_sem] theorem F.sz22 : szOf Tryz.prog 22 = some 1 := by kernel_rfl
@[go_sem] theorem F.ag22 : aggOf Tryz.prog 22 = some false := by kernel_rfl
@[go_sem] theorem F.ze22 : zeroOf Tryz.prog 22 = some [.slice none 0 0] := by kernel_rfl
@[go_sem] theorem F.el22 : elemOfSlice Tryz.prog 22 = some (87, 4) := by kernel_rfl
@[go_sem] theorem F.ro22 : rowInf Tryz.prog 22 = some (87, 4, 40) := by kernel_rfl
@[go_sem] theorem F.sl22 : isSliceT Tryz.prog 22 = true := by kernel_rfl
@[go_sem] theorem F.st22 : strT Tryz.prog 22 = false := by kernel_rfl
@[go_sem] theorem F.sz23 : szOf Tryz.prog 23 = some 1 := by kernel_rfl
@[go_sem] theorem F.ag23 : aggOf Tryz.prog 23 = some false := by kernel_rfl
@[go_sem] theorem F.ze23 : zeroOf Tryz.prog 23 = some [.slice none 0 0] := by kernel_rfl
@[go_sem] theorem F.el23 : elemOfSlice Tryz.prog 23 = some (3, 1) := by kernel_rfl
@[go_sem] theorem F.ro23 : rowInf Tryz.prog 23 = some (3, 1, 8) := by kernel_rfl
@[go_sem] theorem F.sl23 : isSliceT Tryz.prog 23 = true := by kernel_rfl
@[go_sem] theorem F.st23 : strT Tryz.prog 23 = false := by kernel_rfl
@[go_sem] theorem F.sz25 : szOf Tryz.prog 25 = some 1 := by kernel_rfl
@[go_sem] theorem F.ag25 : aggOf Tryz.prog 25 = some false := by kernel_rfl
@[go_sem] theorem F.ze25 : zeroOf Tryz.prog 25 = some [.slice none 0 0] := by kernel_rfl
@[go_sem] theorem F.el25 : elemOfSlice Tryz.prog 25 = some (201, 8) := by kernel_rfl
@[go_sem] theorem F.ro25 : rowInf Tryz.prog 25 = some (201, 8, 120) := by kernel_rfl
@[go_sem] theorem F.sl25 : isSliceT Tryz.prog 25 = true := by kernel_rfl
@[go_sem] theorem F.st25 : strT Tryz.prog 25 = false := by kernel_rfl
@[go_sem] theorem F.sz26 : szOf Tryz.prog 26 = some 1 := by kernel_rfl
@[go_sem] theorem F.ag26 : aggOf Tryz.prog 26 = some false := by kernel_rfl
@[go_sem] theorem F.ze26 : zeroOf Tryz.prog 26 = some [.slice none 0 0] := by kernel_rfl
@[go_sem] theorem F.el26 : elemOfSlice Tryz.prog 26 = some (176, 5) := by kernel_rfl
@[go_sem] theorem F.ro26 : rowInf Tryz.prog 26 = some (176, 5, 48) := by kernel_rfl
@[go_sem] theorem F.sl26 : isSliceT Tryz.prog 26 = true := by kernel_rfl
@[go_sem] theorem F.st26 : strT Tryz.prog 26 = false := by kernel_rfl
@[go_sem] theorem F.sz28 : szOf Tryz.prog 28 = some 2 := by kernel_rfl
@[go_sem] theorem F.ag28 : aggOf Tryz.prog 28 = some true := by kernel_rfl
@[go_sem] theorem F.ze28 : zeroOf Tryz.prog 28 = some [.slice none 0 0, .slice none 0 0] := by kernel_rfl
@[go_sem] theorem F.sd28 : sized Tryz.prog 28 = true := by kernel_rfl
@[go_sem] theorem F.of28_0 : offOf Tryz.prog 28 0 = some 0 := by kernel_rfl
@[go_sem] theorem F.pl28_0 : placeOf Tryz.prog 28 0 = some (0, 1) := by kernel_rfl
@[go_sem] theorem F.of28_1 : offOf Tryz.prog 28 1 = some 1 := by kernel_rfl
@[go_sem] theorem F.pl28_1 : placeOf Tryz.prog 28 1 = some (1, 1) := by kernel_rfl
@[go_sem] theorem F.sz29 : szOf Tryz.prog 29 = some 1 := by kernel_rfl
@[go_sem] theorem F.ag29 : aggOf Tryz.prog 29 = some false := by kernel_rfl
@[go_sem] theorem F.ze29 : zeroOf Tryz.prog 29 = some [.slice none 0 0] := by kernel_rfl
@[go_sem] theorem F.el29 : elemOfSlice Tryz.prog 29 = some (89, 3) := by kernel_rfl
@[go_sem] theorem F.ro29 : rowInf Tryz.prog 29 = some (89, 3, 40) := by kernel_rfl
@[go_sem] theorem F.sl29 : isSliceT Tryz.prog 29 = true := by kernel_rfl
@[go_sem] theorem F.st29 : strT Tryz.prog 29 = false := by kernel_rfl
@[go_sem] theorem F.sz31 : szOf Tryz.prog 31 = some 6 := by kernel_rfl
@[go_sem] theorem F.ag31 : aggOf Tryz.prog 31 = some true := by kernel_rfl
@[go_sem] theorem F.ze31 : zeroOf Tryz.prog 31 = some [.int .i64 0, .slice none 0 0, .slice none 0 0, .slice none 0 0, .int .i64 0, .int .i64 0] := by kernel_rfl
@[go_sem] theorem F.sd31 : sized Tryz.prog 31 = true := by kernel_rfl
@[go_sem] theorem F.of31_0 : offOf Tryz.prog 31 0 = some 0 := by kernel_rfl
@[go_sem] theorem F.pl31_0 : placeOf Tryz.prog 31 0 = some (0, 1) := by kernel_rfl
@[go_sem] theorem F.of31_1 : offOf Tryz.prog 31 1 = some 1 := by kernel_rfl
@[go_sem] theorem F.pl31_1 : placeOf Tryz.prog 31 1 = some (1, 2) := by kernel_rfl
@[go_sem] theorem F.of31_2 : offOf Tryz.prog 31 2 = some 3 := by kernel_rfl
@[go_sem] theorem F.pl31_2 : placeOf Tryz.prog 31 2 = some (3, 1) := by kernel_rfl
@[go_sem] theorem F.of31_3 : offOf Tryz.prog 31 3 = some 4 := by kernel_rfl
@[go_sem] theorem F.pl31_3 : placeOf Tryz.prog 31 3 = some (4, 1) := by kernel_rfl
@[go_sem] theorem F.of31_4 : offOf Tryz.prog 31 4 = some 5 := by kernel_rfl
@[go_sem] theorem F.pl31_4 : placeOf Tryz.prog 31 4 = some (5, 1) := by kernel_rfl
@[go_sem] theorem F.sz32 : szOf Tryz.prog 32 = some 1 := by kernel_rfl
@[go_sem] theorem F.ag32 : aggOf Tryz.prog 32 = some false := by kernel_rfl
@[go_sem] theorem F.ze32 : zeroOf Tryz.prog 32 = some [.slice none 0 0] := by kernel_rfl
@[go_sem] theorem F.el32 : elemOfSlice Tryz.prog 32 = some (172, 18) := by kernel_rfl
@[go_sem] theorem F.ro32 : rowInf Tryz.prog 32 = some (172, 18, 216) := by kernel_rfl
@[go_sem] theorem F.sl32 : isSliceT Tryz.prog 32 = true := by kernel_rfl
@[go_sem] theorem F.st32 : strT Tryz.prog 32 = false := by kernel_rfl
@[go_sem] theorem F.sz34 : szOf Tryz.prog 34 = some 5 := by kernel_rfl
@[go_sem] theorem F.ag34 : aggOf Tryz.prog 34 = some true := by kernel_rfl
@[go_sem] theorem F.ze34 : zeroOf Tryz.prog 34 = some [.int .i64 0, .int .i64 0, .int .i64 0, .int .i64 0, .slice none 0 0] := by kernel_rfl
@[go_sem] theorem F.sd34 : sized Tryz.prog 34 = true := by kernel_rfl
@[go_sem] theorem F.of34_0 : offOf Tryz.prog 34 0 = some 0 := by kernel_rfl
@[go_sem] theorem F.pl34_0 : placeOf Tryz.prog 34 0 = some (0, 1) := by kernel_rfl
@[go_sem] theorem F.of34_1 : offOf Tryz.prog 34 1 = some 1 := by kernel_rfl
@[go_sem] theorem F.pl34_1 : placeOf Tryz.prog 34 1 = some (1, 1) := by kernel_rfl
@[go_sem] theorem F.of34_2 : offOf Tryz.prog 34 2 = some 2 := by kernel_rfl
@[go_sem] theorem F.pl34_2 : placeOf Tryz.prog 34 2 = some (2, 1) := by kernel_rfl
@[go_sem] theorem F.of34_3 : offOf Tryz.prog 34 3 = some 3 := by kernel_rfl
@[go_sem] theorem F.pl34_3 : placeOf Tryz.prog 34 3 = some (3, 1) := by kernel_rfl
@[go_sem] theorem F.of34_4 : offOf Tryz.prog 34 4 = some 4 := by kernel_rfl
@[go_sem] theorem F.pl34_4 : placeOf Tryz.prog 34 4 = some (4, 1) := by kernel_rfl
@[go_sem] theorem F.sz35 : szOf Tryz.prog 35 = some 1 := by kernel_rfl
@[go_sem] theorem F.ag35 : aggOf Tryz.prog 35 = some false := by kernel_rfl
@[go_sem] theorem F.ze35 : zeroOf Tryz.prog 35 = some [.slice none 0 0] := by kernel_rfl
@[go_sem] theorem F.el35 : elemOfSlice Tryz.prog 35 = some (4, 1) := by kernel_rfl
@[go_sem] theorem F.ro35 : rowInf Tryz.prog 35 = some (4, 1, 1) := by kernel_rfl
@[go_sem] theorem F.sl35 : isSliceT Tryz.prog 35 = true := by kernel_rfl
@[go_sem] theorem F.st35 : strT Tryz.prog 35 = false := by kernel_rfl
@[go_sem] theorem F.sz37 : szOf Tryz.prog 37 = some 5 := by kernel_rfl
@[go_sem] theorem F.ag37 : aggOf Tryz.prog 37 = some true := by kernel_rfl
@[go_sem] theorem F.ze37 : zeroOf Tryz.prog 37 = some [.bool false, .bool false, .bool false, .int .i64 0, .int .i64 0] := by kernel_rfl
@[go_sem] theorem F.sd37 : sized Tryz.prog 37 = true := by kernel_rfl
@[go_sem] theorem F.of37_0 : offOf Tryz.prog 37 0 = some 0 := by kernel_rfl
@[go_sem] theorem F.pl37_0 : placeOf Tryz.prog 37 0 = some (0, 1) := by kernel_rfl
@[go_sem] theorem F.of37_1 : offOf Tryz.prog 37 1 = some 1 := by kernel_rfl
@[go_sem] theorem F.pl37_1 : placeOf Tryz.prog 37 1 = some (1, 1) := by kernel_rfl
@[go_sem] theorem F.of37_2 : offOf Tryz.prog 37 2 = some 2 := by kernel_rfl
@[go_sem] theorem F.pl37_2 : placeOf Tryz.prog 37 2 = some (2, 1) := by kernel_rfl
@[go_sem] theorem F.of37_3 : offOf Tryz.prog 37 3 = some 3 := by kernel_rfl
@[go_sem] theorem F.pl37_3 : placeOf Tryz.prog 37 3 = some (3, 1) := by kernel_rfl
@[go_sem] theorem F.of37_4 : offOf Tryz.prog 37 4 = some 4 := by kernel_rfl
@[go_sem] theorem F.pl37_4 : placeOf Tryz.prog 37 4 = some (4, 1) := by kernel_rfl
@[go_sem] theorem F.eq37 : structEq Tryz.prog 37 = some [0, 0, 0, 1, 1] := by kernel_rfl
@[go_sem] theorem F.sz39 : szOf Tryz.prog 39 = some 9 := by kernel_rfl
@[go_sem] theorem F.ag39 : aggOf Tryz.prog 39 = some true := by kernel_rfl
@[go_sem] theorem F.ze39 : zeroOf Tryz.prog 39 = some [.int .i64 0, .bool false, .bool false, .slice none 0 0, .bool false, .bool false, .bool false, .int .i64 0, .int .i64 0] := by kernel_rfl
@[go_sem] theorem F.sd39 : sized Tryz.prog 39 = true := by kernel_rfl
@[go_sem] theorem F.of39_0 : offOf Tryz.prog 39 0 = some 0 := by kernel_rfl
@[go_sem] theorem F.pl39_0 : placeOf Tryz.prog 39 0 = some (0, 1) := by kernel_rfl
@[go_sem] theorem F.of39_1 : offOf Tryz.prog 39 1 = some 1 := by kernel_rfl
@[go_sem] theorem F.pl39_1 : placeOf Tryz.prog 39 1 = some (1, 1) := by kernel_rfl
@[go_sem] theorem F.of39_2 : offOf Tryz.prog 39 2 = some 2 := by kernel_rfl
@[go_sem] theorem F.pl39_2 : placeOf Tryz.prog 39 2 = some (2, 1) := by kernel_rfl
@[go_sem] theorem F.of39_3 : offOf Tryz.prog 39 3 = some 3 := by kernel_rfl
@[go_sem] theorem F.pl39_3 : placeOf Tryz.prog 39 3 = some (3, 1) := by kernel_rfl
@[go_sem] theorem F.of39_4 : offOf Tryz.prog 39 4 = some 4 := by kernel_rfl
@[go_sem] theorem F.pl39_4 : placeOf Tryz.prog 39 4 = some (4, 5) := by kernel_rfl
@[go_sem] theorem F.sz49 : szOf Tryz.prog 49 = some 12 := by kernel_rfl
@[go_sem] theorem F.ag49 : aggOf Tryz.prog 49 = some true := by kernel_rfl
@[go_sem] theorem F.ze49 : zeroOf Tryz.prog 49 = some [.int .i64 0, .int .i64 0, .slice none 0 0, .slice none 0 0, .slice none 0 0, .slice none 0 0, .slice none 0 0, .slice none 0 0, .slice none 0 0, .slice none 0 0, .slice none 0 0, .slice none 0 0] := by kernel_rfl
@[go_sem] theorem F.sd49 : sized Tryz.prog 49 = true := by kernel_rfl
@[go_sem] theorem F.of49_0 : offOf Tryz.prog 49 0 = some 0 := by kernel_rfl
@[go_sem] theorem F.pl49_0 : placeOf Tryz.prog 49 0 = some (0, 1) := by kernel_rfl
@[go_sem] theorem F.of49_1 : offOf Tryz.prog 49 1 = some 1 := by kernel_rfl
@[go_sem] theorem F.pl49_1 : placeOf Tryz.prog 49 1 = some (1, 1) := by kernel_rfl
@[go_sem] theorem F.of49_2 : offOf Tryz.prog 49 2 = some 2 := by kernel_rfl
@[go_sem] theorem F.pl49_2 : placeOf Tryz.prog 49 2 = some (2, 1) := by kernel_rfl
@[go_sem] theorem F.of49_3 : offOf Tryz.prog 49 3 = some 3 := by kernel_rfl
@[go_sem] theorem F.pl49_3 : placeOf Tryz.prog 49 3 = some (3, 2) := by kernel_rfl
@[go_sem] theorem F.of49_4 : offOf Tryz.prog 49 4 = some 5 := by kernel_rfl
@[go_sem] theorem F.pl49_4 : placeOf Tryz.prog 49 4 = some (5, 1) := by kernel_rfl
@[go_sem] theorem F.of49_5 : offOf Tryz.prog 49 5 = some 6 := by kernel_rfl
@[go_sem] theorem F.pl49_5 : placeOf Tryz.prog 49 5 = some (6, 1) := by kernel_rfl
@[go_sem] theorem F.of49_6 : offOf Tryz.prog 49 6 = some 7 := by kernel_rfl
@[go_sem] theorem F.pl49_6 : placeOf Tryz.prog 49 6 = some (7, 4) := by kernel_rfl
@[go_sem] theorem F.of49_7 : offOf Tryz.prog 49 7 = some 11 := by kernel_rfl
@[go_sem] theorem F.pl49_7 : placeOf Tryz.prog 49 7 = some (11, 1) := by kernel_rfl
@[go_sem] theorem F.sz51 : szOf Tryz.prog 51 = some 23 := by kernel_rfl
@[go_sem] theorem F.ag51 : aggOf Tryz.prog 51 = some true := by kernel_rfl
@[go_sem] theorem F.ze51 : zeroOf Tryz.prog 51 = some [.int .i64 0, .bool false, .bool false, .slice none 0 0, .bool false, .bool false, .bool false, .int .i64 0, .int .i64 0, .int .i64 0, .int .i64 0, .slice none 0 0, .slice none 0 0, .slice none 0 0, .slice none 0 0, .slice none 0 0, .slice none 0 0, .slice none 0 0, .slice none 0 0, .slice none 0 0, .slice none 0 0, .int .i64 0, .int .i64 0] := by kernel_rfl
@[go_sem] theorem F.sd51 : sized Tryz.prog 51 = true := by kernel_rfl
@[go_sem] theorem F.of51_0 : offOf Tryz.prog 51 0 = some 0 := by kernel_rfl
@[go_sem] theorem F.pl51_0 : placeOf Tryz.prog 51 0 = some (0, 9) := by kernel_rfl
@[go_sem] theorem F.of51_1 : offOf Tryz.prog 51 1 = some 9 := by kernel_rfl
@[go_sem] theorem F.pl51_1 : placeOf Tryz.prog 51 1 = some (9, 12) := by kernel_rfl
@[go_sem] theorem F.of51_2 : offOf Tryz.prog 51 2 = some 21 := by kernel_rfl
@[go_sem] theorem F.pl51_2 : placeOf Tryz.prog 51 2 = some (21, 1) := by kernel_rfl
@[go_sem] theorem F.of51_3 : offOf Tryz.prog 51 3 = some 22 := by kernel_rfl
@[go_sem] theorem F.pl51_3 : placeOf Tryz.prog 51 3 = some (22, 1) := by kernel_rfl
@[go_sem] theorem F.sz53 : szOf Tryz.prog 53 = some 37 := by kernel_rfl
@[go_sem] theorem F.ag53 : aggOf Tryz.prog 53 = some true := by kernel_rfl
@[go_sem] theorem F.ze53 : zeroOf Tryz.prog 53 = some [.int .i64 0, .int .i64 0, .bool false, .int .i64 0, .slice none 0 0, .slice none 0 0, .slice none 0 0, .int .i64 0, .int .i64 0, .int .i64 0, .int .i64 0, .int .i64 0, .int .i64 0, .slice none 0 0, .int .i64 0, .bool false, .bool false, .slice none 0 0, .bool false, .bool false, .bool false, .int .i64 0, .int .i64 0, .int .i64 0, .int .i64 0, .slice none 0 0, .slice none 0 0, .slice none 0 0, .slice none 0 0, .slice none 0 0, .slice none 0 0, .slice none 0 0, .slice none 0 0, .slice none 0 0, .slice none 0 0, .int .i64 0, .int .i64 0] := by kernel_rfl
@[go_sem] theorem F.sd53 : sized Tryz.prog 53 = true := by kernel_rfl
@[go_sem] theorem F.of53_0 : offOf Tryz.prog 53 0 = some 0 := by kernel_rfl
@[go_sem] theorem F.pl53_0 : placeOf Tryz.prog 53 0 = some (0, 1) := by kernel_rfl
@[go_sem] theorem F.of53_1 : offOf Tryz.prog 53 1 = some 1 := by kernel_rfl
@[go_sem] theorem F.pl53_1 : placeOf Tryz.prog 53 1 = some (1, 1) := by kernel_rfl
@[go_sem] theorem F.of53_2 : offOf Tryz.prog 53 2 = some 2 := by kernel_rfl
@[go_sem] theorem F.pl53_2 : placeOf Tryz.prog 53 2 = some (2, 1) := by kernel_rfl
@[go_sem] theorem F.of53_3 : offOf Tryz.prog 53 3 = some 3 := by kernel_rfl
@[go_sem] theorem F.pl53_3 : placeOf Tryz.prog 53 3 = some (3, 6) := by kernel_rfl
@[go_sem] theorem F.of53_4 : offOf Tryz.prog 53 4 = some 9 := by kernel_rfl
@[go_sem] theorem F.pl53_4 : placeOf Tryz.prog 53 4 = some (9, 5) := by kernel_rfl
@[go_sem] theorem F.of53_5 : offOf Tryz.prog 53 5 = some 14 := by kernel_rfl
@[go_sem] theorem F.pl53_5 : placeOf Tryz.prog 53 5 = some (14, 23) := by kernel_rfl
@[go_sem] theorem F.sz54 : szOf Tryz.prog 54 = some 1 := by kernel_rfl
@[go_sem] theorem F.ag54 : aggOf Tryz.prog 54 = some false := by kernel_rfl
@[go_sem] theorem F.ze54 : zeroOf Tryz.prog 54 = some [.int .i64 0] := by kernel_rfl
@[go_sem] theorem F.in54 : intT Tryz.prog 54 = some .i64 := by kernel_rfl
@[go_sem] theorem F.sl54 : isSliceT Tryz.prog 54 = false := by kernel_rfl
@[go_sem] theorem F.i654 : isI64 Tryz.prog 54 = true := by kernel_rfl
@[go_sem] theorem F.sz57 : szOf Tryz.prog 57 = some 1 := by kernel_rfl
@[go_sem] theorem F.ag57 : aggOf Tryz.prog 57 = some false := by kernel_rfl
@[go_sem] theorem F.ze57 : zeroOf Tryz.prog 57 = some [.slice none 0 0] := by kernel_rfl
@[go_sem] theorem F.el57 : elemOfSlice Tryz.prog 57 = some (111, 18) := by kernel_rfl
@[go_sem] theorem F.ro57 : rowInf Tryz.prog 57 = some (111, 18, 176) := by kernel_rfl
@[go_sem] theorem F.sl57 : isSliceT Tryz.prog 57 = true := by kernel_rfl
@[go_sem] theorem F.st57 : strT Tryz.prog 57 = false := by kernel_rfl
@[go_sem] theorem F.sz63 : szOf Tryz.prog 63 = some 3 := by kernel_rfl
@[go_sem] theorem F.ag63 : aggOf Tryz.prog 63 = some true := by kernel_rfl
@[go_sem] theorem F.ze63 : zeroOf Tryz.prog 63 = some [.int .i64 0, .int .i64 0, .int .i64 0] := by kernel_rfl
@[go_sem] theorem F.sd63 : sized Tryz.prog 63 = true := by kernel_rfl
@[go_sem] theorem F.of63_0 : offOf Tryz.prog 63 0 = some 0 := by kernel_rfl
@[go_sem] theorem F.pl63_0 : placeOf Tryz.prog 63 0 = some (0, 1) := by kernel_rfl
@[go_sem] theorem F.of63_1 : offOf Tryz.prog 63 1 = some 1 := by kernel_rfl
@[go_sem] theorem F.pl63_1 : placeOf Tryz.prog 63 1 = some (1, 1) := by kernel_rfl
@[go_sem] theorem F.of63_2 : offOf Tryz.prog 63 2 = some 2 := by kernel_rfl
@[go_sem] theorem F.pl63_2 : placeOf Tryz.prog 63 2 = some (2, 1) := by kernel_rfl
@[go_sem] theorem F.eq63 : structEq Tryz.prog 63 = some [1, 1, 1] := by kernel_rfl
@[go_sem] theorem F.sz65 : szOf Tryz.prog 65 = some 1 := by kernel_rfl
@[go_sem] theorem F.ag65 : aggOf Tryz.prog 65 = some false := by kernel_rfl
@[go_sem] theorem F.ze65 : zeroOf Tryz.prog 65 = some [.slice none 0 0] := by kernel_rfl
@[go_sem] theorem F.el65 : elemOfSlice Tryz.prog 65 = some (82, 12) := by kernel_rfl
@[go_sem] theorem F.ro65 : rowInf Tryz.prog 65 = some (82, 12, 120) := by kernel_rfl
@[go_sem] theorem F.sl65 : isSliceT Tryz.prog 65 = true := by kernel_rfl
@[go_sem] theorem F.st65 : strT Tryz.prog 65 = false := by kernel_rfl
@[go_sem] theorem F.sz69 : szOf Tryz.prog 69 = some 2 := by kernel_rfl
@[go_sem] theorem F.ag69 : aggOf Tryz.prog 69 = some true := by kernel_rfl
@[go_sem] theorem F.ze69 : zeroOf Tryz.prog 69 = some [.int .i64 0, .int .i64 0] := by kernel_rfl
@[go_sem] theorem F.sd69 : sized Tryz.prog 69 = true := by kernel_rfl
@[go_sem] theorem F.of69_0 : offOf Tryz.prog 69 0 = some 0 := by kernel_rfl
@[go_sem] theorem F.pl69_0 : placeOf Tryz.prog 69 0 = some (0, 1) := by kernel_rfl
@[go_sem] theorem F.of69_1 : offOf Tryz.prog 69 1 = some 1 := by kernel_rfl
@[go_sem] theorem F.pl69_1 : placeOf Tryz.prog 69 1 = some (1, 1) := by kernel_rfl
@[go_sem] theorem F.eq69 : structEq Tryz.prog 69 = some [1, 1] := by kernel_rfl
@[go_sem] theorem F.sz71 : szOf Tryz.prog 71 = some 3 := by kernel_rfl
@[go_sem] theorem F.ag71 : aggOf Tryz.prog 71 = some true := by kernel_rfl
@[go_sem] theorem F.ze71 : zeroOf Tryz.prog 71 = some [.string (str []), .int .i64 0, .int .i64 0] := by kernel_rfl
@[go_sem] theorem F.sd71 : sized Tryz.prog 71 = true := by kernel_rfl
@[go_sem] theorem F.of71_0 : offOf Tryz.prog 71 0 = some 0 := by kernel_rfl
@[go_sem] theorem F.pl71_0 : placeOf Tryz.prog 71 0 = some (0, 1) := by kernel_rfl
@[go_sem] theorem F.of71_1 : offOf Tryz.prog 71 1 = some 1 := by kernel_rfl
@[go_sem] theorem F.pl71_1 : placeOf Tryz.prog 71 1 = some (1, 2) := by kernel_rfl
@[go_sem] theorem F.eq71 : structEq Tryz.prog 71 = some [2, 1, 1] := by kernel_rfl
@[go_sem] theorem F.sz74 : szOf Tryz.prog 74 = some 5 := by kernel_rfl
@[go_sem] theorem F.ag74 : aggOf Tryz.prog 74 = some true := by kernel_rfl
@[go_sem] theorem F.ze74 : zeroOf Tryz.prog 74 = some [.int .i64 0, .string (str []), .int .i64 0, .int .i64 0, .slice none 0 0] := by kernel_rfl
@[go_sem] theorem F.sd74 : sized Tryz.prog 74 = true := by kernel_rfl
@[go_sem] theorem F.of74_0 : offOf Tryz.prog 74 0 = some 0 := by kernel_rfl
@[go_sem] theorem F.pl74_0 : placeOf Tryz.prog 74 0 = some (0, 1) := by kernel_rfl
@[go_sem] theorem F.of74_1 : offOf Tryz.prog 74 1 = some 1 := by kernel_rfl
@[go_sem] theorem F.pl74_1 : placeOf Tryz.prog 74 1 = some (1, 3) := by kernel_rfl
@[go_sem] theorem F.of74_2 : offOf Tryz.prog 74 2 = some 4 := by kernel_rfl
@[go_sem] theorem F.pl74_2 : placeOf Tryz.prog 74 2 = some (4, 1) := by kernel_rfl
@[go_sem] theorem F.sz76 : szOf Tryz.prog 76 = some 7 := by kernel_rfl
@[go_sem] theorem F.ag76 : aggOf Tryz.prog 76 = some true := by kernel_rfl
@[go_sem] theorem F.ze76 : zeroOf Tryz.prog 76 = some [.int .i64 0, .string (str []), .int .i64 0, .int .i64 0, .slice none 0 0, .int .i64 0, .int .i64 0] := by kernel_rfl
@[go_sem] theorem F.sd76 : sized Tryz.prog 76 = true := by kernel_rfl
@[go_sem] theorem F.of76_0 : offOf Tryz.prog 76 0 = some 0 := by kernel_rfl
@[go_sem] theorem F.pl76_0 : placeOf Tryz.prog 76 0 = some (0, 5) := by kernel_rfl
@[go_sem] theorem F.of76_1 : offOf Tryz.prog 76 1 = some 5 := by kernel_rfl
@[go_sem] theorem F.pl76_1 : placeOf Tryz.prog 76 1 = some (5, 1) := by kernel_rfl
@[go_sem] theorem F.of76_2 : offOf Tryz.prog 76 2 = some 6 := by kernel_rfl
@[go_sem] theorem F.pl76_2 : placeOf Tryz.prog 76 2 = some (6, 1) := by kernel_rfl
@[go_sem] theorem F.sz78 : szOf Tryz.prog 78 = some 13 := by kernel_rfl
@[go_sem] theorem F.ag78 : aggOf Tryz.prog 78 = some true := by kernel_rfl
@[go_sem] theorem F.ze78 : zeroOf Tryz.prog 78 = some [.int .i64 0, .int .i64 0, .int .i64 0, .int .i64 0, .int .i64 0, .string (str []), .int .i64 0, .int .i64 0, .slice none 0 0, .int .i64 0, .int .i64 0, .string (str []), .int .i64 0] := by kernel_rfl
@[go_sem] theorem F.sd78 : sized Tryz.prog 78 = true := by kernel_rfl
@[go_sem] theorem F.of78_0 : offOf Tryz.prog 78 0 = some 0 := by kernel_rfl
@[go_sem] theorem F.pl78_0 : placeOf Tryz.prog 78 0 = some (0, 1) := by kernel_rfl
@[go_sem] theorem F.of78_1 : offOf Tryz.prog 78 1 = some 1 := by kernel_rfl
@[go_sem] theorem F.pl78_1 : placeOf Tryz.prog 78 1 = some (1, 3) := by kernel_rfl
@[go_sem] theorem F.of78_2 : offOf Tryz.prog 78 2 = some 4 := by kernel_rfl
@[go_sem] theorem F.pl78_2 : placeOf Tryz.prog 78 2 = some (4, 7) := by kernel_rfl
@[go_sem] theorem F.of78_3 : offOf Tryz.prog 78 3 = some 11 := by kernel_rfl
@[go_sem] theorem F.pl78_3 : placeOf Tryz.prog 78 3 = some (11, 1) := by kernel_rfl
@[go_sem] theorem F.of78_4 : offOf Tryz.prog 78 4 = some 12 := by kernel_rfl
@[go_sem] theorem F.pl78_4 : placeOf Tryz.prog 78 4 = some (12, 1) := by kernel_rfl
@[go_sem] theorem F.sz79 : szOf Tryz.prog 79 = some 1 := by kernel_rfl
@[go_sem] theorem F.ag79 : aggOf Tryz.prog 79 = some false := by kernel_rfl
@[go_sem] theorem F.ze79 : zeroOf Tryz.prog 79 = some [.slice none 0 0] := by kernel_rfl
@[go_sem] theorem F.el79 : elemOfSlice Tryz.prog 79 = some (84, 1) := by kernel_rfl
@[go_sem] theorem F.ro79 : rowInf Tryz.prog 79 = some (84, 1, 24) := by kernel_rfl
@[go_sem] theorem F.sl79 : isSliceT Tryz.prog 79 = true := by kernel_rfl
@[go_sem] theorem F.st79 : strT Tryz.prog 79 = false := by kernel_rfl
@[go_sem] theorem F.sz82 : szOf Tryz.prog 82 = some 12 := by kernel_rfl
@[go_sem] theorem F.ag82 : aggOf Tryz.prog 82 = some true := by kernel_rfl
@[go_sem] theorem F.ze82 : zeroOf Tryz.prog 82 = some [.int .i64 0, .int .i64 0, .int .i64 0, .int .i64 0, .int .i64 0, .int .i64 0, .int .i64 0, .int .i64 0, .string (str []), .int .i64 0, .int .i64 0, .slice none 0 0] := by kernel_rfl
@[go_sem] theorem F.sd82 : sized Tryz.prog 82 = true := by kernel_rfl
@[go_sem] theorem F.of82_0 : offOf Tryz.prog 82 0 = some 0 := by kernel_rfl
@[go_sem] theorem F.pl82_0 : placeOf Tryz.prog 82 0 = some (0, 1) := by kernel_rfl
@[go_sem] theorem F.of82_1 : offOf Tryz.prog 82 1 = some 1 := by kernel_rfl
@[go_sem] theorem F.pl82_1 : placeOf Tryz.prog 82 1 = some (1, 1) := by kernel_rfl
@[go_sem] theorem F.of82_2 : offOf Tryz.prog 82 2 = some 2 := by kernel_rfl
@[go_sem] theorem F.pl82_2 : placeOf Tryz.prog 82 2 = some (2, 1) := by kernel_rfl
@[go_sem] theorem F.of82_3 : offOf Tryz.prog 82 3 = some 3 := by kernel_rfl
@[go_sem] theorem F.pl82_3 : placeOf Tryz.prog 82 3 = some (3, 1) := by kernel_rfl
@[go_sem] theorem F.of82_4 : offOf Tryz.prog 82 4 = some 4 := by kernel_rfl
@[go_sem] theorem F.pl82_4 : placeOf Tryz.prog 82 4 = some (4, 1) := by kernel_rfl
@[go_sem] theorem F.of82_5 : offOf Tryz.prog 82 5 = some 5 := by kernel_rfl
@[go_sem] theorem F.pl82_5 : placeOf Tryz.prog 82 5 = some (5, 3) := by kernel_rfl
@[go_sem] theorem F.of82_6 : offOf Tryz.prog 82 6 = some 8 := by kernel_rfl
@[go_sem] theorem F.pl82_6 : placeOf Tryz.prog 82 6 = some (8, 3) := by kernel_rfl
@[go_sem] theorem F.of82_7 : offOf Tryz.prog 82 7 = some 11 := by kernel_rfl
@[go_sem] theorem F.pl82_7 : placeOf Tryz.prog 82 7 = some (11, 1) := by kernel_rfl
@[go_sem] theorem F.sz84 : szOf Tryz.prog 84 = some 1 := by kernel_rfl
@[go_sem] theorem F.ag84 : aggOf Tryz.prog 84 = some false := by kernel_rfl
@[go_sem] theorem F.ze84 : zeroOf Tryz.prog 84 = some [.slice none 0 0] := by kernel_rfl
@[go_sem] theorem F.el84 : elemOfSlice Tryz.prog 84 = some (5, 1) := by kernel_rfl
@[go_sem] theorem F.ro84 : rowInf Tryz.prog 84 = some (5, 1, 1) := by kernel_rfl
@[go_sem] theorem F.sl84 : isSliceT Tryz.prog 84 = true := by kernel_rfl
@[go_sem] theorem F.st84 : strT Tryz.prog 84 = false := by kernel_rfl
@[go_sem] theorem F.sz87 : szOf Tryz.prog 87 = some 4 := by kernel_rfl
@[go_sem] theorem F.ag87 : aggOf Tryz.prog 87 = some true := by kernel_rfl
@[go_sem] theorem F.ze87 : zeroOf Tryz.prog 87 = some [.string (str []), .int .i64 0, .int .i64 0, .int .i64 0] := by kernel_rfl
@[go_sem] theorem F.sd87 : sized Tryz.prog 87 = true := by kernel_rfl
@[go_sem] theorem F.of87_0 : offOf Tryz.prog 87 0 = some 0 := by kernel_rfl
@[go_sem] theorem F.pl87_0 : placeOf Tryz.prog 87 0 = some (0, 1) := by kernel_rfl
@[go_sem] theorem F.of87_1 : offOf Tryz.prog 87 1 = some 1 := by kernel_rfl
@[go_sem] theorem F.pl87_1 : placeOf Tryz.prog 87 1 = some (1, 1) := by kernel_rfl
@[go_sem] theorem F.of87_2 : offOf Tryz.prog 87 2 = some 2 := by kernel_rfl
@[go_sem] theorem F.pl87_2 : placeOf Tryz.prog 87 2 = some (2, 1) := by kernel_rfl
@[go_sem] theorem F.of87_3 : offOf Tryz.prog 87 3 = some 3 := by kernel_rfl
@[go_sem] theorem F.pl87_3 : placeOf Tryz.prog 87 3 = some (3, 1) := by kernel_rfl
@[go_sem] theorem F.eq87 : structEq Tryz.prog 87 = some [2, 1, 1, 1] := by kernel_rfl
@[go_sem] theorem F.sz89 : szOf Tryz.prog 89 = some 3 := by kernel_rfl
@[go_sem] theorem F.ag89 : aggOf Tryz.prog 89 = some true := by kernel_rfl
@[go_sem] theorem F.ze89 : zeroOf Tryz.prog 89 = some [.int .i64 0, .slice none 0 0, .int .i64 0] := by kernel_rfl
@[go_sem] theorem F.sd89 : sized Tryz.prog 89 = true := by kernel_rfl
@[go_sem] theorem F.of89_0 : offOf Tryz.prog 89 0 = some 0 := by kernel_rfl
@[go_sem] theorem F.pl89_0 : placeOf Tryz.prog 89 0 = some (0, 1) := by kernel_rfl
@[go_sem] theorem F.of89_1 : offOf Tryz.prog 89 1 = some 1 := by kernel_rfl
@[go_sem] theorem F.pl89_1 : placeOf Tryz.prog 89 1 = some (1, 1) := by kernel_rfl
@[go_sem] theorem F.of89_2 : offOf Tryz.prog 89 2 = some 2 := by kernel_rfl
@[go_sem] theorem F.pl89_2 : placeOf Tryz.prog 89 2 = some (2, 1) := by kernel_rfl
@[go_sem] theorem F.sz91 : szOf Tryz.prog 91 = some 3 := by kernel_rfl
@[go_sem] theorem F.ag91 : aggOf Tryz.prog 91 = some true := by kernel_rfl
@[go_sem] theorem F.ze91 : zeroOf Tryz.prog 91 = some [.int .i64 0, .int .i64 0, .int .i64 0] := by kernel_rfl
@[go_sem] theorem F.el91 : elemOfSlice Tryz.prog 91 = none := by kernel_rfl
@[go_sem] theorem F.ar91 : elemOfArray Tryz.prog 91 = some (3, 1) := by kernel_rfl
@[go_sem] theorem F.ei91 : elemInf Tryz.prog 91 = some (3, 1, false) := by kernel_rfl
@[go_sem] theorem F.sd91 : sized Tryz.prog 91 = true := by kernel_rfl
@[go_sem] theorem F.pl91_0 : placeOf Tryz.prog 91 0 = some (0, 1) := by kernel_rfl
@[go_sem] theorem F.pl91_1 : placeOf Tryz.prog 91 1 = some (1, 1) := by kernel_rfl
@[go_sem] theorem F.pl91_2 : placeOf Tryz.prog 91 2 = some (2, 1) := by kernel_rfl
@[go_sem] theorem F.sz101 : szOf Tryz.prog 101 = some 2 := by kernel_rfl
@[go_sem] theorem F.ag101 : aggOf Tryz.prog 101 = some true := by kernel_rfl
@[go_sem] theorem F.ze101 : zeroOf Tryz.prog 101 = some [.slice none 0 0, .int .i64 0] := by kernel_rfl
@[go_sem] theorem F.sd101 : sized Tryz.prog 101 = true := by kernel_rfl
@[go_sem] theorem F.of101_0 : offOf Tryz.prog 101 0 = some 0 := by kernel_rfl
@[go_sem] theorem F.pl101_0 : placeOf Tryz.prog 101 0 = some (0, 1) := by kernel_rfl
@[go_sem] theorem F.of101_1 : offOf Tryz.prog 101 1 = some 1 := by kernel_rfl
@[go_sem] theorem F.pl101_1 : placeOf Tryz.prog 101 1 = some (1, 1) := by kernel_rfl
@[go_sem] theorem F.sz104 : szOf Tryz.prog 104 = some 1 := by kernel_rfl
@[go_sem] theorem F.ag104 : aggOf Tryz.prog 104 = some false := by kernel_rfl
@[go_sem] theorem F.ze104 : zeroOf Tryz.prog 104 = some [.slice none 0 0] := by kernel_rfl
@[go_sem] theorem F.el104 : elemOfSlice Tryz.prog 104 = some (53, 37) := by kernel_rfl
@[go_sem] theorem F.ro104 : rowInf Tryz.prog 104 = some (53, 37, 512) := by kernel_rfl
@[go_sem] theorem F.sl104 : isSliceT Tryz.prog 104 = true := by kernel_rfl
@[go_sem] theorem F.st104 : strT Tryz.prog 104 = false := by kernel_rfl
@[go_sem] theorem F.sz105 : szOf Tryz.prog 105 = some 1 := by kernel_rfl
@[go_sem] theorem F.ag105 : aggOf Tryz.prog 105 = some false := by kernel_rfl
@[go_sem] theorem F.ze105 : zeroOf Tryz.prog 105 = some [.slice none 0 0] := by kernel_rfl
@[go_sem] theorem F.el105 : elemOfSlice Tryz.prog 105 = some (79, 1) := by kernel_rfl
@[go_sem] theorem F.ro105 : rowInf Tryz.prog 105 = some (79, 1, 24) := by kernel_rfl
@[go_sem] theorem F.sl105 : isSliceT Tryz.prog 105 = true := by kernel_rfl
@[go_sem] theorem F.st105 : strT Tryz.prog 105 = false := by kernel_rfl
@[go_sem] theorem F.sz107 : szOf Tryz.prog 107 = some 3 := by kernel_rfl
@[go_sem] theorem F.ag107 : aggOf Tryz.prog 107 = some true := by kernel_rfl
@[go_sem] theorem F.ze107 : zeroOf Tryz.prog 107 = some [.slice none 0 0, .slice none 0 0, .slice none 0 0] := by kernel_rfl
@[go_sem] theorem F.sd107 : sized Tryz.prog 107 = true := by kernel_rfl
@[go_sem] theorem F.of107_0 : offOf Tryz.prog 107 0 = some 0 := by kernel_rfl
@[go_sem] theorem F.pl107_0 : placeOf Tryz.prog 107 0 = some (0, 1) := by kernel_rfl
@[go_sem] theorem F.of107_1 : offOf Tryz.prog 107 1 = some 1 := by kernel_rfl
@[go_sem] theorem F.pl107_1 : placeOf Tryz.prog 107 1 = some (1, 1) := by kernel_rfl
@[go_sem] theorem F.of107_2 : offOf Tryz.prog 107 2 = some 2 := by kernel_rfl
@[go_sem] theorem F.pl107_2 : placeOf Tryz.prog 107 2 = some (2, 1) := by kernel_rfl
@[go_sem] theorem F.sz111 : szOf Tryz.prog 111 = some 18 := by kernel_rfl
@[go_sem] theorem F.ag111 : aggOf Tryz.prog 111 = some true := by kernel_rfl
@[go_sem] theorem F.ze111 : zeroOf Tryz.prog 111 = some [.int .i64 0, .int .i64 0, .int .i64 0, .int .i64 0, .int .i64 0, .int .i64 0, .int .i64 0, .int .i64 0, .int .i64 0, .int .i64 0, .string (str []), .int .i64 0, .int .i64 0, .slice none 0 0, .int .i64 0, .int .i64 0, .string (str []), .int .i64 0] := by kernel_rfl
@[go_sem] theorem F.sd111 : sized Tryz.prog 111 = true := by kernel_rfl
@[go_sem] theorem F.of111_0 : offOf Tryz.prog 111 0 = some 0 := by kernel_rfl
@[go_sem] theorem F.pl111_0 : placeOf Tryz.prog 111 0 = some (0, 1) := by kernel_rfl
@[go_sem] theorem F.of111_1 : offOf Tryz.prog 111 1 = some 1 := by kernel_rfl
@[go_sem] theorem F.pl111_1 : placeOf Tryz.prog 111 1 = some (1, 1) := by kernel_rfl
@[go_sem] theorem F.of111_2 : offOf Tryz.prog 111 2 = some 2 := by kernel_rfl
@[go_sem] theorem F.pl111_2 : placeOf Tryz.prog 111 2 = some (2, 1) := by kernel_rfl
@[go_sem] theorem F.of111_3 : offOf Tryz.prog 111 3 = some 3 := by kernel_rfl
@[go_sem] theorem F.pl111_3 : placeOf Tryz.prog 111 3 = some (3, 1) := by kernel_rfl
@[go_sem] theorem F.of111_4 : offOf Tryz.prog 111 4 = some 4 := by kernel_rfl
@[go_sem] theorem F.pl111_4 : placeOf Tryz.prog 111 4 = some (4, 1) := by kernel_rfl
@[go_sem] theorem F.of111_5 : offOf Tryz.prog 111 5 = some 5 := by kernel_rfl
@[go_sem] theorem F.pl111_5 : placeOf Tryz.prog 111 5 = some (5, 13) := by kernel_rfl
@[go_sem] theorem F.sz154 : szOf Tryz.prog 154 = some 1 := by kernel_rfl
@[go_sem] theorem F.ag154 : aggOf Tryz.prog 154 = some false := by kernel_rfl
@[go_sem] theorem F.ze154 : zeroOf Tryz.prog 154 = some [.slice none 0 0] := by kernel_rfl
@[go_sem] theorem F.el154 : elemOfSlice Tryz.prog 154 = some (9, 1) := by kernel_rfl
@[go_sem] theorem F.ro154 : rowInf Tryz.prog 154 = some (9, 1, 16) := by kernel_rfl
@[go_sem] theorem F.sl154 : isSliceT Tryz.prog 154 = true := by kernel_rfl
@[go_sem] theorem F.st154 : strT Tryz.prog 154 = false := by kernel_rfl
@[go_sem] theorem F.sz170 : szOf Tryz.prog 170 = some 16 := by kernel_rfl
@[go_sem] theorem F.ag170 : aggOf Tryz.prog 170 = some true := by kernel_rfl
@[go_sem] theorem F.ze170 : zeroOf Tryz.prog 170 = some [.int .i64 0, .int .i64 0, .int .i64 0, .int .i64 0, .slice none 0 0, .slice none 0 0, .bool false, .int .i64 0, .string (str []), .int .i64 0, .int .i64 0, .slice none 0 0, .int .i64 0, .int .i64 0, .int .i64 0, .int .i64 0] := by kernel_rfl
@[go_sem] theorem F.sd170 : sized Tryz.prog 170 = true := by kernel_rfl
@[go_sem] theorem F.of170_0 : offOf Tryz.prog 170 0 = some 0 := by kernel_rfl
@[go_sem] theorem F.pl170_0 : placeOf Tryz.prog 170 0 = some (0, 3) := by kernel_rfl
@[go_sem] theorem F.of170_1 : offOf Tryz.prog 170 1 = some 3 := by kernel_rfl
@[go_sem] theorem F.pl170_1 : placeOf Tryz.prog 170 1 = some (3, 1) := by kernel_rfl
@[go_sem] theorem F.of170_2 : offOf Tryz.prog 170 2 = some 4 := by kernel_rfl
@[go_sem] theorem F.pl170_2 : placeOf Tryz.prog 170 2 = some (4, 2) := by kernel_rfl
@[go_sem] theorem F.of170_3 : offOf Tryz.prog 170 3 = some 6 := by kernel_rfl
@[go_sem] theorem F.pl170_3 : placeOf Tryz.prog 170 3 = some (6, 1) := by kernel_rfl
@[go_sem] theorem F.of170_4 : offOf Tryz.prog 170 4 = some 7 := by kernel_rfl
@[go_sem] theorem F.pl170_4 : placeOf Tryz.prog 170 4 = some (7, 7) := by kernel_rfl
@[go_sem] theorem F.of170_5 : offOf Tryz.prog 170 5 = some 14 := by kernel_rfl
@[go_sem] theorem F.pl170_5 : placeOf Tryz.prog 170 5 = some (14, 1) := by kernel_rfl
@[go_sem] theorem F.of170_6 : offOf Tryz.prog 170 6 = some 15 := by kernel_rfl
@[go_sem] theorem F.pl170_6 : placeOf Tryz.prog 170 6 = some (15, 1) := by kernel_rfl
@[go_sem] theorem F.sz172 : szOf Tryz.prog 172 = some 18 := by kernel_rfl
@[go_sem] theorem F.ag172 : aggOf Tryz.prog 172 = some true := by kernel_rfl
@[go_sem] theorem F.ze172 : zeroOf Tryz.prog 172 = some [.int .i64 0, .int .i64 0, .int .i64 0, .int .i64 0, .slice none 0 0, .slice none 0 0, .bool false, .int .i64 0, .string (str []), .int .i64 0, .int .i64 0, .slice none 0 0, .int .i64 0, .int .i64 0, .int .i64 0, .int .i64 0, .slice none 0 0, .int .i64 0] := by kernel_rfl
@[go_sem] theorem F.sd172 : sized Tryz.prog 172 = true := by kernel_rfl
@[go_sem] theorem F.of172_0 : offOf Tryz.prog 172 0 = some 0 := by kernel_rfl
@[go_sem] theorem F.pl172_0 : placeOf Tryz.prog 172 0 = some (0, 16) := by kernel_rfl
@[go_sem] theorem F.of172_1 : offOf Tryz.prog 172 1 = some 16 := by kernel_rfl
@[go_sem] theorem F.pl172_1 : placeOf Tryz.prog 172 1 = some (16, 1) := by kernel_rfl
@[go_sem] theorem F.of172_2 : offOf Tryz.prog 172 2 = some 17 := by kernel_rfl
@[go_sem] theorem F.pl172_2 : placeOf Tryz.prog 172 2 = some (17, 1) := by kernel_rfl
@[go_sem] theorem F.sz176 : szOf Tryz.prog 176 = some 5 := by kernel_rfl
@[go_sem] theorem F.ag176 : aggOf Tryz.prog 176 = some true := by kernel_rfl
@[go_sem] theorem F.ze176 : zeroOf Tryz.prog 176 = some [.int .i64 0, .int .i64 0, .int .i64 0, .string (str []), .int .i64 0] := by kernel_rfl
@[go_sem] theorem F.sd176 : sized Tryz.prog 176 = true := by kernel_rfl
@[go_sem] theorem F.of176_0 : offOf Tryz.prog 176 0 = some 0 := by kernel_rfl
@[go_sem] theorem F.pl176_0 : placeOf Tryz.prog 176 0 = some (0, 3) := by kernel_rfl
@[go_sem] theorem F.of176_1 : offOf Tryz.prog 176 1 = some 3 := by kernel_rfl
@[go_sem] theorem F.pl176_1 : placeOf Tryz.prog 176 1 = some (3, 1) := by kernel_rfl
@[go_sem] theorem F.of176_2 : offOf Tryz.prog 176 2 = some 4 := by kernel_rfl
@[go_sem] theorem F.pl176_2 : placeOf Tryz.prog 176 2 = some (4, 1) := by kernel_rfl
@[go_sem] theorem F.eq176 : structEq Tryz.prog 176 = some [1, 1, 1, 2, 1] := by kernel_rfl
@[go_sem] theorem F.sz198 : szOf Tryz.prog 198 = some 1 := by kernel_rfl
@[go_sem] theorem F.ag198 : aggOf Tryz.prog 198 = some false := by kernel_rfl
@[go_sem] theorem F.ze198 : zeroOf Tryz.prog 198 = some [.slice none 0 0] := by kernel_rfl
@[go_sem] theorem F.el198 : elemOfSlice Tryz.prog 198 = some (287, 5) := by kernel_rfl
@[go_sem] theorem F.ro198 : rowInf Tryz.prog 198 = some (287, 5, 40) := by kernel_rfl
@[go_sem] theorem F.sl198 : isSliceT Tryz.prog 198 = true := by kernel_rfl
@[go_sem] theorem F.st198 : strT Tryz.prog 198 = false := by kernel_rfl
@[go_sem] theorem F.sz199 : szOf Tryz.prog 199 = some 1 := by kernel_rfl
@[go_sem] theorem F.ag199 : aggOf Tryz.prog 199 = some false := by kernel_rfl
@[go_sem] theorem F.ze199 : zeroOf Tryz.prog 199 = some [.slice none 0 0] := by kernel_rfl
@[go_sem] theorem F.el199 : elemOfSlice Tryz.prog 199 = some (290, 7) := by kernel_rfl
@[go_sem] theorem F.ro199 : rowInf Tryz.prog 199 = some (290, 7, 56) := by kernel_rfl
@[go_sem] theorem F.sl199 : isSliceT Tryz.prog 199 = true := by kernel_rfl
@[go_sem] theorem F.st199 : strT Tryz.prog 199 = false := by kernel_rfl
@[go_sem] theorem F.sz201 : szOf Tryz.prog 201 = some 8 := by kernel_rfl
@[go_sem] theorem F.ag201 : aggOf Tryz.prog 201 = some true := by kernel_rfl
@[go_sem] theorem F.ze201 : zeroOf Tryz.prog 201 = some [.string (str []), .int .i64 0, .int .i64 0, .int .i64 0, .slice none 0 0, .slice none 0 0, .slice none 0 0, .int .i64 0] := by kernel_rfl
@[go_sem] theorem F.sd201 : sized Tryz.prog 201 = true := by kernel_rfl
@[go_sem] theorem F.of201_0 : offOf Tryz.prog 201 0 = some 0 := by kernel_rfl
@[go_sem] theorem F.pl201_0 : placeOf Tryz.prog 201 0 = some (0, 4) := by kernel_rfl
@[go_sem] theorem F.of201_1 : offOf Tryz.prog 201 1 = some 4 := by kernel_rfl
@[go_sem] theorem F.pl201_1 : placeOf Tryz.prog 201 1 = some (4, 1) := by kernel_rfl
@[go_sem] theorem F.of201_2 : offOf Tryz.prog 201 2 = some 5 := by kernel_rfl
@[go_sem] theorem F.pl201_2 : placeOf Tryz.prog 201 2 = some (5, 1) := by kernel_rfl
@[go_sem] theorem F.of201_3 : offOf Tryz.prog 201 3 = some 6 := by kernel_rfl
@[go_sem] theorem F.pl201_3 : placeOf Tryz.prog 201 3 = some (6, 1) := by kernel_rfl
@[go_sem] theorem F.of201_4 : offOf Tryz.prog 201 4 = some 7 := by kernel_rfl
@[go_sem] theorem F.pl201_4 : placeOf Tryz.prog 201 4 = some (7, 1) := by kernel_rfl
@[go_sem] theorem F.sz287 : szOf Tryz.prog 287 = some 5 := by kernel_rfl
@[go_sem] theorem F.ag287 : aggOf Tryz.prog 287 = some true := by kernel_rfl
@[go_sem] theorem F.ze287 : zeroOf Tryz.prog 287 = some [.int .i64 0, .int .i64 0, .int .i64 0, .int .i64 0, .int .i64 0] := by kernel_rfl
@[go_sem] theorem F.sd287 : sized Tryz.prog 287 = true := by kernel_rfl
@[go_sem] theorem F.of287_0 : offOf Tryz.prog 287 0 = some 0 := by kernel_rfl
@[go_sem] theorem F.pl287_0 : placeOf Tryz.prog 287 0 = some (0, 3) := by kernel_rfl
@[go_sem] theorem F.of287_1 : offOf Tryz.prog 287 1 = some 3 := by kernel_rfl
@[go_sem] theorem F.pl287_1 : placeOf Tryz.prog 287 1 = some (3, 2) := by kernel_rfl
@[go_sem] theorem F.eq287 : structEq Tryz.prog 287 = some [1, 1, 1, 1, 1] := by kernel_rfl
@[go_sem] theorem F.sz290 : szOf Tryz.prog 290 = some 7 := by kernel_rfl
@[go_sem] theorem F.ag290 : aggOf Tryz.prog 290 = some true := by kernel_rfl
@[go_sem] theorem F.ze290 : zeroOf Tryz.prog 290 = some [.int .i64 0, .int .i64 0, .int .i64 0, .int .i64 0, .int .i64 0, .int .i64 0, .int .i64 0] := by kernel_rfl
@[go_sem] theorem F.sd290 : sized Tryz.prog 290 = true := by kernel_rfl
@[go_sem] theorem F.of290_0 : offOf Tryz.prog 290 0 = some 0 := by kernel_rfl
@[go_sem] theorem F.pl290_0 : placeOf Tryz.prog 290 0 = some (0, 3) := by kernel_rfl
@[go_sem] theorem F.of290_1 : offOf Tryz.prog 290 1 = some 3 := by kernel_rfl
@[go_sem] theorem F.pl290_1 : placeOf Tryz.prog 290 1 = some (3, 2) := by kernel_rfl
@[go_sem] theorem F.of290_2 : offOf Tryz.prog 290 2 = some 5 := by kernel_rfl
@[go_sem] theorem F.pl290_2 : placeOf Tryz.prog 290 2 = some (5, 1) := by kernel_rfl
@[go_sem] theorem F.of290_3 : offOf Tryz.prog 290 3 = some 6 := by kernel_rfl
@[go_sem] theorem F.pl290_3 : placeOf Tryz.prog 290 3 = some (6, 1) := by kernel_rfl
@[go_sem] theorem F.eq290 : structEq Tryz.prog 290 = some [1, 1, 1, 1, 1, 1, 1] := by kernel_rfl
end Go.Rd
open Go Go.Abs Go.Proofs
set_option maxRecDepth 100000
namespace Go.Rd
def togL : List Bool := [true, true, true, true, false, true, true, false, false, false, true, false, true, false, false, true, false, false, false, false, false, false, false, false, false]
def fldL : List Bs := [[], [80,71,65,89], [80,71,97], [80,71,97,68], [80,71,65], [83,73], [82], [82,78,79], [82], [82,76], [82,69,80,71,66], [82,80,68], [69,83], [69], [69], [69]]
def tog : List AV := togL.map fun b => .v (.bool b)
def fld : List AV := fldL.map fun s => .v (.string (str s))
noncomputable abbrev C0 : Ctx := ⟨Tryz.prog, fun i => if i = 2 then some tog else if i = 0 then some fld else none⟩
theorem lt_of_get {α : Type} {l : List α} {i : Nat} {b : α} (h : l[i]? = some b) : i < l.length := by
  rcases Nat.lt_or_ge i l.length with h1 | h1
  · exact h1
  · rw [List.getElem?_eq_none h1] at h; cases h
def r0 : Res := ⟨[], 0, 0, 0⟩
@[reducible] def ressV (l : List Res) : AV := .sl .no 4 (l.map Res.c)
def lessB (a b : Bs) : Bool := Op.bytesLess a b
@[go_sem] theorem exists_same {α : Type} (a : α) : (∃ x, some a = some x) = True := by simp
@[go_sem] theorem take_map' {α β : Type} (f : α → β) (l : List α) (i : Nat) : (l.map f).take i = (l.take i).map f := by simp
@[go_sem] theorem drop_map' {α β : Type} (f : α → β) (l : List α) (i : Nat) : (l.map f).drop i = (l.drop i).map f := by simp
end Go.Rd
open Go Go.Abs Go.Proofs
set_option maxRecDepth 100000
namespace Go.Rd
def between (n a b : Int) : Bool := decide (a ≤ n) && decide (n ≤ b)
def Res.shaped (r : Res) : Bool := if r.kind = 1 then r.units == 1 else if r.kind = 2 then between r.units 1 8 else false
theorem f114_ok (r : Res) : FnOK C0 114 [.agg r.c] [] (B r.shaped) [] := by
 refine FnOK.go Tryz.f114 ?_
 unfold Tryz.f114
 simp (disch := omega) only [go_sem]
 repeat' (with_reducible refine And.intro (fun h => ?_) (fun h => ?_))
 all_goals (refine ret1 _ ?_)
 all_goals (try simp (disch := omega) only [go_sem])
 all_goals (refine .eq ?_)
 all_goals (first | (simp_all [Res.shaped, between] <;> omega) | (refine Bool.eq_iff_iff.2 ?_; simp_all [Res.shaped, between] <;> omega))
def reserved (s : Bs) : Bool := s == [97, 108, 108] || s == [97, 110, 121] || s == [111, 102] || s == [112, 114, 105, 111] || s == [108, 105, 109, 105, 116]
theorem f209_ok (s : Bs) : FnOK C0 209 [.v (.string (str s))] [] (B (reserved s)) [] := by
 refine FnOK.go Tryz.f209 ?_
 unfold Tryz.f209
 simp (disch := omega) only [go_sem]
 repeat' (first
  | (with_reducible refine And.intro (fun h => ?_) (fun h => ?_))
)
 all_goals (refine ret1 _ ?_)
 all_goals (try simp (disch := omega) only [go_sem])
 all_goals (refine .eq ?_)
 all_goals (first | (simp_all [reserved] <;> omega) | (refine Bool.eq_iff_iff.2 ?_; simp_all [reserved] <;> omega))
@[go_sem] theorem str_get (l : Bs) (i : Nat) : (str l)[i]? = l[i]? := by
 show (ByteArray.mk l.toArray)[i]? = l[i]?
 by_cases h : i < l.length
 ·have h1 : i < (ByteArray.mk l.toArray).size := h
  rw [getElem?_pos _ i h1, getElem?_pos _ i h]
  rfl
 ·have h1 : ¬ i < (ByteArray.mk l.toArray).size := h
  rw [getElem?_neg _ i h1, getElem?_neg _ i h]
def letter (c : UInt8) : Bool := decide (97 ≤ (c.toNat : Int)) && decide ((c.toNat : Int) ≤ 122)
def other (c : UInt8) : Bool := decide (48 ≤ (c.toNat : Int)) && decide ((c.toNat : Int) ≤ 57) || (c.toNat : Int) == 95 || (c.toNat : Int) == 45
def okc (i : Nat) (c : UInt8) : Bool := letter c || (!decide (i = 0) && other c)
def allAt {α : Type} (f : Nat → α → Bool) (l : List α) : Bool := l.zipIdx.all fun x => f x.2 x.1
theorem allAt_take {α : Type} {f : Nat → α → Bool} {l : List α} {i : Nat} {b : α} (hb : l[i]? = some b) : allAt f (l.take (i + 1)) = (allAt f (l.take i) && f i b) := by
 have hi : i < l.length := by
  rcases Nat.lt_or_ge i l.length with h | h
  ·exact h
  ·rw [List.getElem?_eq_none h] at hb; cases hb
 simp only [allAt, List.take_add_one, hb, Option.toList_some, List.zipIdx_append, List.all_append, List.length_take]
 simp [Nat.min_eq_left (Nat.le_of_lt hi)]
theorem allAt_false {α : Type} {f : Nat → α → Bool} {l : List α} {i : Nat} {b : α} (hb : l[i]? = some b) (h : f i b = false) : allAt f l = false := by
 unfold allAt
 rw [List.all_eq_false]
 refine ⟨(b, i), ?_, by simp [h]⟩
 rw [List.mk_mem_zipIdx_iff_getElem?]
 exact hb
def nameOK (s : Bs) : Bool := decide (1 ≤ s.length) && decide (s.length ≤ 12) && !reserved s && allAt okc s
theorem f113_ok (s : Bs) : FnOK C0 113 [.v (.string (str s))] [] (B (nameOK s)) [] := by
 refine FnOK.go Tryz.f113 ?_
 unfold Tryz.f113
 by_cases h1 : s.length < 1
 ·have e1 : ((s.length : Int) < 1) = True := by simp; omega
  simp (disch := omega) only [go_sem, e1]
  refine ret1 _ ?_
  simp (disch := omega) only [go_sem]
  exact .eq (by simp [nameOK]; omega)
 by_cases h2 : 12 < s.length
 ·have e1 : ((s.length : Int) < 1) = False := by simp; omega
  have e2 : (12 < (s.length : Int)) = True := by simp; omega
  simp (disch := omega) only [go_sem, e1, e2, decide_false]
  refine ret1 _ ?_
  simp (disch := omega) only [go_sem]
  exact .eq (by simp [nameOK]; omega)
 have e1 : ((s.length : Int) < 1) = False := by simp; omega
 have e2 : (12 < (s.length : Int)) = False := by simp; omega
 simp (disch := omega) only [go_sem, e1, e2, decide_false]
 refine call1 (f209_ok s) ?_
 simp (disch := omega) only [go_sem]
 refine And.intro (fun h => ?_) (fun h => ?_)
 ·refine ret1 _ ?_
  simp (disch := omega) only [go_sem]
  exact .eq (by simp [nameOK, h])
 refine loop_intro (α := Nat) (fun i => ⟨[(21, I i), (20, I s.length), (0, .v (.string (str s)))], []⟩) (fun i => i ≤ (s).length ∧ allAt okc (s.take i) = true) (fun i => (s).length - i) 0 ⟨by omega, rfl⟩ ?_ ?_
 ·refine Imp.weak ?_ ?_
  all_goals (try simp (disch := omega) only [go_sem])
  all_goals (try (repeat' (with_reducible apply And.intro)))
  all_goals (first | exact .nilOwn (by omega) | exact .nilNo (by omega) | exact .sl (by simp []) | exact .int (by simp []) | exact .eq (by simp []))
 rintro i ⟨hi, hP⟩ J hJ
 simp (disch := omega) only [go_sem]
 refine And.intro (fun hlt => ?_) (fun hge => ?_)
 rotate_left
 have hil : i = (s).length := by simp at hge; omega
 rotate_left
 obtain ⟨b, hb⟩ : ∃ b, (s)[i]? = some b := ⟨_, List.getElem?_eq_getElem (by simp at hlt; omega)⟩
 have hbm := List.mem_of_getElem? hb
 simp (disch := omega) only [go_sem, List.getElem?_map, hb]
 ·repeat' (with_reducible refine And.intro (fun h => ?_) (fun h => ?_))
  all_goals (first
   | refine hJ _ (i + 1) ⟨by simp at hlt; omega, by rw [allAt_take hb, hP]; simp_all [okc, letter, other]⟩ (by simp at hlt; omega) imp1
   | (have hz : okc i b = false := by (simp_all [okc, letter, other] <;> omega)
      have e : nameOK s = false := by simp [nameOK, allAt_false hb hz]
      refine ret_mk ⟨[], [], []⟩ _ rfl ⟨rfl, rfl⟩ (by simp) ?_ trivial
      simp (disch := omega) only [go_sem, e]))
 ·subst hil
  rw [List.take_length] at hP
  have e : nameOK s = true := by simp [nameOK, hP, h]; omega
  simp (disch := omega) only [go_sem, e]
  refine ret1 _ ?_
  simp (disch := omega) only [go_sem]
theorem f49_ok (r : Res) : FnOK C0 49 [.agg r.c] [] (B (nameOK r.name && r.shaped && between r.home 0 3)) [] := by
 refine FnOK.go Tryz.f49 ?_
 unfold Tryz.f49
 simp (disch := omega) only [go_sem]
 repeat' (first
  | (with_reducible refine And.intro (fun h => ?_) (fun h => ?_))
  | ((with_reducible show callB _ _ 113 _ _ _); refine call_pure (f113_ok r.name) ?_ rfl ?_; (focus (simp (disch := omega) only [go_sem]; done)); try simp (disch := omega) only [go_sem])
  | ((with_reducible show callB _ _ 114 _ _ _); refine call_pure (f114_ok r) ?_ rfl ?_; (focus (simp (disch := omega) only [go_sem]; done)); try simp (disch := omega) only [go_sem]))
 all_goals (refine ret1 _ ?_)
 all_goals (try simp (disch := omega) only [go_sem])
 all_goals (refine .eq ?_)
 all_goals (first | (simp_all [between] <;> omega) | (refine Bool.eq_iff_iff.2 ?_; simp_all [between] <;> omega))
end Go.Rd
open Go Go.Abs Go.Proofs
set_option maxRecDepth 100000
namespace Go.Rd
theorem wb {a b : Bool} (h : a = b) : WeakV (.v (.bool a)) (B b) := .eq (by rw [h])
theorem wi {a b : Int} (h : a = b) : WeakV (.v (.int .i64 a)) (I b) := .eq (by rw [h])
theorem f118_ok (r : Res) : FnOK C0 118 [.agg r.c] [] (B r.shaped) [] := by
 refine FnOK.go Tryz.f118 ?_
 unfold Tryz.f118
 simp (disch := omega) only [go_sem]
 repeat' (with_reducible refine And.intro (fun h => ?_) (fun h => ?_))
 all_goals (refine ret1 _ ?_)
 all_goals (try simp (disch := omega) only [go_sem])
 all_goals (first | refine wb ?_ | refine wi ?_ | refine .eq ?_)
 all_goals (first | (simp_all [Res.shaped, between] <;> omega) | (refine Bool.eq_iff_iff.2 ?_; simp_all [Res.shaped, between] <;> omega))
theorem f211_ok (c : UInt8) : FnOK C0 211 [.v (.int .u8 c.toNat)] [] (B (letter c)) [] := by
 refine FnOK.go Tryz.f211 ?_
 unfold Tryz.f211
 simp (disch := omega) only [go_sem]
 repeat' (with_reducible refine And.intro (fun h => ?_) (fun h => ?_))
 all_goals (refine ret1 _ ?_)
 all_goals (try simp (disch := omega) only [go_sem])
 all_goals (first | refine wb ?_ | refine wi ?_ | refine .eq ?_)
 all_goals (first | (simp_all [letter] <;> omega) | (refine Bool.eq_iff_iff.2 ?_; simp_all [letter] <;> omega))
theorem f212_ok (s : Bs) : FnOK C0 212 [.v (.string (str s))] [] (B (reserved s)) [] := by
 refine FnOK.go Tryz.f212 ?_
 unfold Tryz.f212
 simp (disch := omega) only [go_sem]
 repeat' (first
  | (with_reducible refine And.intro (fun h => ?_) (fun h => ?_))
)
 all_goals (refine ret1 _ ?_)
 all_goals (try simp (disch := omega) only [go_sem])
 all_goals (first | refine wb ?_ | refine wi ?_ | refine .eq ?_)
 all_goals (first | (simp_all [reserved] <;> omega) | (refine Bool.eq_iff_iff.2 ?_; simp_all [reserved] <;> omega))
def part (c : UInt8) : Bool := letter c || other c
theorem f213_ok (c : UInt8) : FnOK C0 213 [.v (.int .u8 c.toNat)] [] (B (part c)) [] := by
 refine FnOK.go Tryz.f213 ?_
 unfold Tryz.f213
 simp (disch := omega) only [go_sem]
 repeat' (first
  | (with_reducible refine And.intro (fun h => ?_) (fun h => ?_))
  | ((with_reducible show callB _ _ 211 _ _ _); refine call_pure (f211_ok c) ?_ rfl ?_; (focus (simp (disch := omega) only [go_sem]; done)); try simp (disch := omega) only [go_sem]))
 all_goals (refine ret1 _ ?_)
 all_goals (try simp (disch := omega) only [go_sem])
 all_goals (first | refine wb ?_ | refine wi ?_ | refine .eq ?_)
 all_goals (first | (simp_all [part, letter, other] <;> omega) | (refine Bool.eq_iff_iff.2 ?_; simp_all [part, letter, other] <;> omega))
theorem nameOK_ref (s : Bs) : nameOK s = (decide (1 ≤ s.length) && decide (s.length ≤ 12) && (match s with | [] => false | c :: _ => letter c) && !reserved s && s.all part) := by
 cases s with
 | nil => rfl
 | cons c l =>
  have h : ∀ (l : List UInt8) (k : Nat), ((l.zipIdx (k + 1)).all fun x => okc x.2 x.1) = l.all part := by
   intro l
   induction l with
   | nil => intro k; rfl
   | cons x l ih =>
    intro k
    simp only [List.zipIdx_cons, List.all_cons, ih]
    simp [okc, part]
  simp only [nameOK, allAt, List.zipIdx_cons, List.all_cons, h]
  simp only [okc, part]
  cases letter c <;> simp
theorem all_take {α : Type} {f : α → Bool} {l : List α} {i : Nat} {b : α} (hb : l[i]? = some b) : (l.take (i + 1)).all f = ((l.take i).all f && f b) := by
 simp [List.take_add_one, hb, List.all_append]
theorem all_false {α : Type} {f : α → Bool} {l : List α} {b : α} (hb : b ∈ l) (h : f b = false) : l.all f = false := by
 rw [List.all_eq_false]
 exact ⟨b, hb, by simp [h]⟩
theorem nameOK_cons (c : UInt8) (l s : Bs) (hs : s = c :: l) : nameOK s = (decide (s.length ≤ 12) && letter c && !reserved s && s.all part) := by
 rw [nameOK_ref]; subst hs; simp
theorem f117_ok (s : Bs) : FnOK C0 117 [.v (.string (str s))] [] (B (nameOK s)) [] := by
 refine FnOK.go Tryz.f117 ?_
 unfold Tryz.f117
 cases hs : s with
 | nil =>
  simp (disch := omega) only [go_sem, List.length_nil]
  refine ret1 _ ?_
  simp (disch := omega) only [go_sem]
  exact wb (by decide)
 | cons c l =>
  have e3 : s[0]? = some c := by rw [hs]; rfl
  have hk := nameOK_cons c l s hs
  have e1 : ((s.length : Int) < 1) = False := by rw [hs]; simp; omega
  rw [← hs]
  clear hs
  by_cases h2 : 12 < s.length
  ·have e2 : (12 < (s.length : Int)) = True := by simp; omega
   simp (disch := omega) only [go_sem, e1, e2, decide_false]
   refine ret1 _ ?_
   simp (disch := omega) only [go_sem]
   exact .eq (by rw [hk]; simp; omega)
  ·have e2 : (12 < (s.length : Int)) = False := by simp; omega
   have e5 : decide (s.length ≤ 12) = true := by simp; omega
   rw [e5] at hk
   simp (disch := omega) only [go_sem, e1, e2, e3, decide_false]
   refine call1 (f211_ok c) ?_
   cases hc : letter c
   ·rw [hc] at hk
    simp (disch := omega) only [go_sem, Bool.not_false, hk]
    refine ret1 _ ?_
    simp (disch := omega) only [go_sem]
   simp (disch := omega) only [go_sem, Bool.not_true]
   refine call1 (f212_ok s) ?_
   cases hr : reserved s
   rotate_left
   ·rw [hr] at hk
    simp (disch := omega) only [go_sem, hk]
    refine ret1 _ ?_
    simp (disch := omega) only [go_sem]
   simp (disch := omega) only [go_sem]
   refine loop_intro (α := Nat) (fun i => ⟨[(3, I i), (0, .v (.string (str s)))], []⟩) (fun i => i ≤ (s).length ∧ (s.take i).all part = true) (fun i => (s).length - i) 0 ⟨by omega, rfl⟩ ?_ ?_
   ·refine Imp.weak ?_ ?_
    all_goals (try simp (disch := omega) only [go_sem])
    all_goals (try (repeat' (with_reducible apply And.intro)))
    all_goals (first | exact .nilOwn (by omega) | exact .nilNo (by omega) | exact .sl (by simp []) | exact .int (by simp []) | exact .eq (by simp []))
   rintro i ⟨hi, hP⟩ J hJ
   simp (disch := omega) only [go_sem]
   refine And.intro (fun hlt => ?_) (fun hge => ?_)
   rotate_left
   have hil : i = (s).length := by simp at hge; omega
   rotate_left
   obtain ⟨b, hb⟩ : ∃ b, (s)[i]? = some b := ⟨_, List.getElem?_eq_getElem (by simp at hlt; omega)⟩
   have hbm := List.mem_of_getElem? hb
   have hlt2 : i < (s).length := by simp at hlt; omega
   simp (disch := omega) only [go_sem, List.getElem?_map, hb]
   ·refine call1 (f213_ok b) ?_
    cases hp : part b
    ·simp (disch := omega) only [go_sem, Bool.not_false]
     refine ret1 _ ?_
     simp (disch := omega) only [go_sem]
     exact .eq (by rw [hk, all_false hbm hp]; simp)
    ·simp (disch := omega) only [go_sem, Bool.not_true]
     refine hJ _ (i + 1) ⟨by simp at hlt; omega, (by rw [all_take hb, hP, hp]; rfl)⟩ (by simp at hlt; omega) imp1
   ·subst hil
    rw [List.take_length] at hP
    refine ret1 _ ?_
    simp (disch := omega) only [go_sem]
    exact .eq (by rw [hk, hc, hr, hP]; rfl)
theorem f53_ok (r : Res) : FnOK C0 53 [.agg r.c] [] (B (nameOK r.name && r.shaped && between r.home 0 3)) [] := by
 refine FnOK.go Tryz.f53 ?_
 unfold Tryz.f53
 simp (disch := omega) only [go_sem]
 repeat' (first
  | (with_reducible refine And.intro (fun h => ?_) (fun h => ?_))
  | ((with_reducible show callB _ _ 117 _ _ _); refine call_pure (f117_ok r.name) ?_ rfl ?_; (focus (simp (disch := omega) only [go_sem]; done)); try simp (disch := omega) only [go_sem])
  | ((with_reducible show callB _ _ 118 _ _ _); refine call_pure (f118_ok r) ?_ rfl ?_; (focus (simp (disch := omega) only [go_sem]; done)); try simp (disch := omega) only [go_sem]))
 all_goals (refine ret1 _ ?_)
 all_goals (try simp (disch := omega) only [go_sem])
 all_goals (first | refine wb ?_ | refine wi ?_ | refine .eq ?_)
 all_goals (first | (simp_all [between] <;> omega) | (refine Bool.eq_iff_iff.2 ?_; simp_all [between] <;> omega))
end Go.Rd
open Go Go.Abs Go.Proofs
set_option maxRecDepth 100000
namespace Go.Rd
def resOK (r : Res) : Bool := nameOK r.name && r.shaped && between r.home 0 3
def catPos (l : List Res) (i : Nat) (r : Res) : Bool := resOK r && (decide (i = 0) || lessB (l.getD (i - 1) r0).name r.name)
def catOK (l : List Res) : Bool := decide (l.length ≤ 8) && allAt (catPos l) l
theorem f18_ok (l : List Res) : FnOK C0 18 [ressV l] [] (B (catOK l)) [] := by
 refine FnOK.go Tryz.f18 ?_
 unfold Tryz.f18
 by_cases hq : 8 < l.length
 ·have e1 : (8 < (l.length : Int)) = True := eq_true (by omega)
  have e : catOK l = false := by simp [catOK]; omega
  simp (disch := omega) only [go_sem, e1]
  refine ret1 _ ?_
  simp (disch := omega) only [go_sem]
  exact wb (by simp [e])
 have e1 : (8 < (l.length : Int)) = False := eq_false (by omega)
 simp (disch := omega) only [go_sem, e1, decide_false]
 refine loop_intro (α := Nat) (fun i => ⟨[(3, I i), (0, ressV l)], []⟩) (fun i => i ≤ (l).length ∧ allAt (catPos l) (l.take i) = true) (fun i => (l).length - i) 0 ⟨by omega, rfl⟩ ?_ ?_
 ·refine Imp.weak ?_ ?_
  all_goals (try simp (disch := omega) only [go_sem])
  all_goals (try (repeat' (with_reducible apply And.intro)))
  all_goals (first | exact .nilOwn (by omega) | exact .nilNo (by omega) | exact .sl (by simp []) | exact .int (by simp []) | exact .eq (by simp []))
 rintro i ⟨hi, hP⟩ J hJ
 simp (disch := omega) only [go_sem]
 refine And.intro (fun hlt => ?_) (fun hge => ?_)
 rotate_left
 have hil : i = (l).length := by simp at hge; omega
 rotate_left
 obtain ⟨b, hb⟩ : ∃ b, (l)[i]? = some b := ⟨_, List.getElem?_eq_getElem (by simp at hlt; omega)⟩
 have hbm := List.mem_of_getElem? hb
 have hlt2 : i < (l).length := by simp at hlt; omega
 refine draw_mk 21 [([], [0]), ([], [3]), ([0, 1], [13, 14]), ([0, 1, 2], [15]), ([0, 1, 2, 3], [16]), ([0, 1, 2, 3, 4], [17]), ([0, 1, 2, 3, 4, 5], [18]), ([0, 1, 2, 3, 4, 5, 6], [3, 19]), ([0, 1, 2, 3, 4, 5, 6, 7], [20, 19]), ([0, 1, 2, 3, 4, 5, 6, 7, 8], [21, 19]), ([0, 1, 2, 3, 4, 5, 6, 7, 8, 9], [0, 22]), ([0, 1, 2, 3, 4, 5, 6, 7, 8, 9], [3, 22]), ([0, 1, 2, 3, 4, 5, 6, 7, 8, 9, 11], [24, 22]), ([0, 1, 2, 3, 4, 5, 6, 7, 8, 9, 10, 11, 12], [23, 25, 22]), ([0, 1, 2, 3, 4, 5, 6, 7, 8, 9, 10, 11, 12, 13], [26, 22]), ([0, 1, 2, 3, 4, 5, 6, 7, 8, 9, 10, 11, 12, 13, 14], [27, 22]), ([0, 1, 2, 3, 4, 5, 6, 7, 8, 9], [0, 22]), ([0, 1, 2, 3, 4, 5, 6, 7, 8, 9], [3, 22]), ([0, 1, 2, 3, 4, 5, 6, 7, 8, 9, 16, 17], [29, 30, 22]), ([0, 1, 2, 3, 4, 5, 6, 7, 8, 9, 16, 17, 18], [31, 22]), ([0, 1, 2, 3, 4, 5, 6, 7, 8, 9, 16, 17, 18, 19], [32, 22]), ([0, 1, 2, 3, 4, 5, 6, 7, 8, 9, 10, 11, 12, 13, 14, 15, 16, 17, 18, 19, 20], []), ([0, 1, 2, 3, 4, 5, 6, 7, 8, 9, 10, 11, 12, 13, 14, 15, 16, 17, 18, 19, 20, 21], []), ([0, 1, 2, 3, 4, 5, 6, 7, 8, 9, 10, 11, 12, 13, 14, 15, 16, 17, 18, 19, 20, 21, 22], [])] fol (by kernel_rfl) ?_
 simp (disch := omega) only [go_sem, List.getElem?_map, hb]
 ·have bad : catPos l i b = false → catOK l = false := fun h => by simp only [catOK, allAt_false hb h, Bool.and_false]
  have good : catPos l i b = true → allAt (catPos l) (l.take (i + 1)) = true := fun h => by rw [allAt_take hb, hP, h]; rfl
  first | (refine call1 (f53_ok b) ?_) | (refine fcall1 (f53_ok b) ?_)
  have hv' : (nameOK b.name && b.shaped && between b.home 0 3) = resOK b := rfl
  rw [hv']
  cases hv : resOK b
  ·simp (disch := omega) only [go_sem]
   refine ret1 _ ?_
   simp (disch := omega) only [go_sem]
   exact wb (by rw [bad (by simp [catPos, hv])])
  by_cases hi0 : i = 0
  ·subst hi0
   simp (disch := omega) only [go_sem]
   refine hJ _ 1 ⟨by simp at hlt; omega, good (by simp [catPos, hv])⟩ (by simp at hlt; omega) imp1
  ·have hi1 : (0 < (i : Int)) = True := eq_true (by omega)
   have hi2 : ((i : Int) - 1) = ((i - 1 : Nat) : Int) := by omega
   obtain ⟨a, ha'⟩ : ∃ a, l[i - 1]? = some a := ⟨_, List.getElem?_eq_getElem (by simp at hlt; omega)⟩
   have had : l.getD (i - 1) r0 = a := by simp [List.getD, ha']
   simp (disch := omega) only [go_sem, hi1, hi2, List.getElem?_map, ha', hb]
   refine And.intro (fun hh => ?_) (fun hh => ?_)
   ·refine ret1 _ ?_
    simp (disch := omega) only [go_sem]
    exact wb (by rw [bad (by simp only [catPos, had, hv]; simp [hi0]; simpa [lessB] using hh)])
   ·refine hJ _ (i + 1) ⟨by simp at hlt; omega, good (by simp only [catPos, had, hv]; simp [hi0]; simpa [lessB] using hh)⟩ (by simp at hlt; omega) imp1
 subst hil
 rw [List.take_length] at hP
 have hqs : catOK l = true := by simp [catOK, hP]; omega
 refine ret1 _ ?_
 simp (disch := omega) only [go_sem]
 exact wb (by rw [hqs])
theorem f13_ok (l : List Res) : FnOK C0 13 [ressV l] [] (B (catOK l)) [] := by
 refine FnOK.go Tryz.f13 ?_
 unfold Tryz.f13
 by_cases hq : 8 < l.length
 ·have e1 : (8 < (l.length : Int)) = True := eq_true (by omega)
  have e : catOK l = false := by simp [catOK]; omega
  simp (disch := omega) only [go_sem, e1]
  refine ret1 _ ?_
  simp (disch := omega) only [go_sem]
  exact wb (by simp [e])
 have e1 : (8 < (l.length : Int)) = False := eq_false (by omega)
 simp (disch := omega) only [go_sem, e1, decide_false]
 refine loop_intro (α := Nat) (fun i => ⟨[(10, I i), (9, I l.length), (8, ressV l), (0, ressV l)], []⟩) (fun i => i ≤ (l).length ∧ allAt (catPos l) (l.take i) = true) (fun i => (l).length - i) 0 ⟨by omega, rfl⟩ ?_ ?_
 ·refine Imp.weak ?_ ?_
  all_goals (try simp (disch := omega) only [go_sem])
  all_goals (try (repeat' (with_reducible apply And.intro)))
  all_goals (first | exact .nilOwn (by omega) | exact .nilNo (by omega) | exact .sl (by simp []) | exact .int (by simp []) | exact .eq (by simp []))
 rintro i ⟨hi, hP⟩ J hJ
 simp (disch := omega) only [go_sem]
 refine And.intro (fun hlt => ?_) (fun hge => ?_)
 rotate_left
 have hil : i = (l).length := by simp at hge; omega
 rotate_left
 obtain ⟨b, hb⟩ : ∃ b, (l)[i]? = some b := ⟨_, List.getElem?_eq_getElem (by simp at hlt; omega)⟩
 have hbm := List.mem_of_getElem? hb
 simp (disch := omega) only [go_sem, List.getElem?_map, hb]
 ·have bad : catPos l i b = false → catOK l = false := fun h => by simp only [catOK, allAt_false hb h, Bool.and_false]
  have good : catPos l i b = true → allAt (catPos l) (l.take (i + 1)) = true := fun h => by rw [allAt_take hb, hP, h]; rfl
  refine draw_mk 15 [([], [4]), ([0], [15]), ([0, 1], [16]), ([0, 1, 2], [17]), ([0, 1, 2, 3], [3, 18]), ([0, 1, 2, 3, 4], [19, 18]), ([0, 1, 2, 3, 4, 5], [20, 18]), ([0, 1, 2, 3, 4, 5, 6], [0, 21]), ([0, 1, 2, 3, 4, 5, 6], [3, 21]), ([0, 1, 2, 3, 4, 5, 6, 8], [23, 21]), ([0, 1, 2, 3, 4, 5, 6, 7, 8, 9], [22, 24, 21]), ([0, 1, 2, 3, 4, 5, 6, 7, 8, 9, 10], [25, 21]), ([0, 1, 2, 3, 4, 5, 6, 7, 8, 9, 10, 11], [26, 21]), ([0, 1, 2, 3, 4, 5, 6], [4, 21]), ([0, 1, 2, 3, 4, 5, 6, 13], [28, 21]), ([0, 1, 2, 3, 4, 5, 6, 7, 8, 9, 10, 11, 12, 13, 14], []), ([0, 1, 2, 3, 4, 5, 6, 7, 8, 9, 10, 11, 12, 13, 14, 15], []), ([0, 1, 2, 3, 4, 5, 6, 7, 8, 9, 10, 11, 12, 13, 14, 15, 16], [])] fol (by kernel_rfl) ?_
  simp (disch := omega) only [go_sem]
  first | (refine call1 (f49_ok b) ?_) | (refine fcall1 (f49_ok b) ?_)
  have hv' : (nameOK b.name && b.shaped && between b.home 0 3) = resOK b := rfl
  rw [hv']
  cases hv : resOK b
  ·simp (disch := omega) only [go_sem]
   refine ret1 _ ?_
   simp (disch := omega) only [go_sem]
   exact wb (by rw [bad (by simp [catPos, hv])])
  by_cases hi0 : i = 0
  ·subst hi0
   simp (disch := omega) only [go_sem]
   refine hJ _ 1 ⟨by simp at hlt; omega, good (by simp [catPos, hv])⟩ (by simp at hlt; omega) imp1
  ·have hi1 : (0 < (i : Int)) = True := eq_true (by omega)
   have hi2 : ((i : Int) - 1) = ((i - 1 : Nat) : Int) := by omega
   obtain ⟨a, ha'⟩ : ∃ a, l[i - 1]? = some a := ⟨_, List.getElem?_eq_getElem (by simp at hlt; omega)⟩
   have had : l.getD (i - 1) r0 = a := by simp [List.getD, ha']
   simp (disch := omega) only [go_sem, hi1, hi2, List.getElem?_map, ha', hb]
   refine And.intro (fun hh => ?_) (fun hh => ?_)
   ·refine ret1 _ ?_
    simp (disch := omega) only [go_sem]
    exact wb (by rw [bad (by simp only [catPos, had, hv]; simp [hi0]; simpa [lessB] using hh)])
   ·refine hJ _ (i + 1) ⟨by simp at hlt; omega, good (by simp only [catPos, had, hv]; simp [hi0]; simpa [lessB] using hh)⟩ (by simp at hlt; omega) imp1
 subst hil
 rw [List.take_length] at hP
 have hqs : catOK l = true := by simp [catOK, hP]; omega
 refine ret1 _ ?_
 simp (disch := omega) only [go_sem]
 exact wb (by rw [hqs])
end Go.Rd
open Go Go.Abs Go.Proofs
set_option maxRecDepth 100000
namespace Go.Rd
def properB (id n : Int) : Bool := decide (1 ≤ n) && decide (n ≤ 4) && decide (0 ≤ id) && decide (id < n)
theorem f210_ok (id n : Int) : FnOK C0 210 [I id, I n] [] (B (properB id n)) [] := by
 refine FnOK.go Tryz.f210 ?_
 unfold Tryz.f210
 simp (disch := omega) only [go_sem]
 repeat' (with_reducible refine And.intro (fun h => ?_) (fun h => ?_))
 all_goals (refine ret1 _ ?_)
 all_goals (try simp (disch := omega) only [go_sem])
 all_goals (first | refine wb ?_ | refine wi ?_ | refine .eq ?_)
 all_goals (first | (simp_all [properB] <;> omega) | (refine Bool.eq_iff_iff.2 ?_; simp_all [properB] <;> omega))
theorem f19_ok (id n : Int) : FnOK C0 19 [I id, I n] [] (B (properB id n)) [] := by
 refine FnOK.go Tryz.f19 ?_
 unfold Tryz.f19
 simp (disch := omega) only [go_sem]
 repeat' (with_reducible refine And.intro (fun h => ?_) (fun h => ?_))
 all_goals (refine ret1 _ ?_)
 all_goals (try simp (disch := omega) only [go_sem])
 all_goals (first | refine wb ?_ | refine wi ?_ | refine .eq ?_)
 all_goals (first | (simp_all [properB] <;> omega) | (refine Bool.eq_iff_iff.2 ?_; simp_all [properB] <;> omega))
theorem f210_t {id n : Int} (h : properB id n = true) : FnOK C0 210 [I id, I n] [] (B true) [] := h ▸ f210_ok id n
theorem f19_t {id n : Int} (h : properB id n = true) : FnOK C0 19 [I id, I n] [] (B true) [] := h ▸ f19_ok id n
@[reducible] def nilS : AV := .v (.slice none 0 0)
def tokC (id : Int) : List AV := if id = 0 then [B true, B false, B false, I (-1), I (-1)] else [B false, B false, B false, I 0, I (-1)]
theorem f116_ok (id n : Int) (h : properB id n = true) : FnOK C0 116 [I id, I n] [] (.tup [.agg (tokC id), I 0]) [] := by
 refine FnOK.go Tryz.f116 ?_
 unfold Tryz.f116
 simp (disch := omega) only [go_sem]
 refine call1 (f210_t h) ?_
 by_cases h0 : id = 0
 ·simp (disch := omega) only [go_sem, tokC, h0]
  refine ret1 _ ?_
  simp (disch := omega) only [go_sem]
 ·have e : tokC id = [B false, B false, B false, I 0, I (-1)] := by simp [tokC, h0]
  have e2 : (id == 0) = false := by simp [h0]
  rw [e]
  simp (disch := omega) only [go_sem, e2, eq_false h0, decide_false]
  refine ret1 _ ?_
  simp (disch := omega) only [go_sem]
theorem f119_ok (id n : Int) (h : properB id n = true) : FnOK C0 119 [I id, I n] [] (.tup [.agg (tokC id), I 0]) [] := by
 refine FnOK.go Tryz.f119 ?_
 unfold Tryz.f119
 simp (disch := omega) only [go_sem]
 refine call1 (f19_t h) ?_
 by_cases h0 : id = 0
 ·simp (disch := omega) only [go_sem, tokC, h0]
  refine ret1 _ ?_
  simp (disch := omega) only [go_sem]
 ·have e : tokC id = [B false, B false, B false, I 0, I (-1)] := by simp [tokC, h0]
  have e2 : (id == 0) = false := by simp [h0]
  rw [e]
  simp (disch := omega) only [go_sem, e2, eq_false h0, decide_false]
  refine ret1 _ ?_
  simp (disch := omega) only [go_sem]
theorem f14_ok : FnOK C0 14 [] [] (.agg [I 1, nilS, I 0]) [] := by
 refine FnOK.go Tryz.f14 ?_
 unfold Tryz.f14
 simp (disch := omega) only [go_sem]
 refine ret1 _ ?_
 simp (disch := omega) only [go_sem]
theorem f21_ok : FnOK C0 21 [] [] (.agg [I 1, nilS, I 0]) [] := by
 refine FnOK.go Tryz.f21 ?_
 unfold Tryz.f21
 simp (disch := omega) only [go_sem]
 refine ret1 _ ?_
 simp (disch := omega) only [go_sem]
theorem f16_ok (id : Int) (h0 : 0 ≤ id) (h4 : id < 4) : FnOK C0 16 [I id, I 1] [] (.tup [.agg [I id, I 1, I 0, I 0, nilS], I 0]) [] := by
 refine FnOK.go Tryz.f16 ?_
 unfold Tryz.f16
 simp (disch := omega) only [go_sem, eq_false (show ¬ id < 0 by omega), eq_false (show ¬ 4 ≤ id by omega)]
 refine ret1 _ ?_
 simp (disch := omega) only [go_sem]
theorem f22_ok (id : Int) (h0 : 0 ≤ id) (h4 : id < 4) : FnOK C0 22 [I id, I 1] [] (.tup [.agg [I id, I 1, I 0, I 0, nilS], I 0]) [] := by
 refine FnOK.go Tryz.f22 ?_
 unfold Tryz.f22
 simp (disch := omega) only [go_sem, eq_false (show ¬ id < 0 by omega), eq_false (show ¬ 4 ≤ id by omega)]
 refine ret1 _ ?_
 simp (disch := omega) only [go_sem]
def regC (id : Int) : List AV := [I 0, B false, B false, nilS] ++ tokC id
def detC (id : Int) : List AV := regC id ++ [I 0, I 0, nilS, nilS, nilS, nilS, nilS, nilS, nilS, nilS, nilS, nilS, I 0, I 0]
theorem tokC_cases {P : List AV → Prop} (id : Int) (h1 : P [B true, B false, B false, I (-1), I (-1)]) (h2 : P [B false, B false, B false, I 0, I (-1)]) : P (tokC id) := by
 unfold tokC; split
 ·exact h1
 ·exact h2
theorem f52_ok (id n : Int) (h : properB id n = true) : FnOK C0 52 [I id, I n] [] (.tup [.agg (regC id), I 0]) [] := by
 have hc := f116_ok id n h
 revert hc
 unfold regC
 refine tokC_cases (P := fun c => FnOK C0 116 [I id, I n] [] (.tup [.agg c, I 0]) [] → FnOK C0 52 [I id, I n] [] (.tup [.agg ([I 0, B false, B false, nilS] ++ c), I 0]) []) id (fun hc => ?_) (fun hc => ?_)
 all_goals
  refine FnOK.go Tryz.f52 ?_
  unfold Tryz.f52
  simp (disch := omega) only [go_sem]
  refine call1 hc ?_
  simp (disch := omega) only [go_sem, List.cons_append, List.nil_append]
  refine ret1 _ ?_
  simp (disch := omega) only [go_sem]
theorem f56_ok (id n : Int) (h : properB id n = true) : FnOK C0 56 [I id, I n] [] (.tup [.agg (regC id), I 0]) [] := by
 have hc := f119_ok id n h
 revert hc
 unfold regC
 refine tokC_cases (P := fun c => FnOK C0 119 [I id, I n] [] (.tup [.agg c, I 0]) [] → FnOK C0 56 [I id, I n] [] (.tup [.agg ([I 0, B false, B false, nilS] ++ c), I 0]) []) id (fun hc => ?_) (fun hc => ?_)
 all_goals
  refine FnOK.go Tryz.f56 ?_
  unfold Tryz.f56
  simp (disch := omega) only [go_sem]
  refine call1 hc ?_
  simp (disch := omega) only [go_sem, List.cons_append, List.nil_append]
  refine ret1 _ ?_
  simp (disch := omega) only [go_sem]
theorem f17_ok (id n : Int) (h : properB id n = true) : FnOK C0 17 [I id, I n] [] (.tup [.agg (detC id), I 0]) [] := by
 have hc := f52_ok id n h
 revert hc
 unfold detC regC
 refine tokC_cases (P := fun c => FnOK C0 52 [I id, I n] [] (.tup [.agg ([I 0, B false, B false, nilS] ++ c), I 0]) [] → FnOK C0 17 [I id, I n] [] (.tup [.agg ([I 0, B false, B false, nilS] ++ c ++ [I 0, I 0, nilS, nilS, nilS, nilS, nilS, nilS, nilS, nilS, nilS, nilS, I 0, I 0]), I 0]) []) id (fun hc => ?_) (fun hc => ?_)
 all_goals
  refine FnOK.go Tryz.f17 ?_
  unfold Tryz.f17
  simp (disch := omega) only [go_sem]
  refine call1 hc ?_
  simp (disch := omega) only [go_sem, List.cons_append, List.nil_append]
  refine ret1 _ ?_
  simp (disch := omega) only [go_sem]
theorem f23_ok (id n : Int) (h : properB id n = true) : FnOK C0 23 [I id, I n] [] (.tup [.agg (detC id), I 0]) [] := by
 have hc := f56_ok id n h
 revert hc
 unfold detC regC
 refine tokC_cases (P := fun c => FnOK C0 56 [I id, I n] [] (.tup [.agg ([I 0, B false, B false, nilS] ++ c), I 0]) [] → FnOK C0 23 [I id, I n] [] (.tup [.agg ([I 0, B false, B false, nilS] ++ c ++ [I 0, I 0, nilS, nilS, nilS, nilS, nilS, nilS, nilS, nilS, nilS, nilS, I 0, I 0]), I 0]) []) id (fun hc => ?_) (fun hc => ?_)
 all_goals
  refine FnOK.go Tryz.f23 ?_
  unfold Tryz.f23
  simp (disch := omega) only [go_sem]
  refine call1 hc ?_
  simp (disch := omega) only [go_sem, List.cons_append, List.nil_append]
  refine ret1 _ ?_
  simp (disch := omega) only [go_sem]
end Go.Rd
open Go Go.Abs Go.Proofs
set_option maxRecDepth 100000
namespace Go.Rd
def atR (l : List Res) (id : Int) : List Res := l.filter fun r => decide (r.home = id)
theorem atR_len (l : List Res) (id : Int) : (atR l id).length ≤ l.length := List.length_filter_le _ _
theorem atR_yes {l : List Res} {id : Int} {i : Nat} {b : Res} (hb : l[i]? = some b) (h : b.home = id) : atR (l.take (i + 1)) id = atR (l.take i) id ++ [b] := by
 simp [atR, List.take_add_one, hb, List.filter_append, h]
theorem atR_no {l : List Res} {id : Int} {i : Nat} {b : Res} (hb : l[i]? = some b) (h : ¬ b.home = id) : atR (l.take (i + 1)) id = atR (l.take i) id := by
 simp [atR, List.take_add_one, hb, List.filter_append, h]
theorem f51_ok (l : List Res) (id : Int) (hl : l.length ≤ 1000000) : FnOK C0 51 [ressV l, I id] [] (ressV (atR l id)) [] := by
 refine FnOK.go Tryz.f51 ?_
 unfold Tryz.f51
 simp (disch := omega) only [go_sem]
 refine loop_intro (α := Nat) (fun i => ⟨[(10, I i), (9, I l.length), (8, ressV l), (1, I id), (5, .sl (.own 1344 0) 4 ((atR (l.take i) id).map Res.c))], []⟩) (fun i => i ≤ (l).length ∧ True) (fun i => (l).length - i) 0 ⟨by omega, trivial⟩ ?_ ?_
 ·refine Imp.weak ?_ ?_
  all_goals (try simp (disch := omega) only [go_sem])
  all_goals (try (repeat' (with_reducible apply And.intro)))
  all_goals (first | exact .nilOwn (by omega) | exact .nilNo (by omega) | exact .sl (by simp [atR]) | exact .int (by simp [atR]) | exact .eq (by simp [atR]))
 rintro i ⟨hi, hP⟩ J hJ
 simp (disch := omega) only [go_sem]
 refine And.intro (fun hlt => ?_) (fun hge => ?_)
 rotate_left
 have hil : i = (l).length := by simp at hge; omega
 rotate_left
 obtain ⟨b, hb⟩ : ∃ b, (l)[i]? = some b := ⟨_, List.getElem?_eq_getElem (by simp at hlt; omega)⟩
 have hbm := List.mem_of_getElem? hb
 simp (disch := omega) only [go_sem, List.getElem?_map, hb]
 ·have hdi := atR_len (l.take i) id
  have hti : (l.take i).length ≤ l.length := by simp; omega
  by_cases h : b.home = id
  ·simp (disch := omega) only [go_sem, h, decide_true]
   refine hJ _ (i + 1) ⟨by simp at hlt; omega, trivial⟩ (by simp at hlt; omega) (Imp.weak ?_ (by simp (disch := omega) only [go_sem]))
   simp (disch := omega) only [go_sem, atR_yes hb h]
   exact .sl (by simp [Res.c, h])
  ·have e : (b.home == id) = false := by simp [h]
   simp (disch := omega) only [go_sem, e, eq_false h, decide_false]
   refine hJ _ (i + 1) ⟨by simp at hlt; omega, trivial⟩ (by simp at hlt; omega) (Imp.weak ?_ (by simp (disch := omega) only [go_sem]))
   simp (disch := omega) only [go_sem, atR_no hb h]
 ·subst hil
  refine ret2 ⟨[], [], [1344]⟩ _ ?_
  simp (disch := omega) only [go_sem, List.take_length]
theorem f55_ok (l : List Res) (id : Int) (hl : l.length ≤ 1000000) : FnOK C0 55 [ressV l, I id] [] (ressV (atR l id)) [] := by
 refine FnOK.go Tryz.f55 ?_
 unfold Tryz.f55
 simp (disch := omega) only [go_sem]
 refine loop_intro (α := Nat) (fun i => ⟨[(6, I i), (0, ressV l), (1, I id), (5, .sl (.own 1664 0) 4 ((atR (l.take i) id).map Res.c))], []⟩) (fun i => i ≤ (l).length ∧ True) (fun i => (l).length - i) 0 ⟨by omega, trivial⟩ ?_ ?_
 ·refine Imp.weak ?_ ?_
  all_goals (try simp (disch := omega) only [go_sem])
  all_goals (try (repeat' (with_reducible apply And.intro)))
  all_goals (first | exact .nilOwn (by omega) | exact .nilNo (by omega) | exact .sl (by simp [atR]) | exact .int (by simp [atR]) | exact .eq (by simp [atR]))
 rintro i ⟨hi, hP⟩ J hJ
 simp (disch := omega) only [go_sem]
 refine And.intro (fun hlt => ?_) (fun hge => ?_)
 rotate_left
 have hil : i = (l).length := by simp at hge; omega
 rotate_left
 obtain ⟨b, hb⟩ : ∃ b, (l)[i]? = some b := ⟨_, List.getElem?_eq_getElem (by simp at hlt; omega)⟩
 have hbm := List.mem_of_getElem? hb
 have hlt2 : i < (l).length := by simp at hlt; omega
 simp (disch := omega) only [go_sem, List.getElem?_map, hb]
 ·have hdi := atR_len (l.take i) id
  have hti : (l.take i).length ≤ l.length := by simp; omega
  by_cases h : b.home = id
  ·simp (disch := omega) only [go_sem, h, decide_true, List.getElem?_map, hb]
   refine hJ _ (i + 1) ⟨by simp at hlt; omega, trivial⟩ (by simp at hlt; omega) (Imp.weak ?_ (by simp (disch := omega) only [go_sem]))
   simp (disch := omega) only [go_sem, atR_yes hb h]
   exact .sl (by simp [Res.c, h])
  ·have e : (b.home == id) = false := by simp [h]
   simp (disch := omega) only [go_sem, e, eq_false h, decide_false]
   refine hJ _ (i + 1) ⟨by simp at hlt; omega, trivial⟩ (by simp at hlt; omega) (Imp.weak ?_ (by simp (disch := omega) only [go_sem]))
   simp (disch := omega) only [go_sem, atR_no hb h]
 ·subst hil
  refine ret2 ⟨[], [], [1664]⟩ _ ?_
  simp (disch := omega) only [go_sem, List.take_length]
def Res.n (r : Res) : List AV := [.v (.string (str r.name)), I r.kind, I r.units, I r.home, nilS, nilS, nilS, I 0]
attribute [go_sem] Res.n
@[reducible] def newQs (l : List Res) : AV := .sl .no 8 (l.map Res.n)
theorem f115_ok (r : Res) (h : resOK r = true) : FnOK C0 115 [.agg r.c] [] (.tup [.agg r.n, I 0]) [] := by
 have hc := f49_ok r
 have hr : (nameOK r.name && r.shaped && between r.home 0 3) = resOK r := rfl
 rw [hr, h] at hc
 refine FnOK.go Tryz.f115 ?_
 unfold Tryz.f115
 simp (disch := omega) only [go_sem]
 refine call1 hc ?_
 simp (disch := omega) only [go_sem]
 refine ret1 _ ?_
 simp (disch := omega) only [go_sem]
theorem catOK_mem {l : List Res} (h : catOK l = true) {b : Res} (hb : b ∈ l) : resOK b = true := by
 cases hr : resOK b with
 | true => rfl
 | false =>
  obtain ⟨i, hi⟩ := List.mem_iff_getElem?.1 hb
  have := allAt_false (f := catPos l) hi (by simp [catPos, hr])
  simp [catOK, this] at h
theorem catOK_len {l : List Res} (h : catOK l = true) : l.length ≤ 8 := by
 simp [catOK] at h; exact h.1
theorem f13_t {l : List Res} (h : catOK l = true) : FnOK C0 13 [ressV l] [] (B true) [] := h ▸ f13_ok l
theorem f18_t {l : List Res} (h : catOK l = true) : FnOK C0 18 [ressV l] [] (B true) [] := h ▸ f18_ok l
theorem f50_ok (l : List Res) (h : catOK l = true) : FnOK C0 50 [ressV l] [] (.tup [newQs l, I 0]) [] := by
 have hl := catOK_len h
 refine FnOK.go Tryz.f50 ?_
 unfold Tryz.f50
 simp (disch := omega) only [go_sem]
 refine call1 (f13_t h) ?_
 simp (disch := omega) only [go_sem]
 refine loop_intro (α := Nat) (fun i => ⟨[(14, I i), (13, I l.length), (12, ressV l), (4, .sl (.own 1856 0) 8 ((l.take i).map Res.n))], []⟩) (fun i => i ≤ (l).length ∧ (l.take i).length ≤ 8) (fun i => (l).length - i) 0 ⟨by omega, (by simp)⟩ ?_ ?_
 ·refine Imp.weak ?_ ?_
  all_goals (try simp (disch := omega) only [go_sem])
  all_goals (try (repeat' (with_reducible apply And.intro)))
  all_goals (first | exact .nilOwn (by omega) | exact .nilNo (by omega) | exact .sl (by simp []) | exact .int (by simp []) | exact .eq (by simp []))
 rintro i ⟨hi, hP⟩ J hJ
 simp (disch := omega) only [go_sem]
 refine And.intro (fun hlt => ?_) (fun hge => ?_)
 rotate_left
 have hil : i = (l).length := by simp at hge; omega
 rotate_left
 obtain ⟨b, hb⟩ : ∃ b, (l)[i]? = some b := ⟨_, List.getElem?_eq_getElem (by simp at hlt; omega)⟩
 have hbm := List.mem_of_getElem? hb
 simp (disch := omega) only [go_sem, List.getElem?_map, hb]
 ·refine call1 (f115_ok b (catOK_mem h hbm)) ?_
  simp (disch := omega) only [go_sem]
  refine hJ _ (i + 1) ⟨by simp at hlt; omega, by simp; omega⟩ (by simp at hlt; omega) (Imp.weak ?_ (by simp (disch := omega) only [go_sem]))
  simp (disch := omega) only [go_sem]
  exact .sl (by simp [List.take_add_one, hb, Res.n])
 ·subst hil
  refine ret2 ⟨[], [], [1856]⟩ _ ?_
  simp (disch := omega) only [go_sem, List.take_length]
theorem f54_ok (l : List Res) (h : catOK l = true) : FnOK C0 54 [ressV l] [] (.tup [newQs l, I 0]) [] := by
 have hl := catOK_len h
 refine FnOK.go Tryz.f54 ?_
 unfold Tryz.f54
 simp (disch := omega) only [go_sem]
 refine call1 (f18_t h) ?_
 simp (disch := omega) only [go_sem]
 refine loop_intro (α := Nat) (fun i => ⟨[(5, I i), (0, ressV l), (4, .sl (.own 1408 0) 8 ((l.take i).map Res.n))], []⟩) (fun i => i ≤ (l).length ∧ (l.take i).length ≤ 8) (fun i => (l).length - i) 0 ⟨by omega, (by simp)⟩ ?_ ?_
 ·refine Imp.weak ?_ ?_
  all_goals (try simp (disch := omega) only [go_sem])
  all_goals (try (repeat' (with_reducible apply And.intro)))
  all_goals (first | exact .nilOwn (by omega) | exact .nilNo (by omega) | exact .sl (by simp []) | exact .int (by simp []) | exact .eq (by simp []))
 rintro i ⟨hi, hP⟩ J hJ
 simp (disch := omega) only [go_sem]
 refine And.intro (fun hlt => ?_) (fun hge => ?_)
 rotate_left
 have hil : i = (l).length := by simp at hge; omega
 rotate_left
 obtain ⟨b, hb⟩ : ∃ b, (l)[i]? = some b := ⟨_, List.getElem?_eq_getElem (by simp at hlt; omega)⟩
 have hbm := List.mem_of_getElem? hb
 have hlt2 : i < (l).length := by simp at hlt; omega
 simp (disch := omega) only [go_sem, List.getElem?_map, hb]
 ·refine hJ _ (i + 1) ⟨by simp at hlt; omega, by simp; omega⟩ (by simp at hlt; omega) (Imp.weak ?_ (by simp (disch := omega) only [go_sem]))
  simp (disch := omega) only [go_sem]
  exact .sl (by simp [List.take_add_one, hb, Res.n])
 ·subst hil
  refine ret2 ⟨[], [], [1408]⟩ _ ?_
  simp (disch := omega) only [go_sem, List.take_length]
end Go.Rd
open Go Go.Abs Go.Proofs
set_option maxRecDepth 100000
namespace Go.Rd
theorem lessB_cons (a b : UInt8) (x y : Bs) : lessB (a :: x) (b :: y) = (decide (a < b) || (a == b && lessB x y)) := by
 simp [lessB, Op.bytesLess]
theorem lessB_nil (x : Bs) : lessB x [] = false := by cases x <;> simp [lessB, Op.bytesLess]
theorem lessB_trans : ∀ {a b c : Bs}, lessB a b = true → lessB b c = true → lessB a c = true
 | a, [], c, h, _ => by rw [lessB_nil] at h; cases h
 | a, b :: y, [], _, h => by rw [lessB_nil] at h; cases h
 | [], b :: y, c :: z, _, _ => by simp [lessB, Op.bytesLess]
 | a :: x, b :: y, c :: z, h1, h2 => by
  rw [lessB_cons, Bool.or_eq_true, Bool.and_eq_true, decide_eq_true_eq, beq_iff_eq] at h1 h2 ⊢
  rcases h1 with h1 | ⟨rfl, h1⟩
  ·rcases h2 with h2 | ⟨rfl, _⟩
   ·exact .inl (UInt8.lt_trans h1 h2)
   ·exact .inl h1
  ·rcases h2 with h2 | ⟨rfl, h2⟩
   ·exact .inl h2
   ·exact .inr ⟨rfl, lessB_trans h1 h2⟩
theorem allAt_iff {α : Type} {f : Nat → α → Bool} {l : List α} : allAt f l = true ↔ ∀ i b, l[i]? = some b → f i b = true := by
 simp only [allAt, List.all_eq_true]
 constructor
 ·intro h i b hb; exact h (b, i) (List.mk_mem_zipIdx_iff_getElem?.2 hb)
 ·intro h x hx; exact h _ _ (List.mk_mem_zipIdx_iff_getElem?.1 hx)
theorem catOK_iff (l : List Res) : catOK l = true ↔ l.length ≤ 8 ∧ (∀ r ∈ l, resOK r = true) ∧ l.Pairwise (fun a b => lessB a.name b.name = true) := by
 simp only [catOK, Bool.and_eq_true, decide_eq_true_eq, allAt_iff]
 refine and_congr Iff.rfl ⟨fun h => ⟨fun r hr => ?_, ?_⟩, fun ⟨h1, h2⟩ i b hb => ?_⟩
 ·obtain ⟨i, hi⟩ := List.mem_iff_getElem?.1 hr
  have := h i r hi
  simp only [catPos, Bool.and_eq_true] at this
  exact this.1
 ·have step : ∀ i (hi : i + 1 < l.length), lessB (l[i]'(by omega)).name l[i + 1].name = true := fun i hi => by
   have := h (i + 1) l[i + 1] (List.getElem?_eq_getElem hi)
   simp only [catPos, Bool.and_eq_true] at this
   have h2 := this.2
   have e : l.getD i r0 = l[i]'(by omega) := by simp [List.getD, List.getElem?_eq_getElem (show i < l.length by omega)]
   rw [Nat.add_sub_cancel, e] at h2
   simpa using h2
  rw [List.pairwise_iff_getElem]
  have far : ∀ d i (hi : i + d + 1 < l.length), lessB (l[i]'(by omega)).name (l[i + d + 1]'hi).name = true := by
   intro d
   induction d with
   | zero => intro i hi; exact step i hi
   | succ d ih => intro i hi; exact lessB_trans (ih i (by omega)) (step (i + d + 1) hi)
  intro i j hi hj hij
  have := far (j - i - 1) i (by omega)
  have e : i + (j - i - 1) + 1 = j := by omega
  simpa only [e] using this
 ·simp only [catPos, Bool.and_eq_true]
  refine ⟨h1 b (List.mem_of_getElem? hb), ?_⟩
  cases i with
  | zero => simp
  | succ i =>
   have hl := lt_of_get hb
   rw [List.pairwise_iff_getElem] at h2
   have := h2 i (i + 1) (by omega) hl (by omega)
   have eb : l[i + 1] = b := by rw [List.getElem?_eq_getElem hl] at hb; exact Option.some.inj hb
   have e : l.getD i r0 = l[i]'(by omega) := by simp [List.getD, List.getElem?_eq_getElem (show i < l.length by omega)]
   rw [eb] at this
   rw [Nat.add_sub_cancel, e]
   simp [this]
theorem catOK_at {l : List Res} (h : catOK l = true) (id : Int) : catOK (atR l id) = true := by
 rw [catOK_iff] at h ⊢
 obtain ⟨h1, h2, h3⟩ := h
 exact ⟨Nat.le_trans (atR_len l id) h1, fun r hr => h2 r (List.mem_filter.1 hr).1, h3.filter _⟩
theorem f15_ok (l : List Res) (id : Int) (h : catOK l = true) (h0 : 0 ≤ id) (h4 : id < 4) : FnOK C0 15 [ressV l, I id] [] (.tup [.agg [newQs (atR l id), nilS], I 0]) [] := by
 have hl := catOK_len h
 refine FnOK.go Tryz.f15 ?_
 unfold Tryz.f15
 simp (disch := omega) only [go_sem, eq_false (show ¬ id < 0 by omega), eq_false (show ¬ 4 ≤ id by omega)]
 refine call1 (f13_t h) ?_
 simp (disch := omega) only [go_sem, eq_false (show ¬ id < 0 by omega), eq_false (show ¬ 4 ≤ id by omega)]
 refine call1 (f51_ok l id (by omega)) ?_
 simp (disch := omega) only [go_sem]
 refine call1 (f50_ok (atR l id) (catOK_at h id)) ?_
 simp (disch := omega) only [go_sem]
 refine ret1 _ ?_
 simp (disch := omega) only [go_sem]
theorem f20_ok (l : List Res) (id : Int) (h : catOK l = true) (h0 : 0 ≤ id) (h4 : id < 4) : FnOK C0 20 [ressV l, I id] [] (.tup [.agg [newQs (atR l id), nilS], I 0]) [] := by
 have hl := catOK_len h
 refine FnOK.go Tryz.f20 ?_
 unfold Tryz.f20
 simp (disch := omega) only [go_sem, eq_false (show ¬ id < 0 by omega), eq_false (show ¬ 4 ≤ id by omega)]
 refine call1 (f18_t h) ?_
 simp (disch := omega) only [go_sem, eq_false (show ¬ id < 0 by omega), eq_false (show ¬ 4 ≤ id by omega)]
 refine call1 (f55_ok l id (by omega)) ?_
 simp (disch := omega) only [go_sem]
 refine call1 (f54_ok (atR l id) (catOK_at h id)) ?_
 simp (disch := omega) only [go_sem]
 refine ret1 _ ?_
 simp (disch := omega) only [go_sem]
def siteC (l : List Res) (id n : Int) (k : Nat) (x : List AV) : List AV := [I id, I n, B true, I 1, newQs (atR l id), nilS, .sl .no 3 (List.replicate k [I 1, nilS, I 0]), I 0, I 0, I id, I 1, I 0, I 0, nilS] ++ x
def zeroSite : List AV := [I 0, I 0, B false, I 0, nilS, nilS, nilS, I 0, I 0, I 0, I 0, I 0, I 0, nilS, I 0, B false, B false, nilS, B false, B false, B false, I 0, I 0, I 0, I 0, nilS, nilS, nilS, nilS, nilS, nilS, nilS, nilS, nilS, nilS, I 0, I 0]
attribute [go_sem] zeroSite
def homesOK (l : List Res) (n : Int) : Bool := l.all fun r => decide (0 ≤ r.home) && decide (r.home < n)
def newOK (l : List Res) (id n : Int) : Bool := catOK l && properB id n && homesOK l n
def siteV (l : List Res) (id n : Int) : AV := .agg (if newOK l id n then siteC l id n n.toNat (detC id) else zeroSite)
def siteE (l : List Res) (id n : Int) : Int := if newOK l id n then 0 else 1
@[reducible] def lnk : List AV := [I 1, nilS, I 0]
def siteL (id n : Int) (links : AV) : List AV := [I id, I n, B true, I 1, nilS, nilS, links, I 0, I 0, I 0, I 0, I 0, I 0, nilS, I 0, B false, B false, nilS, B false, B false, B false, I 0, I 0, I 0, I 0, nilS, nilS, nilS, nilS, nilS, nilS, nilS, nilS, nilS, nilS, I 0, I 0]
attribute [go_sem] siteL
def tk0 (id : Int) : Bool := decide (id = 0)
def tkl (id : Int) : Int := if id = 0 then -1 else 0
theorem detC_eq (id : Int) : detC id = [I 0, B false, B false, nilS, B (tk0 id), B false, B false, I (tkl id), I (-1), I 0, I 0, nilS, nilS, nilS, nilS, nilS, nilS, nilS, nilS, nilS, nilS, I 0, I 0] := by
 unfold detC regC tokC tk0 tkl
 by_cases h : id = 0 <;> simp [h]
def siteX (id n : Int) (q links : AV) : List AV := [I id, I n, B true, I 1, q, nilS, links, I 0, I 0, I id, I 1, I 0, I 0, nilS, I 0, B false, B false, nilS, B (tk0 id), B false, B false, I (tkl id), I (-1), I 0, I 0, nilS, nilS, nilS, nilS, nilS, nilS, nilS, nilS, nilS, nilS, I 0, I 0]
attribute [go_sem] siteX
theorem siteC_eq (l : List Res) (id n : Int) (k : Nat) : siteC l id n k (detC id) = siteX id n (newQs (atR l id)) (.sl .no 3 (List.replicate k lnk)) := by
 rw [detC_eq]; rfl
theorem ret_zero {l : List Res} {id n : Int} (e : newOK l id n = false) : AV.tup [siteV l id n, I (siteE l id n)] = .tup [.agg zeroSite, I 1] := by
 simp [siteV, siteE, e]
theorem properB_iff {id n : Int} : properB id n = true ↔ 1 ≤ n ∧ n ≤ 4 ∧ 0 ≤ id ∧ id < n := by
 simp [properB, and_assoc]
def homeB (n : Int) (r : Res) : Bool := decide (0 ≤ r.home) && decide (r.home < n)
theorem f5_ok (l : List Res) (id n : Int) : FnOK C0 5 [ressV l, I id, I n] [] (.tup [siteV l id n, I (siteE l id n)]) [] := by
 by_cases hc : catOK l = true
 rotate_left
 ·have e : newOK l id n = false := by simp [newOK, hc]
  have hf := f13_ok l
  rw [Bool.eq_false_iff.2 hc] at hf
  rw [ret_zero e]
  refine FnOK.go Tryz.f5 ?_
  unfold Tryz.f5
  simp (disch := omega) only [go_sem]
  refine call1 hf ?_
  simp (disch := omega) only [go_sem]
  refine ret1 _ ?_
  simp (disch := omega) only [go_sem]
 have hl := catOK_len hc
 by_cases hp : properB id n = true
 rotate_left
 ·have e : newOK l id n = false := by simp [newOK, hp]
  have hp' : 1 ≤ n → n ≤ 4 → 0 ≤ id → n ≤ id := fun h1 h2 h3 => by
   rcases Int.lt_or_le id n with h | h
   ·exact absurd (properB_iff.2 ⟨h1, h2, h3, h⟩) hp
   ·exact h
  rw [ret_zero e]
  refine FnOK.go Tryz.f5 ?_
  unfold Tryz.f5
  simp (disch := omega) only [go_sem]
  refine call1 (f13_t hc) ?_
  simp (disch := omega) only [go_sem]
  repeat' (with_reducible refine And.intro (fun h => ?_) (fun h => ?_))
  all_goals first
   | (exfalso; simp at *; omega)
   | (refine ret1 _ ?_
      simp (disch := omega) only [go_sem])
 obtain ⟨p1, p2, p3, p4⟩ := properB_iff.1 hp
 refine FnOK.go Tryz.f5 ?_
 unfold Tryz.f5
 simp (disch := omega) only [go_sem]
 refine call1 (f13_t hc) ?_
 simp (disch := omega) only [go_sem, eq_false (show ¬ n < 1 by omega), eq_false (show ¬ 4 < n by omega), eq_false (show ¬ id < 0 by omega), eq_false (show ¬ n ≤ id by omega)]
 refine loop_intro (α := Nat) (fun i => ⟨[(37, I i), (36, I l.length), (35, ressV l), (6, .ptr 384 0), (7, I 0), (0, ressV l), (1, I id), (2, I n)], [(384, zeroSite)]⟩) (fun i => i ≤ (l).length ∧ (l.take i).all (homeB n) = true) (fun i => (l).length - i) 0 ⟨by omega, rfl⟩ ?_ ?_
 ·refine Imp.weak ?_ ?_
  all_goals (try simp (disch := omega) only [go_sem])
  all_goals (try (repeat' (with_reducible apply And.intro)))
  all_goals (first | exact .nilOwn (by omega) | exact .nilNo (by omega) | exact .sl (by simp []) | exact .int (by simp []) | exact .eq (by simp []))
 rintro i ⟨hi, hP⟩ J hJ
 simp (disch := omega) only [go_sem]
 refine And.intro (fun hlt => ?_) (fun hge => ?_)
 rotate_left
 have hil : i = (l).length := by simp at hge; omega
 rotate_left
 obtain ⟨b, hb⟩ : ∃ b, (l)[i]? = some b := ⟨_, List.getElem?_eq_getElem (by simp at hlt; omega)⟩
 have hbm := List.mem_of_getElem? hb
 simp (disch := omega) only [go_sem, List.getElem?_map, hb]
 ·by_cases hb' : homeB n b = true
  rotate_left
  ·have e : newOK l id n = false := by
    have : homesOK l n = false := all_false hbm (by simpa [homeB] using hb')
    simp [newOK, this]
   have hb2 : 0 ≤ b.home → n ≤ b.home := fun h1 => by
    rcases Int.lt_or_le b.home n with h | h
    ·exact absurd (by simp [homeB, h1, h]) hb'
    ·exact h
   rw [ret_zero e]
   simp (disch := omega) only [go_sem]
   repeat' (with_reducible refine And.intro (fun h => ?_) (fun h => ?_))
   all_goals first
    | (exfalso; simp at *; omega)
    | (refine ret1 _ ?_
       simp (disch := omega) only [go_sem])
  ·have hb2 : 0 ≤ b.home ∧ b.home < n := by simpa [homeB] using hb'
   simp (disch := omega) only [go_sem, eq_false (show ¬ b.home < 0 by omega), eq_false (show ¬ n ≤ b.home by omega)]
   refine hJ _ (i + 1) ⟨by simp at hlt; omega, by rw [all_take hb, hP, hb']; rfl⟩ (by simp at hlt; omega) imp1
 subst hil
 rw [List.take_length] at hP
 have e : newOK l id n = true := by
  have h2 : homesOK l n = true := hP
  simp [newOK, hc, hp, h2]
 have er : AV.tup [siteV l id n, I (siteE l id n)] = .tup [.agg (siteC l id n n.toNat (detC id)), I 0] := by simp [siteV, siteE, e]
 rw [er]
 clear hJ hi hge
 obtain ⟨k, rfl⟩ : ∃ k : Nat, n = k := ⟨n.toNat, by omega⟩
 rw [Int.toNat_natCast]
 have hk : k ≤ 4 := by omega
 refine loop_intro (α := Nat) (fun i => ⟨[(58, I i), (57, I k), (0, ressV l), (1, I id), (2, I k), (6, .ptr 384 0), (10, .ptr 640 0)], [(384, zeroSite), (640, siteL id k (.sl (.own 4160 0) 3 (List.replicate i lnk)))]⟩) (fun i => i ≤ k) (fun i => k - i) 0 (by omega) (Imp.weak (by simp (disch := omega) only [go_sem]) (by simp (disch := omega) only [go_sem, List.replicate_zero])) ?_
 rintro i hi J hJ
 have hri : (List.replicate i lnk).length ≤ 4 := by simp; omega
 simp (disch := omega) only [go_sem]
 refine And.intro (fun hlt => ?_) (fun hge => ?_)
 ·refine draw_all (let o0 : OT := .done; let o1 : OT := .pick [(8, o0)]; let o2 : OT := .pick [(7, o1)]; let o3 : OT := .pick [(6, o2)]; let o4 : OT := .pick [(5, o3)]; let o5 : OT := .pick [(4, o4)]; let o6 : OT := .pick [(3, o5)]; let o7 : OT := .pick [(2, o4)]; let o8 : OT := .pick [(2, o5), (4, o7)]; let o9 : OT := .pick [(2, o6), (3, o8)]; let o10 : OT := .pick [(1, o7)]; let o11 : OT := .pick [(1, o8), (4, o10)]; let o12 : OT := .pick [(1, o9), (3, o11)]; let o13 : OT := .pick [(0, o10)]; let o14 : OT := .pick [(0, o11), (4, o13)]; let o15 : OT := .pick [(0, o12), (3, o14)]; o15) fol (by kernel_rfl) ?_
  simp (disch := omega) only [go_sem]
  have step : ∀ st', Imp ⟨C0, []⟩ st' ⟨[(58, I (i + 1 : Nat)), (57, I k), (0, ressV l), (1, I id), (2, I k), (6, .ptr 384 0), (10, .ptr 640 0)], [(384, zeroSite), (640, siteL id k (.sl (.own 4160 0) 3 (List.replicate i lnk ++ [lnk])))]⟩ → J st' := fun st' h => by
   refine hJ st' (i + 1) (by simp at hlt; omega) (by simp at hlt; omega) ?_
   rw [List.replicate_succ']
   exact h
  clear hJ
  repeat' (first | (with_reducible refine And.intro ?_ ?_) | (refine call1 f14_ok ?_; (try simp (disch := omega) only [go_sem])))
  all_goals (refine step _ (Imp.weak ?_ ?_))
  all_goals (simp (disch := omega) only [go_sem])
 have hil : i = k := by simp at hge; omega
 subst hil
 clear hJ hge
 refine call1 (f15_ok l id hc p3 (by omega)) ?_
 simp (disch := omega) only [go_sem]
 refine call1 (f16_ok id p3 (by omega)) ?_
 simp (disch := omega) only [go_sem]
 have hd := f17_ok id i hp
 rw [detC_eq] at hd
 rw [siteC_eq]
 refine call1 hd ?_
 simp (disch := omega) only [go_sem]
 refine loop_intro (α := Nat) (fun j => ⟨[(94, I j), (93, .agg [I 0, I 0, I 0]), (6, .ptr 384 0), (10, .ptr 640 0)], [(384, zeroSite), (640, siteX id i (newQs (atR l id)) (.sl (.own 4160 0) 3 (List.replicate i lnk)))]⟩) (fun j => j ≤ 3) (fun j => 3 - j) 0 (by omega) imp1 ?_
 rintro j hj J hJ
 obtain rfl | rfl | rfl | rfl : j = 0 ∨ j = 1 ∨ j = 2 ∨ j = 3 := by omega
 ·simp (disch := omega) only [go_sem]
  exact hJ _ 1 (by omega) (by omega) imp1
 ·simp (disch := omega) only [go_sem]
  exact hJ _ 2 (by omega) (by omega) imp1
 ·simp (disch := omega) only [go_sem]
  exact hJ _ 3 (by omega) (by omega) imp1
 simp (disch := omega) only [go_sem]
 refine ret2 ⟨[], [], [4160]⟩ _ ?_
 simp (disch := omega) only [go_sem]
end Go.Rd
open Go Go.Abs Go.Proofs
set_option maxRecDepth 100000
namespace Go.Rd
def siteM (id n : Int) (q links : AV) : List AV := [I id, I n, B true, I 1, q, nilS, links, I 0, I 0, I 0, I 0, I 0, I 0, nilS, I 0, B false, B false, nilS, B false, B false, B false, I 0, I 0, I 0, I 0, nilS, nilS, nilS, nilS, nilS, nilS, nilS, nilS, nilS, nilS, I 0, I 0]
attribute [go_sem] siteM
theorem f6_ok (l : List Res) (id n : Int) : FnOK C0 6 [ressV l, I id, I n] [] (.tup [siteV l id n, I (siteE l id n)]) [] := by
 by_cases hc : catOK l = true
 rotate_left
 ·have e : newOK l id n = false := by simp [newOK, hc]
  have hf := f18_ok l
  rw [Bool.eq_false_iff.2 hc] at hf
  rw [ret_zero e]
  refine FnOK.go Tryz.f6 ?_
  unfold Tryz.f6
  simp (disch := omega) only [go_sem]
  refine call1 hf ?_
  simp (disch := omega) only [go_sem]
  refine ret1 _ ?_
  simp (disch := omega) only [go_sem]
 have hl := catOK_len hc
 by_cases hp : properB id n = true
 rotate_left
 ·have e : newOK l id n = false := by simp [newOK, hp]
  have hf := f19_ok id n
  rw [Bool.eq_false_iff.2 hp] at hf
  rw [ret_zero e]
  refine FnOK.go Tryz.f6 ?_
  unfold Tryz.f6
  simp (disch := omega) only [go_sem]
  refine call1 (f18_t hc) ?_
  simp (disch := omega) only [go_sem]
  refine call1 hf ?_
  simp (disch := omega) only [go_sem]
  refine ret1 _ ?_
  simp (disch := omega) only [go_sem]
 obtain ⟨p1, p2, p3, p4⟩ := properB_iff.1 hp
 refine FnOK.go Tryz.f6 ?_
 unfold Tryz.f6
 simp (disch := omega) only [go_sem]
 refine call1 (f18_t hc) ?_
 simp (disch := omega) only [go_sem]
 refine call1 (f19_t hp) ?_
 simp (disch := omega) only [go_sem]
 refine loop_intro (α := Nat) (fun i => ⟨[(24, I i), (23, I l.length), (22, ressV l), (6, .ptr 384 0), (7, I 0), (0, ressV l), (1, I id), (2, I n)], [(384, zeroSite)]⟩) (fun i => i ≤ (l).length ∧ (l.take i).all (homeB n) = true) (fun i => (l).length - i) 0 ⟨by omega, rfl⟩ ?_ ?_
 ·refine Imp.weak ?_ ?_
  all_goals (try simp (disch := omega) only [go_sem])
  all_goals (try (repeat' (with_reducible apply And.intro)))
  all_goals (first | exact .nilOwn (by omega) | exact .nilNo (by omega) | exact .sl (by simp []) | exact .int (by simp []) | exact .eq (by simp []))
 rintro i ⟨hi, hP⟩ J hJ
 simp (disch := omega) only [go_sem]
 refine And.intro (fun hlt => ?_) (fun hge => ?_)
 rotate_left
 have hil : i = (l).length := by simp at hge; omega
 rotate_left
 obtain ⟨b, hb⟩ : ∃ b, (l)[i]? = some b := ⟨_, List.getElem?_eq_getElem (by simp at hlt; omega)⟩
 have hbm := List.mem_of_getElem? hb
 simp (disch := omega) only [go_sem, List.getElem?_map, hb]
 ·by_cases hb' : homeB n b = true
  rotate_left
  ·have e : newOK l id n = false := by
    have : homesOK l n = false := all_false hbm (by simpa [homeB] using hb')
    simp [newOK, this]
   have hb2 : 0 ≤ b.home → n ≤ b.home := fun h1 => by
    rcases Int.lt_or_le b.home n with h | h
    ·exact absurd (by simp [homeB, h1, h]) hb'
    ·exact h
   rw [ret_zero e]
   simp (disch := omega) only [go_sem]
   repeat' (with_reducible refine And.intro (fun h => ?_) (fun h => ?_))
   all_goals first
    | (exfalso; simp at *; omega)
    | (refine ret1 _ ?_
       simp (disch := omega) only [go_sem])
  ·have hb2 : 0 ≤ b.home ∧ b.home < n := by simpa [homeB] using hb'
   simp (disch := omega) only [go_sem, eq_false (show ¬ b.home < 0 by omega), eq_false (show ¬ n ≤ b.home by omega)]
   refine hJ _ (i + 1) ⟨by simp at hlt; omega, by rw [all_take hb, hP, hb']; rfl⟩ (by simp at hlt; omega) imp1
 subst hil
 rw [List.take_length] at hP
 have e : newOK l id n = true := by
  have h2 : homesOK l n = true := hP
  simp [newOK, hc, hp, h2]
 have er : AV.tup [siteV l id n, I (siteE l id n)] = .tup [.agg (siteC l id n n.toNat (detC id)), I 0] := by simp [siteV, siteE, e]
 rw [er]
 clear hJ hi hge
 obtain ⟨k, rfl⟩ : ∃ k : Nat, n = k := ⟨n.toNat, by omega⟩
 rw [Int.toNat_natCast]
 have hk : k ≤ 4 := by omega
 refine call1 (f20_ok l id hc p3 (by omega)) ?_
 simp (disch := omega) only [go_sem]
 refine loop_intro (α := Nat) (fun i => ⟨[(11, I i), (0, ressV l), (1, I id), (2, I k), (6, .ptr 384 0), (10, .ptr 640 0)], [(384, zeroSite), (640, siteM id k (newQs (atR l id)) (.sl (.own 3968 0) 3 (List.replicate i lnk)))]⟩) (fun i => i ≤ k) (fun i => k - i) 0 (by omega) (Imp.weak (by simp (disch := omega) only [go_sem]) (by simp (disch := omega) only [go_sem, List.replicate_zero])) ?_
 rintro i hi J hJ
 have hri : (List.replicate i lnk).length ≤ 4 := by simp; omega
 simp (disch := omega) only [go_sem]
 refine And.intro (fun hlt => ?_) (fun hge => ?_)
 ·refine draw_all (let o0 : OT := .done; let o1 : OT := .pick [(8, o0)]; let o2 : OT := .pick [(7, o1)]; let o3 : OT := .pick [(6, o2)]; let o4 : OT := .pick [(5, o3)]; let o5 : OT := .pick [(4, o4)]; let o6 : OT := .pick [(3, o5)]; let o7 : OT := .pick [(2, o4)]; let o8 : OT := .pick [(2, o5), (4, o7)]; let o9 : OT := .pick [(2, o6), (3, o8)]; let o10 : OT := .pick [(1, o7)]; let o11 : OT := .pick [(1, o8), (4, o10)]; let o12 : OT := .pick [(1, o9), (3, o11)]; let o13 : OT := .pick [(0, o10)]; let o14 : OT := .pick [(0, o11), (4, o13)]; let o15 : OT := .pick [(0, o12), (3, o14)]; o15) fol (by kernel_rfl) ?_
  simp (disch := omega) only [go_sem]
  have step : ∀ st', Imp ⟨C0, []⟩ st' ⟨[(11, I (i + 1 : Nat)), (0, ressV l), (1, I id), (2, I k), (6, .ptr 384 0), (10, .ptr 640 0)], [(384, zeroSite), (640, siteM id k (newQs (atR l id)) (.sl (.own 3968 0) 3 (List.replicate i lnk ++ [lnk])))]⟩ → J st' := fun st' h => by
   refine hJ st' (i + 1) (by simp at hlt; omega) (by simp at hlt; omega) ?_
   rw [List.replicate_succ']
   exact h
  clear hJ
  repeat' (first | (with_reducible refine And.intro ?_ ?_) | (refine call1 f21_ok ?_; (try simp (disch := omega) only [go_sem])))
  all_goals (refine step _ (Imp.weak ?_ ?_))
  all_goals (simp (disch := omega) only [go_sem])
 have hil : i = k := by simp at hge; omega
 subst hil
 clear hJ hge
 refine call1 (f22_ok id p3 (by omega)) ?_
 simp (disch := omega) only [go_sem]
 have hd := f23_ok id i hp
 rw [detC_eq] at hd
 rw [siteC_eq]
 refine call1 hd ?_
 simp (disch := omega) only [go_sem]
 refine ret2 ⟨[], [], [3968]⟩ _ ?_
 simp (disch := omega) only [go_sem]
end Go.Rd
open Go Go.Abs Go.Proofs
set_option maxRecDepth 100000
namespace Go.Rd
def machOK (l : List Res) (n : Int) : Bool := catOK l && decide (1 ≤ n) && decide (n ≤ 4) && homesOK l n
theorem newOK_yes {l : List Res} {n j : Int} (h : machOK l n = true) (h0 : 0 ≤ j) (h1 : j < n) : newOK l j n = true := by
 simp only [machOK, Bool.and_eq_true, decide_eq_true_eq] at h
 obtain ⟨⟨⟨a, b⟩, c⟩, d⟩ := h
 simp only [newOK, Bool.and_eq_true, a, d, and_true, true_and]
 exact properB_iff.2 ⟨b, c, h0, h1⟩
theorem newOK_no {l : List Res} {n : Int} (h : machOK l n = false) (h1 : 1 ≤ n) (h4 : n ≤ 4) (j : Int) : newOK l j n = false := by
 cases hc : newOK l j n with
 | false => rfl
 | true =>
  simp only [newOK, Bool.and_eq_true] at hc
  simp [machOK, hc.1.1, hc.2, h1, h4] at h
def siteRow (l : List Res) (k j : Nat) : List AV := siteX j k (newQs (atR l j)) (.sl .no 3 (List.replicate k lnk))
attribute [go_sem] siteRow
@[reducible] def sitesL (l : List Res) (k i : Nat) : List (List AV) := (List.range i).map (siteRow l k)
theorem f5_yes {l : List Res} {k i : Nat} (h : machOK l k = true) (hi : i < k) : FnOK C0 5 [ressV l, I i, I k] [] (.tup [.agg (siteRow l k i), I 0]) [] := by
 have := f5_ok l i k
 have e := newOK_yes (j := i) h (by omega) (by omega)
 simp only [siteV, siteE, e, if_true, siteC_eq, Int.toNat_natCast] at this
 exact this
theorem f5_no {l : List Res} {k i : Nat} (h : machOK l k = false) (h1 : 1 ≤ k) (h4 : k ≤ 4) : FnOK C0 5 [ressV l, I i, I k] [] (.tup [.agg zeroSite, I 1]) [] := by
 have := f5_ok l i k
 have e := newOK_no h (by omega) (by omega) i
 simp only [siteV, siteE, e, Bool.false_eq_true, if_false] at this
 exact this
theorem f6_yes {l : List Res} {k i : Nat} (h : machOK l k = true) (hi : i < k) : FnOK C0 6 [ressV l, I i, I k] [] (.tup [.agg (siteRow l k i), I 0]) [] := by
 have := f6_ok l i k
 have e := newOK_yes (j := i) h (by omega) (by omega)
 simp only [siteV, siteE, e, if_true, siteC_eq, Int.toNat_natCast] at this
 exact this
theorem f6_no {l : List Res} {k i : Nat} (h : machOK l k = false) (h1 : 1 ≤ k) (h4 : k ≤ 4) : FnOK C0 6 [ressV l, I i, I k] [] (.tup [.agg zeroSite, I 1]) [] := by
 have := f6_ok l i k
 have e := newOK_no h (by omega) (by omega) i
 simp only [siteV, siteE, e, Bool.false_eq_true, if_false] at this
 exact this
def machC (l : List Res) (k : Nat) : List AV := [ressV l, .sl .no 37 (sitesL l k k), .sl .no 1 (List.replicate (k * k) [nilS])]
def machV (l : List Res) (n : Int) : AV := .agg (if machOK l n then machC l n.toNat else [nilS, nilS, nilS])
def machE (l : List Res) (n : Int) : Int := if machOK l n then 0 else 1
end Go.Rd

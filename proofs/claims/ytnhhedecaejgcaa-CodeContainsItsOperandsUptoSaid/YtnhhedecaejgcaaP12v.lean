/- The plain form of Verify: what the program does, and what the reference does. -/
import Derived.Test.YtnhhedecaejgcaaP12
namespace Go.Proofs.Ytnhhedecaejgcaa

def insAt (l : List Term) (i : Int) : Term := l.getD i.toNat default
def ig (hs : List Int) (i : Int) : Int := hs.getD i.toNat 0

theorem insAt_get {l : List Term} {k : Nat} (h : k < l.length) : insAt l (k : Int) = l[k] := by
  unfold insAt; rw [List.getD_eq_getElem?_getD]; simp [h]
theorem ig_get {l : List Int} {k : Nat} (h : k < l.length) : ig l (k : Int) = l[k] := by
  unfold ig; rw [List.getD_eq_getElem?_getD]; simp [h]

/- The program. -/
def boundsV (v : Int) : List Int := [0, -1, -1073741824, 1073741824, 0, v - 1, 0, v - 1, 6, 17, 18, 19, 30, 42, 0, 1024, 0, 1024, 0, 1024, 20, 29]
def knownF (x : Term) (v : Int) : Bool :=
  decide (1 ≤ x.op ∧ x.op ≤ 10) && !(decide (x.op = 4) && decide (x.arg = 12)) && decide ((boundsV v).getD (x.op.toNat * 2) 0 ≤ x.arg) && decide (x.arg ≤ (boundsV v).getD (x.op.toNat * 2 + 1) 0)
def needsF (x : Term) : Bool := decide (x.op = 3 ∨ (x.op = 4 ∧ 11 ≤ x.arg))
abbrev Tr := Int × Int × Int
def innerF (tr : List Tr) (n : Int) : Tr := tr.getLastD (-1, n, 0)
def eachF (l : List Term) (tr : List Tr) (i : Int) (x : Term) : Bool :=
  decide (x.op ≠ 9) || (decide (i < x.arg) && decide (x.arg < l.length) && decide ((insAt l x.arg).op = 10) && decide (tr.length < 2) && decide (x.arg < (innerF tr l.length).2.1))
def nextF (l : List Term) (tr : List Tr) (i : Int) (x : Term) (h : Int) : Bool :=
  decide (x.op ≠ 10) || (decide ((innerF tr l.length).2.1 = i) && decide (h = (innerF tr l.length).2.2 + 1))
def clearF (l : List Term) (i a : Int) : Bool := ((l.drop (i + 1).toNat).take (a - (i + 1)).toNat).all fun y => !(decide (y.op = 9) && decide (a ≤ y.arg))
def jumpF (l : List Term) (tr : List Tr) (i : Int) (x : Term) : Bool :=
  decide (x.op ≠ 7 ∧ x.op ≠ 8) || (decide (i < x.arg) && decide (x.arg ≤ (innerF tr l.length).2.1) && clearF l i x.arg)

/-- Heights that are given: places and heights. -/
def giveF : List Int → List Term → Option (List Int)
  | hs, [] => some hs
  | hs, g :: gs => if 0 ≤ ig hs g.op ∧ ig hs g.op ≠ g.arg then none else giveF (hs.set g.op.toNat g.arg) gs
def mostF : Int → List Term → Option Int
  | m, [] => some m
  | m, g :: gs => if 64 < g.arg then none else mostF (max m g.arg) gs
def giftsF (x : Term) (i h : Int) : List Term :=
  if x.op = 1 ∨ x.op = 2 ∨ x.op = 3 ∨ x.op = 4 then [⟨i + 1, h + 1⟩] else if x.op = 6 then [⟨i + 1, h - 1⟩] else if x.op = 7 then [⟨i + 1, h - 1⟩, ⟨x.arg, h - 1⟩]
  else if x.op = 8 then [⟨x.arg, h⟩] else if x.op = 9 then [⟨i + 1, h⟩, ⟨x.arg + 1, h + 1⟩] else [⟨i + 1, h⟩]
def wantsF (op : Int) : Int := if op = 5 ∨ op = 7 then 1 else if op = 6 then 2 else 0

def trNext (x : Term) (i h : Int) (tr : List Tr) : List Tr := if x.op = 9 then tr ++ [(i, x.arg, h)] else if x.op = 10 then tr.dropLast else tr

/-- What the program checks ahead of an instruction's effect. -/
def checksF (l : List Term) (v : Int) (tr : List Tr) (i : Int) (x : Term) (h : Int) : Bool :=
  decide (0 ≤ h) && knownF x v && !(needsF x && tr.isEmpty) && decide (wantsF x.op ≤ h) && eachF l tr i x && nextF l tr i x h && jumpF l tr i x

/-- Heights given, and the greatest one. -/
def giveR (hs : List Int) (most : Int) (gs : List Term) : Option (List Int × Int) × Int :=
  match giveF hs gs with
  | none => (none, 7)
  | some hs' => match mostF most gs with
    | none => (none, 3)
    | some m => (some (hs', m), 0)

def stepP (l : List Term) (v : Int) (i : Nat) (hs : List Int) (tr : List Tr) (most : Int) : Option (List Int × List Tr × Int) × Int :=
  if checksF l v tr i (insAt l i) (ig hs i) = false then (none, 7)
  else match giveR hs most (giftsF (insAt l i) i (ig hs i)) with
    | (some (hs', m), _) => (some (hs', trNext (insAt l i) i (ig hs i) tr, m), 0)
    | (none, e) => (none, e)

def verGo (l : List Term) (v : Int) : Nat → Nat → List Int → List Tr → Int → Int × Int × Int
  | 0, _, hs, _, most => if ig hs l.length ≠ 1 then (0, l.length, 7) else (most, 0, 0)
  | n + 1, i, hs, tr, most => match stepP l v i hs tr most with
    | (some (hs', tr', m'), _) => verGo l v n (i + 1) hs' tr' m'
    | (none, e) => (0, i, e)

def verifyF (l : List Term) (vars : Int) : Int × Int × Int :=
  if l.length = 0 ∨ 1024 < l.length then (0, 0, 3) else verGo l (max vars 0) l.length 0 (0 :: List.replicate l.length (-1)) [] 0

end Go.Proofs.Ytnhhedecaejgcaa

/- What the functions that are taken by contracts of this claim's own answer, as plain functions on lists: no program in sight. No condition. Small words for the texts that a program wrote. No condition. -/
import Derived.Test.YtidihnnkcmeaeaaA0
namespace Go.Proofs.Ytidihnnkcmeaeaa.A
open Go.RowKit Go.Proofs.YtidihnnkcmeaeaaW.PrintWords Go.Proofs.YtidihnnkcmeaeaaW.PrintLast
def opOk (o : S70) : Bool := ((o.f0 == 1 || o.f0 == 3) && decide (1 ≤ o.f1) && o.f2.size == 0) || (o.f0 == 2 && o.f1 == 0 && o.f2.size != 0)
def nbOk (a b : S70) : Bool := a.f0 != b.f0 && !(a.f0 == 3 && b.f0 == 2)
def hdOk (a : S70) : List S70 → Bool
 | [] => true
 | b :: _ => nbOk a b
def chainOk : List S70 → Bool
 | [] => true
 | a :: d => opOk a && hdOk a d && chainOk d
def fromOf : List S70 → Int
 | [] => 0
 | o :: d => (if o.f0 = 2 then 0 else o.f1) + fromOf d
def toOf : List S70 → Int
 | [] => 0
 | o :: d => (if o.f0 = 2 then (o.f2.size : Int) else if o.f0 = 3 then 0 else o.f1) + toOf d
def canB (d : List S70) : Bool := chainOk d && decide (fromOf d ≤ 268435456) && decide (toOf d ≤ 268435456)
def ap {α : Type} (g : ByteArray → List α) : List S70 → List α → List α
 | [], _ => []
 | o :: d, xs => if o.f0 = 2 then g o.f2 ++ ap g d xs else if o.f0 = 1 then xs.take o.f1.toNat ++ ap g d (xs.drop o.f1.toNat) else ap g d (xs.drop o.f1.toNat)
abbrev noText : ByteArray := ⟨#[]⟩
structure Bs where
 out : List S70
 last : Int
 put : ByteArray
 drop : Int
def Bs.new : Bs := ⟨[], 0, noText, 0⟩
def Bs.flush (b : Bs) : Bs :=
 ⟨(if 0 < b.put.size then b.out ++ [(⟨2, 0, b.put⟩ : S70)] else b.out) ++ (if 0 < b.drop then [(⟨3, b.drop, noText⟩ : S70)] else []), b.last, noText, 0⟩
def growLast (l : List S70) (n : Int) : List S70 := l.set (l.length - 1) ⟨(l.getD (l.length - 1) z70).f0, (l.getD (l.length - 1) z70).f1 + n, (l.getD (l.length - 1) z70).f2⟩
def Bs.onKeep (b : Bs) (n : Int) : Bs :=
 if n = 0 then b
 else if b.last = 1 then ⟨growLast b.out n, 1, b.put, b.drop⟩
 else if b.last = 2 then ⟨b.flush.out ++ [(⟨1, n, noText⟩ : S70)], 1, noText, 0⟩
 else ⟨b.out ++ [(⟨1, n, noText⟩ : S70)], 1, b.put, b.drop⟩
def Bs.onPut (b : Bs) (s : ByteArray) : Bs := if s.size = 0 then b else ⟨b.out, 2, b.put ++ s, b.drop⟩
def Bs.onDrop (b : Bs) (n : Int) : Bs := if 0 < n then ⟨b.out, 2, b.put, b.drop + n⟩ else b
def Bs.done (b : Bs) : List S70 := b.flush.out
def Bs.step (b : Bs) (o : S70) : Bs := if o.f0 = 2 then b.onPut o.f2 else if o.f0 = 1 then b.onKeep o.f1 else b.onDrop o.f1
def canon (d : List S70) : List S70 := (d.foldl Bs.step Bs.new).done
def kindOk (o : S70) : Bool := decide (1 ≤ o.f0) && decide (o.f0 ≤ 3) && (o.f0 == 2 || decide (0 ≤ o.f1))
def delta_Canon.f (l0 : List S70) : Option (List S70 × Int) :=
 some (if l0.all kindOk then (if fromOf l0 ≤ 268435456 ∧ toOf l0 ≤ 268435456 then (canon l0, 0) else ([], 5)) else ([], 130))
def delta_Apply.f (l0 : List Int) (l1 : List S70) : Option (List Int × Int) :=
 some (if canB l1 then (if fromOf l1 = (l0.length : Int) then (ap bytesOf l1 l0, 0) else ([], 131)) else ([], 130))
def invOps : List S70 → List Int → List S70
 | [], _ => []
 | o :: d, xs => if o.f0 = 2 then (⟨3, (o.f2.size : Int), noText⟩ : S70) :: invOps d xs
  else if o.f0 = 1 then (⟨1, o.f1, noText⟩ : S70) :: invOps d (xs.drop o.f1.toNat)
  else (⟨2, 0, strOfNums (xs.take o.f1.toNat)⟩ : S70) :: invOps d (xs.drop o.f1.toNat)
def delta_Invert.f (l0 : List Int) (l1 : List S70) : Option (List S70 × Int) :=
 some (if canB l1 then (if fromOf l1 = (l0.length : Int) then (canon (invOps l1 l0), 0) else ([], 131)) else ([], 130))
def ofOps (n : Int) : Int → List S91 → List S70
 | at_, [] => [(⟨1, n - at_, noText⟩ : S70)]
 | at_, c :: cs => (⟨1, c.f0 - at_, noText⟩ : S70) :: (⟨2, 0, c.f2⟩ : S70) :: (⟨3, c.f1 - c.f0, noText⟩ : S70) :: ofOps n c.f1 cs
def risesFrom : Int → List S91 → Bool
 | _, [] => true
 | at_, c :: cs => decide (at_ ≤ c.f0) && risesFrom c.f1 cs
def putsOf : List S91 → Int
 | [] => 0
 | c :: cs => (c.f2.size : Int) + putsOf cs
def growsBy : List S91 → Int
 | [] => 0
 | c :: cs => (c.f2.size : Int) - (c.f1 - c.f0) + growsBy cs
def inRange (n : Int) (c : S91) : Bool := decide (0 ≤ c.f0) && decide (c.f0 ≤ c.f1) && decide (c.f1 ≤ n)
def delta_Of.f (a0 : Int) (l1 : List S91) : Option (List S70 × Int) :=
 if putsOf l1 ≤ 549755813888 then
  some (if 0 ≤ a0 ∧ a0 ≤ 268435456 then (if l1.all (inRange a0) then (if risesFrom 0 l1 then (if a0 + growsBy l1 ≤ 268435456 then (canon (ofOps a0 0 l1), 0) else ([], 5)) else ([], 120)) else ([], 2)) else ([], 2))
 else none
def chgFrom : Int → Bool → List S91 → List S70 → List S91
 | _, _, out, [] => out
 | at_, open_, out, o :: d =>
  if o.f0 = 1 then chgFrom (at_ + o.f1) false out d
  else
   let out1 := if open_ then out else out ++ [(⟨at_, at_, noText⟩ : S91)]
   let c := out1.getD (out1.length - 1) z91
   if o.f0 = 2 then chgFrom at_ true (out1.set (out1.length - 1) ⟨c.f0, c.f1, c.f2 ++ o.f2⟩) d
   else chgFrom (at_ + o.f1) true (out1.set (out1.length - 1) ⟨c.f0, at_ + o.f1, c.f2⟩) d
def delta_Changes.f (l0 : List S70) : Option (List S91 × Int) :=
 some (if canB l0 then (chgFrom 0 false [] l0, 0) else ([], 130))
def thr (keep : Bool) : Int → List S70 → List S70 × List S70
 | _, [] => ([], [])
 | n, o :: a =>
  if n ≤ 0 then ([], o :: a)
  else if o.f0 = 3 then ((⟨3, o.f1, noText⟩ : S70) :: (thr keep n a).1, (thr keep n a).2)
  else if o.f0 = 2 then
   (if (o.f2.size : Int) ≤ n then ((if keep then (⟨2, 0, o.f2⟩ : S70) else ⟨2, 0, noText⟩) :: (thr keep (n - (o.f2.size : Int)) a).1, (thr keep (n - (o.f2.size : Int)) a).2)
   else ([if keep then (⟨2, 0, o.f2.extract 0 n.toNat⟩ : S70) else ⟨2, 0, noText⟩], (⟨2, 0, o.f2.extract n.toNat o.f2.size⟩ : S70) :: a))
  else
   (if o.f1 ≤ n then ((⟨if keep then 1 else 3, o.f1, noText⟩ : S70) :: (thr keep (n - o.f1) a).1, (thr keep (n - o.f1) a).2)
   else ([(⟨if keep then 1 else 3, n, noText⟩ : S70)], (⟨1, o.f1 - n, noText⟩ : S70) :: a))
def compOps : List S70 → List S70 → List S70
 | a, [] => a.map fun o => (⟨3, o.f1, noText⟩ : S70)
 | a, o :: b => if o.f0 = 2 then (⟨2, 0, o.f2⟩ : S70) :: compOps a b else (thr (o.f0 == 1) o.f1 a).1 ++ compOps (thr (o.f0 == 1) o.f1 a).2 b
def delta_Compose.f (l0 l1 : List S70) : Option (List S70 × Int) :=
 some (if canB l0 && canB l1 then (if fromOf l1 = toOf l0 then (canon (compOps l0 l1), 0) else ([], 131)) else ([], 130))
def overOps (first : Bool) : Nat → List S70 → Int → List S70 → Int → List S70
 | 0, _, _, _, _ => []
 | k + 1, a, x, b, y =>
  match a, b with
  | [], [] => []
  | [], q :: b => if q.f0 = 2 then q :: overOps first k [] x b y else []
  | p :: a, [] => if p.f0 = 2 then (⟨1, (p.f2.size : Int), noText⟩ : S70) :: overOps first k a x [] y else []
  | p :: a, q :: b =>
   if q.f0 = 2 ∧ (first = true ∨ p.f0 ≠ 2) then q :: overOps first k (p :: a) x b y
   else if p.f0 = 2 then (⟨1, (p.f2.size : Int), noText⟩ : S70) :: overOps first k a x (q :: b) y
   else
    let n := if q.f1 - y < p.f1 - x then q.f1 - y else p.f1 - x
    (if p.f0 = 1 then [(⟨q.f0, n, noText⟩ : S70)] else []) ++
     overOps first k (if x + n = p.f1 then a else p :: a) (if x + n = p.f1 then 0 else x + n) (if y + n = q.f1 then b else q :: b) (if y + n = q.f1 then 0 else y + n)
def shift_Over.f (l0 l1 : List S70) (a2 : Bool) : Option (List S70 × Int) :=
 if canB l0 && canB l1 then (if fromOf l0 = fromOf l1 then delta_Canon.f (overOps a2 (l0.length + l1.length + 1) l0 0 l1 0) else some ([], 131)) else some ([], 130)
end Go.Proofs.Ytidihnnkcmeaeaa.A
namespace Go.Proofs.Ytidihnnkcmeaeaa.A
theorem isEmpty_bne (l : List UInt8) : l.isEmpty = !(l != []) := by cases l <;> rfl
end Go.Proofs.Ytidihnnkcmeaeaa.A

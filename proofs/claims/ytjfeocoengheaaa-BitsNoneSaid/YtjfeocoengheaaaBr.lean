/- Rows of bits in an arena: how an arena holds one; what the ways of package bits do to it, step by step, as plain relations. -/
import Derived.Test.YtjfeocoengheaaaGd
import Derived.Test.YtjfeocoengheaaaBt
namespace Go.Proofs.Ytjfeocoengheaaa
set_option maxRecDepth 100000

/-- What is seen at a handle. -/
inductive View where
  | none
  | leaf (l : List Bool)
  | fork (k0 k1 : Int) (m o : Nat)
def View.len : View → Nat
  | .none => 0
  | .leaf l => l.length
  | .fork _ _ m _ => m
def View.ones : View → Nat
  | .none => 0
  | .leaf l => l.count true
  | .fork _ _ _ o => o
def View.small : View → Bool
  | .leaf l => decide (l.length < 16)
  | _ => false
def Vw (s : Ar) (h : Int) : View → Prop
  | .none => (s.get h).2 = false ∨ (0 < s.count h ∧ (s.get h).1.tag ≠ 1 ∧ (s.get h).1.tag ≠ 2)
  | .leaf l => s.get h = (⟨1, 0, 0, 0, 0, (bN l : Int), (l.length : Int)⟩, true) ∧ 0 < s.count h ∧ l.length ≤ 64
  | .fork k0 k1 m o => s.get h = (⟨2, k0, k1, 0, 0, (m : Int), (o : Int)⟩, true) ∧ 0 < s.count h ∧ m ≤ 1000000 ∧ o ≤ 1000000
def View.big (v : View) : Prop := v.len ≤ 1000000 ∧ v.ones ≤ 1000000
theorem Vw.big {s : Ar} {h : Int} {v : View} (x : Vw s h v) : v.big := by
  cases v with
  | none => exact ⟨Nat.zero_le _, Nat.zero_le _⟩
  | leaf l =>
    have h1 : l.length ≤ 64 := x.2.2
    have h2 : l.count true ≤ l.length := List.count_le_length
    exact ⟨by show l.length ≤ _; omega, by show l.count true ≤ _; omega⟩
  | fork k0 k1 m o => exact x.2.2

def leafN (l : List Bool) : Nd := ⟨1, 0, 0, 0, 0, (bN l : Int), (l.length : Int)⟩
def forkN (x y : Int) (m o : Nat) : Nd := ⟨2, x, y, 0, 0, (m : Int), (o : Int)⟩
/-- How high a row is. -/
inductive High (s : Ar) : Int → Nat → Prop where
  | none {h : Int} : Vw s h .none → High s h 0
  | leaf {h : Int} {l : List Bool} : Vw s h (.leaf l) → High s h 1
  | fork {h k0 k1 : Int} {m o a b : Nat} : Vw s h (.fork k0 k1 m o) → High s k0 a → High s k1 b → a ≤ 1000 → b ≤ 1000 → High s h (1 + max a b)
structure Leafs (s : Ar) (e : Int) (l : List Bool) (s' : Ar) (e' r : Int) : Prop where
  len : l.length ≤ 64
  snd : Snd s
  eq : nodeF s e (leafN l) = (s', e', r)
structure Pair (s : Ar) (e x y : Int) (s' : Ar) (e' r : Int) : Prop where
  ex : ∃ vx vy, Vw s x vx ∧ Vw s y vy ∧ nodeF s e (forkN x y (vx.len + vy.len) (vx.ones + vy.ones)) = (s', e', r)
  snd : Snd s
inductive PairOr (s : Ar) (e x y : Int) : Ar → Int → Int → Prop where
  | err : e ≠ 0 → Snd s → PairOr s e x y (s.drops [x, y]) e 0
  | pair {s' : Ar} {e' r : Int} : e = 0 → Pair s e x y s' e' r → PairOr s e x y s' e' r
structure Open (s : Ar) (h : Int) (s' : Ar) (k0 k1 : Int) : Prop where
  vw : ∃ m o, Vw s h (.fork k0 k1 m o)
  snd : Snd s
  eq : s' = (((s.keep k0).1.keep k1).1.drop h).1
inductive Fork (s : Ar) (e x y : Int) : Ar → Int → Int → Prop where
  | err : e ≠ 0 → Snd s → Fork s e x y (s.drops [x, y]) e 0
  | even {p q : Nat} {s' : Ar} {e' r : Int} : e = 0 → Snd s → High s x p → High s y q → p ≤ 1000 → q ≤ 1000 → p ≤ q + 1 → q ≤ p + 1 → Pair s 0 x y s' e' r → Fork s e x y s' e' r
  | l1 {p q a b : Nat} {u v : Int} {s1 s2 s' : Ar} {e2 e' z r : Int} : e = 0 → Snd s → High s x p → High s y q → p ≤ 1000 → q ≤ 1000 → q + 1 < p → Open s x s1 u v → Snd s1 → High s1 u a → High s1 v b → a ≤ 1000 → b ≤ 1000 → b ≤ a →
      Pair s1 0 v y s2 e2 z → Pair s2 e2 u z s' e' r → Fork s e x y s' e' r
  | l2 {p q a b' : Nat} {u v b c : Int} {s1 s2 s3 s4 s' : Ar} {e3 e4 e' z1 z2 r : Int} : e = 0 → Snd s → High s x p → High s y q → p ≤ 1000 → q ≤ 1000 → q + 1 < p → Open s x s1 u v → Snd s1 → High s1 u a → High s1 v b' → a ≤ 1000 → b' ≤ 1000 → a < b' →
      Open s1 v s2 b c → Pair s2 0 u b s3 e3 z1 → Pair s3 e3 c y s4 e4 z2 → Pair s4 e4 z1 z2 s' e' r → Fork s e x y s' e' r
  | r1 {p q a b : Nat} {u v : Int} {s1 s2 s' : Ar} {e2 e' z r : Int} : e = 0 → Snd s → High s x p → High s y q → p ≤ 1000 → q ≤ 1000 → p + 1 < q → Open s y s1 u v → Snd s1 → High s1 u a → High s1 v b → a ≤ 1000 → b ≤ 1000 → a ≤ b →
      Pair s1 0 x u s2 e2 z → Pair s2 e2 z v s' e' r → Fork s e x y s' e' r
  | r2 {p q a b' : Nat} {u v b c : Int} {s1 s2 s3 s4 s' : Ar} {e3 e4 e' z1 z2 r : Int} : e = 0 → Snd s → High s x p → High s y q → p ≤ 1000 → q ≤ 1000 → p + 1 < q → Open s y s1 u v → Snd s1 → High s1 u a → High s1 v b' → a ≤ 1000 → b' ≤ 1000 → b' < a →
      Open s1 u s2 b c → Pair s2 0 x b s3 e3 z1 → Pair s3 e3 c v s4 e4 z2 → Pair s4 e4 z1 z2 s' e' r → Fork s e x y s' e' r
/-- A bit more. -/
inductive Ins (one : Bool) : Ar → Int → Int → Nat → Ar → Int → Int → Prop where
  | none {s s' : Ar} {e e' h r : Int} {i : Nat} : Vw s h .none → Leafs s e [one] s' e' r → Ins one s e h i s' e' r
  | leaf {s s' : Ar} {e e' h r : Int} {i : Nat} {l : List Bool} : Vw s h (.leaf l) → i ≤ l.length → l.length < 64 → Leafs s e (bIns l i one) s' e' r → Ins one s e h i s' e' r
  | split {s s1 s2 s' : Ar} {e e1 e2 e' h x y r : Int} {i : Nat} {l : List Bool} : Vw s h (.leaf l) → i ≤ l.length → l.length = 64 → i ≤ 32 → Leafs s e (bIns (l.take 32) i one) s1 e1 x → Leafs s1 e1 (l.drop 32) s2 e2 y → PairOr s2 e2 x y s' e' r → Ins one s e h i s' e' r
  | split' {s s1 s2 s' : Ar} {e e1 e2 e' h x y r : Int} {i : Nat} {l : List Bool} : Vw s h (.leaf l) → i ≤ l.length → l.length = 64 → 32 < i → Leafs s e (l.take 32) s1 e1 x → Leafs s1 e1 (bIns (l.drop 32) (i - 32) one) s2 e2 y → PairOr s2 e2 x y s' e' r → Ins one s e h i s' e' r
  | right {s s2 s' : Ar} {e e2 e' h k0 k1 x r : Int} {i m o : Nat} {v : View} : Vw s h (.fork k0 k1 m o) → Snd s → i ≤ 1000000 → Vw s k0 v → v.len < i → Ins one (s.keep k0).1 e k1 (i - v.len) s2 e2 x → Fork s2 e2 k0 x s' e' r → Ins one s e h i s' e' r
  | left {s s1 s' : Ar} {e e1 e' h k0 k1 x r : Int} {i m o : Nat} {v : View} : Vw s h (.fork k0 k1 m o) → Snd s → i ≤ 1000000 → Vw s k0 v → i ≤ v.len → Ins one s e k0 i s1 e1 x → Snd s1 → Fork (s1.keep k1).1 e1 x k1 s' e' r → Ins one s e h i s' e' r
/-- Two leaves made one, or two that are alike long. -/
inductive Halves (s : Ar) (e : Int) (a b : List Bool) : Ar → Int → Int → Prop where
  | one {s' : Ar} {e' r : Int} : a.length ≤ 64 → b.length ≤ 64 → a.length + b.length ≤ 64 → Leafs s e (a ++ b) s' e' r → Halves s e a b s' e' r
  | two {s1 s2 s' : Ar} {e1 e2 e' x y r : Int} : a.length ≤ 64 → b.length ≤ 64 → 64 < a.length + b.length → Leafs s e ((a ++ b).take ((a.length + b.length + 1) / 2)) s1 e1 x → Leafs s1 e1 ((a ++ b).drop ((a.length + b.length + 1) / 2)) s2 e2 y → PairOr s2 e2 x y s' e' r → Halves s e a b s' e' r
/-- A leaf's bits more. -/
inductive Pour (ahead : Bool) : Ar → Int → Int → Int → Ar → Int → Int → Prop where
  | leaf {s s' : Ar} {e e' h sm r : Int} {l z : List Bool} : Vw s h (.leaf l) → Vw s sm (.leaf z) → Snd s → Halves (s.drops [h, sm]) e (if ahead = true then z else l) (if ahead = true then l else z) s' e' r → Pour ahead s e h sm s' e' r
  | ahead {s s1 s2 s' : Ar} {e e2 e' h sm x y p r : Int} {z : List Bool} : ahead = true → Vw s sm (.leaf z) → Snd s → Open s h s1 x y → Pour ahead s1 e x sm s2 e2 p → Fork s2 e2 p y s' e' r → Pour ahead s e h sm s' e' r
  | behind {s s1 s2 s' : Ar} {e e2 e' h sm x y p r : Int} {z : List Bool} : ahead = false → Vw s sm (.leaf z) → Snd s → Open s h s1 x y → Pour ahead s1 e y sm s2 e2 p → Fork s2 e2 x p s' e' r → Pour ahead s e h sm s' e' r
/-- Two made one, of which one may be too small. -/
inductive Both (s : Ar) (e x y : Int) : Ar → Int → Int → Prop where
  | err : e ≠ 0 → Snd s → Both s e x y (s.drops [x, y]) e 0
  | left {s' : Ar} {e' r : Int} {v : View} : e = 0 → Snd s → x ≠ 0 → y ≠ 0 → Vw s x v → v.small = true → Pour true s e y x s' e' r → Both s e x y s' e' r
  | right {s' : Ar} {e' r : Int} {v v' : View} : e = 0 → Snd s → x ≠ 0 → y ≠ 0 → Vw s x v → v.small = false → Vw s y v' → v'.small = true → Pour false s e x y s' e' r → Both s e x y s' e' r
  | fork {s' : Ar} {e' r : Int} {v v' : View} : e = 0 → Snd s → x ≠ 0 → y ≠ 0 → Vw s x v → v.small = false → Vw s y v' → v'.small = false → Fork s e x y s' e' r → Both s e x y s' e' r
/-- A bit less. -/
inductive Cut : Ar → Int → Int → Nat → Ar → Int → Int → Prop where
  | last {s : Ar} {e h : Int} {i : Nat} {l : List Bool} : Vw s h (.leaf l) → i < l.length → l.length = 1 → Snd s → Cut s e h i s e 0
  | leaf {s s' : Ar} {e e' h r : Int} {i : Nat} {l : List Bool} : Vw s h (.leaf l) → i < l.length → l.length ≠ 1 → Leafs s e (bDel l i) s' e' r → Cut s e h i s' e' r
  | right {s s2 s' : Ar} {e e2 e' h k0 k1 x r : Int} {i m o : Nat} {v : View} : Vw s h (.fork k0 k1 m o) → Snd s → i ≤ 1000000 → Vw s k0 v → v.len ≤ i → Cut (s.keep k0).1 e k1 (i - v.len) s2 e2 x → Both s2 e2 k0 x s' e' r → Cut s e h i s' e' r
  | left {s s1 s' : Ar} {e e1 e' h k0 k1 x r : Int} {i m o : Nat} {v : View} : Vw s h (.fork k0 k1 m o) → Snd s → i ≤ 1000000 → Vw s k0 v → i < v.len → Cut s e k0 i s1 e1 x → Snd s1 → Both (s1.keep k1).1 e1 x k1 s' e' r → Cut s e h i s' e' r
/-- A row of so many leaves. -/
inductive Build : Ar → Int → List Bool → Nat → Ar → Int → Int → Prop where
  | leaf {s s' : Ar} {e e' r : Int} {l : List Bool} : Leafs s e l s' e' r → Build s e l 1 s' e' r
  | fork {s s1 s2 s' : Ar} {e e1 e2 e' x y r : Int} {l : List Bool} {k : Nat} : 2 ≤ k → k ≤ 100000 → l.length ≤ 64 * k → l.length * (k / 2) / k < l.length → Build s e (l.take (l.length * (k / 2) / k)) (k / 2) s1 e1 x → Build s1 e1 (l.drop (l.length * (k / 2) / k)) (k - k / 2) s2 e2 y → PairOr s2 e2 x y s' e' r → Build s e l k s' e' r
end Go.Proofs.Ytjfeocoengheaaa

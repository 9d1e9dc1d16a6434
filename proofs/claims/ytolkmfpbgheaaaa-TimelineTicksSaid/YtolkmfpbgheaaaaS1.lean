/-
  Sessions of ticks in order, in plain words.
-/
import Derived.Test.YtolkmfpbgheaaaaR
namespace Go.Proofs.Ytolkmfpbgheaaaa
set_option linter.unusedVariables false

/-- The sessions of what follows, the first of which has begun. -/
def sessGo (g : Int) : Iv → List Int → List Iv
  | c, [] => [c]
  | c, x :: r => if x - c.2 ≤ g then sessGo g (c.1, x) r else c :: sessGo g (x, x) r
/-- The sessions of a list that is in order. -/
def sess (g : Int) : List Int → List Iv
  | [] => []
  | a :: r => sessGo g (a, a) r
/-- The gaps up to a place are small. -/
def Chain (g : Int) (l : List Int) (n : Nat) : Prop := ∀ i x y, i + 1 < n → l[i + 1]? = some x → l[i]? = some y → x - y ≤ g
theorem sessGo_at (g : Int) : ∀ (m : Nat) (a c : Int) (r : List Int) (z : Int), Chain g (a :: r) (m + 1) → (∀ x y, (a :: r)[m + 1]? = some x → (a :: r)[m]? = some y → g < x - y) → (a :: r)[m]? = some z →
    sessGo g (c, a) r = (c, z) :: sess g (r.drop m)
  | 0, a, c, r, z, hc, hx, hz => by
    simp at hz; subst hz
    cases r with
    | nil => rfl
    | cons x r =>
      have := hx x a rfl rfl
      unfold sessGo
      rw [if_neg (by show ¬ x - a ≤ g; omega)]
      rfl
  | m + 1, a, c, r, z, hc, hx, hz => by
    cases r with
    | nil => simp at hz
    | cons x r =>
      have := hc 0 x a (by omega) rfl rfl
      unfold sessGo
      rw [if_pos (by show x - a ≤ g; exact this)]
      exact sessGo_at g m x c r z (fun i u v hi hu hv => hc (i + 1) u v (by omega) (by simpa using hu) (by simpa using hv)) (fun u v hu hv => hx u v (by simpa using hu) (by simpa using hv)) (by simpa using hz)
/-- The first session, and the others. -/
theorem sess_at (g : Int) (l : List Int) (m : Nat) (a z : Int) (ha : l[0]? = some a) (hc : Chain g l (m + 1)) (hx : ∀ x y, l[m + 1]? = some x → l[m]? = some y → g < x - y) (hz : l[m]? = some z) :
    sess g l = (a, z) :: sess g (l.drop (m + 1)) := by
  cases l with
  | nil => simp at ha
  | cons b r =>
    simp at ha; subst ha
    exact sessGo_at g m b b r z hc hx hz
theorem chain_one (g : Int) (l : List Int) : Chain g l 1 := fun i x y h => by omega
theorem chain_succ {g : Int} {l : List Int} {m : Nat} {x y : Int} (h : Chain g l (m + 1)) (hx : l[m + 1]? = some x) (hy : l[m]? = some y) (hg : x - y ≤ g) : Chain g l (m + 1 + 1) := by
  intro i u v hi hu hv
  by_cases e : i = m
  · subst e
    rw [hx] at hu; rw [hy] at hv
    injection hu with hu; injection hv with hv
    subst hu hv; exact hg
  · exact h i u v (by omega) hu hv
end Go.Proofs.Ytolkmfpbgheaaaa

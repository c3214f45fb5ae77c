/- WHAT redlineref04.Few SAYS, in plain Lean: how much is left of a number when a tree is taken off it. -/
import Derived.Test.YtgnlgfkolbecmaaRep
namespace Go.Proofs.Ytgnlgfkolbecmaa
open Go Go.RowKit

def leftP : List PropL → Int → Int
  | [], m => m
  | p :: r, m => leftP r (m - ((p.1.size / 64 : Nat) + (p.2.size / 64 : Nat) : Int))
mutual
def leftT : T → Int → Int
  | .mk _ ps ts ks, m => if leftP ps (m - (1 + ts.length + ps.length)) < 0 then -1 else leftK ks (leftP ps (m - (1 + ts.length + ps.length)))
def leftK : List T → Int → Int
  | [], m => m
  | k :: r, m => if leftT k m < 0 then -1 else leftK r (leftT k m)
end
theorem leftT_eq (n : T) (m : Int) : leftT n m = if leftP n.ps (m - (1 + n.ts.length + n.ps.length)) < 0 then -1 else leftK n.ks (leftP n.ps (m - (1 + n.ts.length + n.ps.length))) := by
  cases n; rw [leftT]; rfl
theorem leftT_er (n : NT) (m : Int) : leftT n.er m = if leftP n.ps (m - (1 + n.ts.length + n.ps.length)) < 0 then -1 else leftK (n.ks.map NT.er) (leftP n.ps (m - (1 + n.ts.length + n.ps.length))) := by
  rw [leftT_eq, NT.er_ps, NT.er_ts, NT.er_ks]
theorem leftP_le (ps : List PropL) : ∀ m, leftP ps m ≤ m := by
  induction ps with
  | nil => intro m; simp [leftP]
  | cons p r ih => intro m; have := ih (m - ((p.1.size / 64 : Nat) + (p.2.size / 64 : Nat) : Int)); simp only [leftP]; omega
theorem leftT_both (n : T) : ∀ m, 0 ≤ m → -1 ≤ leftT n m ∧ leftT n m ≤ m := by
  induction n using T.ind with
  | h n ih =>
    have hk : ∀ (ks : List T), (∀ k ∈ ks, ∀ m, 0 ≤ m → -1 ≤ leftT k m ∧ leftT k m ≤ m) → ∀ m, 0 ≤ m → -1 ≤ leftK ks m ∧ leftK ks m ≤ m := by
      intro ks
      induction ks with
      | nil => intro _ m hm; simp only [leftK]; omega
      | cons x r ihr =>
        intro h m hm
        have h1 := h x (by simp) m hm
        have h2 := ihr (fun k hk => h k (by simp [hk]))
        simp only [leftK]
        split
        · omega
        · have := h2 (leftT x m) (by omega); omega
    intro m hm
    rw [leftT_eq]
    have h1 := leftP_le n.ps (m - (1 + n.ts.length + n.ps.length))
    split
    · omega
    · have := hk n.ks ih (leftP n.ps (m - (1 + n.ts.length + n.ps.length))) (by omega); omega
def few (n : T) (m : Int) : Bool := decide (0 ≤ leftT n m)
end Go.Proofs.Ytgnlgfkolbecmaa

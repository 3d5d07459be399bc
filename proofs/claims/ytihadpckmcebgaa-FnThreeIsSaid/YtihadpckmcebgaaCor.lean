/- Plain arithmetic: cores of the numbers that are drawn, and the form of three squares less the core. -/
import Derived.Test.YtihadpckmcebgaaCls
import Derived.Test.YtihadpckmcebgaaSqFast
set_option linter.unusedVariables false
set_option linter.unusedSimpArgs false
namespace Locg
open Go.RowKit Go.Proofs.YtihadpckmcebgaaW.PrintWords Go.Proofs.YtihadpckmcebgaaW.PrintMore

def coreW (q : Int) : Nat → Int → Int → Int × Int
  | 0, n, r => (n, r)
  | d + 1, n, r => if n.tmod (q * q) = 0 then coreW q d (n.tdiv (q * q)) (wrap64 (r * q)) else (n, r)
def coreLs : List Int → Int → Int → Int × Int
  | [], n, r => (n, r)
  | q :: qs, n, r => coreLs qs (coreW q 11 n r).1 (coreW q 11 n r).2
def coreF (n : Int) : Int × Int := coreLs (primes n) n 1
theorem coreW_bd {q : Int} (hq : 2 ≤ q) : ∀ (d : Nat) (n r : Int), 0 < n → n ≤ 2000 → 0 < (coreW q d n r).1 ∧ (coreW q d n r).1 ≤ 2000
  | 0, n, r, h, h2 => ⟨h, h2⟩
  | d + 1, n, r, h, h2 => by
    simp only [coreW]
    split
    · rename_i c
      have hqq : 2 ≤ q * q := by have := sq_le (show (0 : Int) ≤ 2 by omega) hq; omega
      have := tdiv_abs hqq (show n ≠ 0 by omega) c
      exact coreW_bd hq d _ _ (this.2.2.2.1 h) (by omega)
    · exact ⟨h, h2⟩
theorem coreLs_bd : ∀ (qs : List Int) (n r : Int), (∀ q ∈ qs, 2 ≤ q) → 0 < n → n ≤ 2000 → 0 < (coreLs qs n r).1 ∧ (coreLs qs n r).1 ≤ 2000
  | [], n, r, _, h, h2 => ⟨h, h2⟩
  | q :: qs, n, r, hq, h, h2 => by
    have := coreW_bd (hq q (by simp)) 11 n r h h2
    exact coreLs_bd qs _ _ (fun x hx => hq x (by simp [hx])) this.1 this.2
def tabOk (m : Nat) : Bool := !(threeN 6 m) || Nat.beq m 0 || (!(formOk [1, 1, 1, -(coreF (m : Int)).1]) || van [1, 1, 1, -(coreF (m : Int)).1] 2)
def fourOk (m : Nat) : Bool := !(threeN 6 m) || threeN 6 (4 * m)
theorem tab_all : ∀ m ∈ 2000 :: List.range 495, tabOk m = true := by decide +kernel
theorem four_tab : ∀ m ∈ List.range 501, fourOk m = true := by decide +kernel
theorem prime_le {n q : Int} (hn : 0 < n) (hN : n ≤ 1000000) (h : q ∈ primes n) : 2 ≤ q ∧ q ≤ n := by
  have hp := pl_prime (n.natAbs + 2) (absI n) 2 (by omega) (by unfold absI; omega) (by unfold absI; omega) (fun r h2 h3 => by omega) q h
  have := Int.le_of_dvd (by unfold absI; omega) hp.1
  exact ⟨hp.2.1, by unfold absI at this; omega⟩

end Locg

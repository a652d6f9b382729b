/- The walk of the reference's least: the place of the least number that is not done. -/
import Derived.Test.YtoihjbiahccaaaaReNu
namespace Go.Proofs.Ytoihjbiahccaaaa
open Go Go.RowKit
set_option linter.unusedVariables false

def LeAt (l : List Int) (D : List Bool) (k : Nat) (b : Int) : Prop :=
  (b = -1 ∧ ∀ q, q < k → D[q]? = some true) ∨ (∃ p : Nat, b = (p : Int) ∧ p < k ∧ D[p]? = some false ∧ ∀ q, q < k → D[q]? = some false → (l.getD p 0 < l.getD q 0 ∨ (l.getD p 0 = l.getD q 0 ∧ p ≤ q)))
theorem LeAt.skip {l : List Int} {D : List Bool} {k : Nat} {b : Int} (h : LeAt l D k b) (hk : D[k]? = some true) : LeAt l D (k + 1) b := by
  rcases h with ⟨h1, h2⟩ | ⟨p, h1, h2, h3, h4⟩
  · exact .inl ⟨h1, fun q hq => by
      by_cases e : q = k
      · subst e; exact hk
      · exact h2 q (by omega)⟩
  · exact .inr ⟨p, h1, by omega, h3, fun q hq hd => by
      by_cases e : q = k
      · subst e; rw [hk] at hd; injection hd with hd; cases hd
      · exact h4 q (by omega) hd⟩
theorem LeAt.first {l : List Int} {D : List Bool} {k : Nat} (h : LeAt l D k (-1)) (hk : D[k]? = some false) : LeAt l D (k + 1) (k : Int) := by
  rcases h with ⟨_, h2⟩ | ⟨p, h1, _⟩
  · exact .inr ⟨k, rfl, by omega, hk, fun q hq hd => by
      by_cases e : q = k
      · subst e; exact .inr ⟨rfl, Nat.le_refl _⟩
      · rw [h2 q (by omega)] at hd; injection hd with hd; cases hd⟩
  · omega
theorem LeAt.less {l : List Int} {D : List Bool} {k p : Nat} (h : LeAt l D k (p : Int)) (hk : D[k]? = some false) (hl : l.getD k 0 < l.getD p 0) : LeAt l D (k + 1) (k : Int) := by
  rcases h with ⟨h1, _⟩ | ⟨p', h1, _, _, h4⟩
  · omega
  · obtain rfl : p = p' := by omega
    exact .inr ⟨k, rfl, by omega, hk, fun q hq hd => by
      by_cases e : q = k
      · subst e; exact .inr ⟨rfl, Nat.le_refl _⟩
      · have := h4 q (by omega) hd; left; omega⟩
theorem LeAt.keep {l : List Int} {D : List Bool} {k p : Nat} (h : LeAt l D k (p : Int)) (hk : D[k]? = some false) (hl : ¬ l.getD k 0 < l.getD p 0) : LeAt l D (k + 1) (p : Int) := by
  rcases h with ⟨h1, _⟩ | ⟨p', h1, h2, h3, h4⟩
  · omega
  · obtain rfl : p = p' := by omega
    exact .inr ⟨p, rfl, by omega, h3, fun q hq hd => by
      by_cases e : q = k
      · subst e; omega
      · exact h4 q (by omega) hd⟩
/-- The block of truth values. -/
def Bls (w : World) (g : Nat) (D : List Bool) : Prop := ∀ j b, D[j]? = some b → w.cell? ⟨g, j, none⟩ = some (.bool b)
set_option maxHeartbeats 4000000 in
theorem least_any (A : Option Addr) (c c' : Nat) (l : List Int) (D : List Bool) (g B : Nat) (w : World) (hr : Rd w B 1 A l.length (ints l)) (hD : D.length = l.length) (hb : Bls w g D) (hl : l.length ≤ 1000000) :
    Calls Try.prog 39 #[.slice A l.length c, .slice (some ⟨g, 0, none⟩) l.length c'] w fun e w' => (∃ b : Int, e = .returned (.int .i64 b) ∧ LeAt l D l.length b) ∧ w = w' := by
  have HR := Lib.hid hr; have HB := Lib.hid hb
  have HDL := Lib.hid hD
  clear hr hb hD
  go_enter Try.func39, Try.ntmps39
  go_wp2_with fail
  go_loop [5, 10] (fun vb i => ∃ (k : Nat) (b : Int), k ≤ l.length ∧ vb = .int .i64 b ∧ i = .int .i64 k ∧ LeAt l D k b) (fun _ i => l.length - (intOf i).toNat)
  case atStart => exact ⟨0, -1, by omega, rfl, rfl, .inl ⟨rfl, fun q h => by omega⟩⟩
  case round =>
    obtain ⟨k, b, hk, rfl, rfl, hle⟩ := hrel
    have HLE := Lib.hid hle
    by_cases hlt : k < l.length
    · obtain ⟨bl, off, x, rfl, hbl, hat, hcell⟩ := ints_cell HR.out hlt
      have hgx : l.getD k 0 = x := by rw [List.getD_eq_getElem?_getD, hat]; rfl
      obtain ⟨d, hd⟩ : ∃ d, D[k]? = some d := ⟨D[k]'(by rw [HDL.out]; exact hlt), List.getElem?_eq_getElem (by rw [HDL.out]; exact hlt)⟩
      have hdc := HB.out k d hd
      have hki : (k : Int) < (l.length : Int) := by omega
      have HGX := Lib.hid hgx; have HD := Lib.hid hd
      clear hat hgx hd
      cases d
      · rcases hle with ⟨rfl, _⟩ | ⟨p, rfl, hpk, hp3, _⟩
        · have HN := Lib.hid (HLE.out.first HD.out)
          go_wp2
          go_round
          case rel => exact ⟨k + 1, _, by omega, rfl, by go_num, HN.out⟩
          case measure => simp [intOf]; omega
        · obtain ⟨bl', off', y, he, _, hat2, hcell2⟩ := ints_cell HR.out (show p < l.length by omega)
          injection he with he; injection he with e1 e2; subst e1; subst e2
          have hgy : l.getD p 0 = y := by rw [List.getD_eq_getElem?_getD, hat2]; rfl
          have HGY := Lib.hid hgy
          have hpi : (p : Int) < (l.length : Int) := by omega
          clear hat2 hgy hp3
          by_cases hxy : x < y
          · have HN := Lib.hid (HLE.out.less HD.out (by rw [HGX.out, HGY.out]; exact hxy))
            go_wp2
            go_round
            case rel => exact ⟨k + 1, _, by omega, rfl, by go_num, HN.out⟩
            case measure => simp [intOf]; omega
          · have HN := Lib.hid (HLE.out.keep HD.out (by rw [HGX.out, HGY.out]; exact hxy))
            go_wp2
            go_round
            case rel => exact ⟨k + 1, _, by omega, rfl, by go_num, HN.out⟩
            case measure => simp [intOf]; omega
      · have HN := Lib.hid (HLE.out.skip HD.out)
        clear hle
        go_wp2
        go_round
        case rel => exact ⟨k + 1, _, by omega, rfl, by go_num, HN.out⟩
        case measure => simp [intOf]; omega
    · have hkn : k = l.length := by omega
      subst hkn
      clear hle
      go_wp2
      go_ret
      exact ⟨⟨b, rfl, HLE.out⟩, rfl⟩
end Go.Proofs.Ytoihjbiahccaaaa

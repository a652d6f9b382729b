/- The walks of request.operation and request.decimal. -/
import Derived.Test.YtddieenjdaociaaGreatDoorM06
import Derived.Deep.DeepCutAuto
import Derived.Deep.CutBlock
namespace Go.Proofs.YtddieenjdaociaaGreatDoor
open Go Go.RowKit
set_option linter.unusedVariables false


/-- The words of the operations. -/
def Rq.wd (j : Nat) : List UInt8 := [[], [72, 79, 76, 68], [67, 79, 78, 70, 73, 82, 77], [82, 69, 78, 69, 87], [67, 65, 78, 67, 69, 76], [82, 69, 76, 69, 65, 83, 69], [80, 85, 82, 71, 69], [81, 85, 69, 82, 89]].getD j []
theorem Rq.oper_at (j : Nat) (h0 : 0 < j) (h8 : j < 8) : Rq.oper (Rq.wd j) = (j : Int) := by
  have : j = 1 ∨ j = 2 ∨ j = 3 ∨ j = 4 ∨ j = 5 ∨ j = 6 ∨ j = 7 := by omega
  rcases this with rfl | rfl | rfl | rfl | rfl | rfl | rfl <;> decide
theorem Rq.oper_none {w : List UInt8} (h : ∀ i, 0 < i → i < 8 → Rq.wd i ≠ w) : Rq.oper w = 0 := by
  unfold Rq.oper
  rw [if_neg (fun e => h 1 (by omega) (by omega) e.symm), if_neg (fun e => h 2 (by omega) (by omega) e.symm), if_neg (fun e => h 3 (by omega) (by omega) e.symm), if_neg (fun e => h 4 (by omega) (by omega) e.symm),
    if_neg (fun e => h 5 (by omega) (by omega) e.symm), if_neg (fun e => h 6 (by omega) (by omega) e.symm), if_neg (fun e => h 7 (by omega) (by omega) e.symm)]
def wdCells : Array Value := #[.string ⟨#[]⟩, .string ⟨#[72, 79, 76, 68]⟩, .string ⟨#[67, 79, 78, 70, 73, 82, 77]⟩, .string ⟨#[82, 69, 78, 69, 87]⟩, .string ⟨#[67, 65, 78, 67, 69, 76]⟩, .string ⟨#[82, 69, 76, 69, 65, 83, 69]⟩, .string ⟨#[80, 85, 82, 71, 69]⟩, .string ⟨#[81, 85, 69, 82, 89]⟩]
theorem wdCells_at (j : Nat) (h8 : j < 8) : wdCells[j]? = some (.string (str (Rq.wd j))) := by
  have : j = 0 ∨ j = 1 ∨ j = 2 ∨ j = 3 ∨ j = 4 ∨ j = 5 ∨ j = 6 ∨ j = 7 := by omega
  rcases this with rfl | rfl | rfl | rfl | rfl | rfl | rfl | rfl <;> rfl
theorem words_any (w : World) : Calls Tryz.prog 32 #[] w fun e w' => e = .returned (.slice (some ⟨w.heap.size, 0, none⟩) 8 8) ∧ w' = w.alloc (.cells wdCells 9) := by
  go_enter Tryz.func32, Tryz.ntmps32
  go_wp2
  go_ret
  exact ⟨rfl, rfl⟩
set_option maxHeartbeats 2000000 in
theorem operation_any (s : ByteArray) (w : World) : Calls Tryz.prog 110 #[.string s] w fun e w' => e = .returned (.int .i64 (Rq.oper (lst s))) ∧ Below w.heap.size w w' := by
  go_enter Tryz.func110, Tryz.ntmps110
  go_wp2_with fail
  refine (words_any _).mono ?_
  rintro e w1 ⟨rfl, hw1⟩
  have hb1 : Below w.heap.size w w1 := by rw [hw1]; exact (Below.refl _ _).alloc (Nat.le_refl _) _
  have hcell : ∀ j, j < 8 → w1.cell? ⟨w.heap.size, j, none⟩ = some (.string (str (Rq.wd j))) := by
    intro j hj
    rw [hw1, (Bk.new w 9 wdCells).cell, wdCells_at j hj]
  have HB := Lib.hid hb1; have HC := Lib.hid hcell
  clear hw1 hb1 hcell
  go_wp2_with fail
  go_loopw [7] (fun vi wr => ∃ j : Nat, j ≤ 8 ∧ vi = .int .i64 j ∧ (∀ i, 0 < i → i < j → Rq.wd i ≠ lst s) ∧ w1 = wr) (fun vi _ => 8 - (intOf vi).toNat)
  case atStart => exact ⟨0, by omega, rfl, fun i h1 h2 => by omega, rfl⟩
  case round =>
    obtain ⟨j, hj, rfl, hn, rfl⟩ := hrel
    have HN := Lib.hid hn; clear hn
    by_cases hlt : j < 8
    · have hc := HC.out j hlt
      by_cases h0 : 0 < j
      · by_cases he : Rq.wd j = lst s
        · have hb : ((str (Rq.wd j)).toList == s.toList) = true := by rw [toList_lst, toList_lst, lst_str, beq_iff_eq]; exact he
          have ho := Rq.oper_at j h0 hlt
          rw [he] at ho
          have HOP := Lib.hid ho
          clear ho he
          go_wp2
          go_ret
          exact ⟨by rw [HOP.out]; rfl, HB.out⟩
        · have hb : ((str (Rq.wd j)).toList == s.toList) = false := by rw [toList_lst, toList_lst, lst_str, beq_eq_false_iff_ne]; exact he
          have hn2 : ∀ i, 0 < i → i < j + 1 → Rq.wd i ≠ lst s := by
            intro i h1 h2
            by_cases h3 : i = j
            · rw [h3]; exact he
            · exact HN.out i h1 (by omega)
          have HN2 := Lib.hid hn2; clear hn2 he
          go_wp2
          go_roundw
          case rel => exact ⟨j + 1, by omega, by go_num, HN2.out, trivial⟩
          case measure => simp [intOf]; omega
      · have hj0 : j = 0 := by omega
        subst hj0
        go_wp2
        go_roundw
        case rel => exact ⟨1, by omega, rfl, fun i h1 h2 => by omega, trivial⟩
        case measure => simp [intOf]
    · have ho : Rq.oper (lst s) = 0 := Rq.oper_none (fun i h1 h2 => HN.out i h1 (by omega))
      have HOP := Lib.hid ho; clear ho
      go_wp2
      go_ret
      exact ⟨by rw [HOP.out]; rfl, HB.out⟩
def decRet : Option Int → Value
  | none => .tuple #[.int .i64 0, .bool false]
  | some n => .tuple #[.int .i64 n, .bool true]
theorem dg_good {b : UInt8} (r : List UInt8) (n : Int) (h : 48 ≤ b.toNat ∧ b.toNat ≤ 57) : Rq.dg (b :: r) n = Rq.dg r (10 * n + ((b.toNat : Int) - 48)) := by conv => lhs; unfold Rq.dg; rw [if_pos h]
theorem dg_bad {b : UInt8} (r : List UInt8) (n : Int) (h : ¬ (48 ≤ b.toNat ∧ b.toNat ≤ 57)) : Rq.dg (b :: r) n = none := by unfold Rq.dg; rw [if_neg h]
set_option maxRecDepth 100000 in
set_option maxHeartbeats 4000000 in
theorem decimal_any (s : ByteArray) (hs : s.size ≤ 1000000000000) (w : World) : Calls Tryz.prog 111 #[.string s] w fun e w' => e = .returned (decRet (Rq.dec (lst s))) ∧ Below w.heap.size w w' := by
  have hcond : (s.size = 0 ∧ Rq.dec (lst s) = none) ∨ (10 < s.size ∧ Rq.dec (lst s) = none) ∨ (∃ h : 0 < s.size, s[0].toNat = 48 ∧ 1 < s.size ∧ s.size ≤ 10 ∧ Rq.dec (lst s) = none) ∨
      (∃ h : 0 < s.size, s.size ≤ 10 ∧ (s[0].toNat ≠ 48 ∨ s.size = 1) ∧ Rq.dec (lst s) = Rq.dg (lst s) 0) := by
    unfold Rq.dec
    by_cases h0 : s.size = 0
    · left; refine ⟨h0, ?_⟩; rw [if_pos (.inl (List.eq_nil_of_length_eq_zero (by rw [lst_length]; exact h0)))]
    by_cases h1 : 10 < s.size
    · right; left; refine ⟨h1, ?_⟩; rw [if_pos (.inr (.inl (by rw [lst_length]; exact h1)))]
    have h00 : 0 < s.size := by omega
    have hat := lst_at s 0 h00
    by_cases h2 : s[0].toNat = 48 ∧ 1 < s.size
    · right; right; left
      refine ⟨h00, h2.1, h2.2, by omega, ?_⟩
      have h48 : s[0] = 48 := UInt8.toNat_inj.1 h2.1
      rw [if_pos (.inr (.inr ⟨by rw [hat, h48], by rw [lst_length]; exact h2.2⟩))]
    · right; right; right
      refine ⟨h00, by omega, ?_, ?_⟩
      · by_cases h : s[0].toNat = 48
        · right
          have : ¬ 1 < s.size := fun e => h2 ⟨h, e⟩
          omega
        · left; exact h
      rw [if_neg]
      rintro (h | h | ⟨h, h3⟩)
      · have := congrArg List.length h; rw [lst_length, List.length_nil] at this; omega
      · rw [lst_length] at h; omega
      · rw [hat] at h
        injection h with h
        rw [lst_length] at h3
        exact h2 ⟨by rw [h]; rfl, h3⟩
  rcases hcond with ⟨h0, hd⟩ | ⟨h1, hd⟩ | ⟨h0, h48, h1, h10, hd⟩ | ⟨h0, h10, h2, hd⟩
  · have hs0 : s = ⟨#[]⟩ := by rw [← str_lst s, List.eq_nil_of_length_eq_zero (show (lst s).length = 0 by rw [lst_length]; exact h0)]; rfl
    subst hs0
    have HD := Lib.hid hd; clear hd
    go_enter Tryz.func111, Tryz.ntmps111
    go_wp2
    go_ret2
    exact ⟨by rw [HD.out]; rfl, Below.refl _ _⟩
  · have hse : s.toList.isEmpty = false := by rw [size_empty]; exact decide_eq_false (by omega)
    have HD := Lib.hid hd; clear hd
    go_enter Tryz.func111, Tryz.ntmps111
    go_wp2
    go_ret2
    exact ⟨by rw [HD.out]; rfl, Below.refl _ _⟩
  · have hse : s.toList.isEmpty = false := by rw [size_empty]; exact decide_eq_false (by omega)
    have hi48 : (s[0].toNat : Int) = 48 := by omega
    have HD := Lib.hid hd; clear hd h48
    go_enter Tryz.func111, Tryz.ntmps111
    go_wp2
    go_ret2
    exact ⟨by rw [HD.out]; rfl, Below.refl _ _⟩
  · have hse : s.toList.isEmpty = false := by rw [size_empty]; exact decide_eq_false (by omega)
    obtain ⟨cc, w2, hcv, hbl2, hsz2, hcc, hcells, hfz⟩ := conv_bytes s w
    have HD := Lib.hid hd; have HB := Lib.hid hbl2; have HCE := Lib.hid hcells
    clear hd hbl2 hcells hfz
    have hgd : (((s[0].toNat : Int) == 48) = true ∧ s.size = 1) ∨ ((s[0].toNat : Int) == 48) = false := by
      by_cases h : s[0].toNat = 48
      · left; exact ⟨by simp [h], by omega⟩
      · right; rw [beq_eq_false_iff_ne]; omega
    have HZ := Lib.hid h0
    clear h2
    have hs10 : s.size ≤ 10 := h10
    have hpow : ∀ j : Nat, j ≤ 10 → (10 : Int) ^ j ≤ 10000000000 := by
      intro j hj
      have : ∀ k : Fin 11, (10 : Int) ^ k.val ≤ 10000000000 := by decide
      exact this ⟨j, by omega⟩
    have HPW := Lib.hid hpow; clear hpow
    rcases hgd with ⟨g1, g2⟩ | g1
    all_goals
      go_enter Tryz.func111, Tryz.ntmps111
      go_wp2_with fail
      clear g1
      go_loopw [4, 27] (fun vn vi wr => ∃ (j : Nat) (n : Int), j ≤ s.size ∧ vi = .int .i64 j ∧ vn = .int .i64 n ∧ 0 ≤ n ∧ n + 1 ≤ 10 ^ j ∧ Rq.dg (lst s) 0 = Rq.dg ((lst s).drop j) n ∧ w2 = wr) (fun _ vi _ => s.size - (intOf vi).toNat)
      case atStart => exact ⟨0, 0, by omega, rfl, rfl, by omega, by simp, by rw [List.drop_zero], rfl⟩
      case round =>
        obtain ⟨j, n, hj, rfl, rfl, n0, n1, hdg, rfl⟩ := hrel
        have HDG := Lib.hid hdg; clear hdg
        by_cases hlt : j < s.size
        · have hdr := lst_drop s j hlt
          have HDR := Lib.hid hdr; clear hdr
          have hc := HCE.out j _ (lst_at s j hlt)
          have hp1 := HPW.out (j + 1) (by omega)
          have hp2 : (10 : Int) ^ (j + 1) = 10 ^ j * 10 := Int.pow_succ 10 j
          have hn9 : n ≤ 1000000000 := by omega
          have hn1 : 10 * n + 10 ≤ 10 ^ (j + 1) := by omega
          have HN1 := Lib.hid hn1
          clear hp1 hp2 n1 hn1
          by_cases hd : 48 ≤ s[j].toNat ∧ s[j].toNat ≤ 57
          · have hg := dg_good ((lst s).drop (j + 1)) n hd
            have HG := Lib.hid hg; clear hg
            obtain ⟨d0, d1⟩ : 48 ≤ (s[j].toNat : Int) ∧ (s[j].toNat : Int) ≤ 57 := by omega
            clear hd
            generalize (s[j].toNat : Int) = d at *
            go_wp2
            go_roundw
            case rel => exact ⟨j + 1, 10 * n + (d - 48), by omega, by go_num, by go_num, by omega, by have := HN1.out; omega, by rw [HDG.out, HDR.out, HG.out], trivial⟩
            case measure => simp [intOf]; omega
          · have hg := dg_bad ((lst s).drop (j + 1)) n hd
            have hF : Rq.dec (lst s) = none := by rw [HD.out, HDG.out, HDR.out, hg]
            have HF := Lib.hid hF
            have hd2 : (s[j].toNat : Int) < 48 ∨ 57 < (s[j].toNat : Int) := by omega
            clear hg hF hd
            generalize (s[j].toNat : Int) = d at *
            rcases hd2 with hd2 | hd2
            all_goals
              go_wp2
              go_ret2
              exact ⟨by rw [HF.out]; rfl, HB.out⟩
        · have hd0 : (lst s).drop j = [] := List.drop_of_length_le (by rw [lst_length]; omega)
          have hF : Rq.dec (lst s) = some n := by rw [HD.out, HDG.out, hd0]; rfl
          have HF := Lib.hid hF
          clear hF hd0
          go_wp2
          go_ret2
          exact ⟨by rw [HF.out]; rfl, HB.out⟩
end Go.Proofs.YtddieenjdaociaaGreatDoor

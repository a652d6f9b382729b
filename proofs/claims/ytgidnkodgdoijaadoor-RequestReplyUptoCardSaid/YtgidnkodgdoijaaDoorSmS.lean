/- The walk of keep.Same at string: whether two slices hold the same strings. -/
import Derived.Test.YtgidnkodgdoijaaDoorProg
import Derived.Test.YtgidnkodgdoijaaDoorBase
import Derived.Deep.QuietTactic
import Derived.BigQuiet
import Derived.Laws.Strings
namespace Go.Proofs.YtgidnkodgdoijaaDoor
open Go Go.RowKit
set_option linter.unusedVariables false

/-- The call returns a truth value; the world is as it was, but for draws. -/
def RetB (b : Bool) (w : World) (e : Ending) (w' : World) : Prop := e = .returned (.bool b) ∧ ∃ m, w' = w.drewN m
theorem toList_inj {a b : ByteArray} (h : a.toList = b.toList) : a = b := by
  rw [ByteArray.toList_eq, ByteArray.toList_eq] at h
  exact ByteArray.ext (Array.toList_inj.1 h)
theorem same_len' {xs ys : List ByteArray} (h : xs.length ≠ ys.length) : decide (xs = ys) = false := by
  rw [decide_eq_false_iff_not]; rintro rfl; exact h rfl
theorem same_no' {xs ys : List ByteArray} {k : Nat} (h : xs[k]? ≠ ys[k]?) : decide (xs = ys) = false := by
  rw [decide_eq_false_iff_not]; rintro rfl; exact h rfl
theorem same_yes' {xs ys : List ByteArray} (hl : xs.length = ys.length) (h : ∀ j, j < xs.length → xs[j]? = ys[j]?) : decide (xs = ys) = true := by
  rw [decide_eq_true_iff]
  apply List.ext_getElem? 
  intro j
  by_cases hj : j < xs.length
  · exact h j hj
  · rw [List.getElem?_eq_none (by omega), List.getElem?_eq_none (by omega)]
/-- Element k of a slice of strings, as a cell. -/
theorem strs_cell {w : World} {B n : Nat} {A : Option Addr} {xs : List ByteArray} (h : Rd w B 1 A n (strs xs)) {k : Nat} (hk : k < n) :
    ∃ b off c, A = some ⟨b, off, none⟩ ∧ b < B ∧ xs[k]? = some c ∧ w.cell? ⟨b, off + k, none⟩ = some (.string c) := by
  obtain ⟨b, off, u, hA, hb, hu, hc⟩ := h.at_ hk
  rw [strs_at] at hu
  obtain ⟨c, hc1, rfl⟩ := Option.map_eq_some_iff.1 hu
  exact ⟨b, off, c, hA, hb, hc1, hc⟩

set_option maxHeartbeats 1000000 in
theorem sames_any (A A' : Option Addr) (c c' : Nat) (xs ys : List ByteArray) (B : Nat) (w : World) (hx : Rd w B 1 A xs.length (strs xs)) (hy : Rd w B 1 A' ys.length (strs ys))
    (mx : xs.length ≤ maxLen) (my : ys.length ≤ maxLen) :
    Calls Tryd.prog 32 #[.slice A xs.length c, .slice A' ys.length c'] w (RetB (decide (xs = ys)) w) := by
  unfold maxLen at mx my
  by_cases hl : xs.length = ys.length
  · have HL := Lib.hid hl
    rw [← hl] at hy my ⊢
    clear hl
    generalize hn : xs.length = n at *
    have HN := Lib.hid hn; clear hn
    have hb : ((n : Int) != (n : Int)) = false := by simp
    go_enter Tryd.func32, Tryd.ntmps32
    go_wp2
    go_loopw [13] (fun i wr => ∃ k : Nat, k ≤ n ∧ i = .int .i64 k ∧ (∀ j, j < k → xs[j]? = ys[j]?) ∧ ∃ m, wr = w.drewN m) (fun i _ => n - (intOf i).toNat)
    case atStart => exact ⟨0, by omega, rfl, fun j hj => absurd hj (by omega), 0, rfl⟩
    case round =>
      obtain ⟨k, hk, rfl, hpre, m, rfl⟩ := hrel
      have HP := Lib.hid hpre; clear hpre
      by_cases hlt : k < n
      · obtain ⟨b, off, u, rfl, _, hu, hcu⟩ := strs_cell hx hlt
        obtain ⟨b', off', v, rfl, _, hv, hcv⟩ := strs_cell hy hlt
        have HU := Lib.hid hu; have HV := Lib.hid hv; clear hu hv hx hy
        by_cases huv : u = v
        · have hne : (u.toList == v.toList) = true := by simp [huv]
          have HE := Lib.hid huv; clear huv
          go_wp2
          go_quiet (fail)
          go_wp2
          go_roundw
          case rel => exact ⟨k + 1, by omega, by go_num, fun j hj => by
            rcases Nat.lt_succ_iff_lt_or_eq.1 hj with h | h
            · exact HP.out j h
            · subst h; rw [HU.out, HV.out, HE.out], _, rfl⟩
          case measure => simp [intOf]; omega
        · have hne : (u.toList == v.toList) = false := by
            rw [beq_eq_false_iff_ne]; intro h; exact huv (toList_inj h)
          go_wp2
          go_quiet (fail)
          go_wp2
          go_ret
          have : decide (xs = ys) = false := same_no' (k := k) (by rw [HU.out, HV.out]; intro h; exact huv (by injection h))
          rw [this]
          exact ⟨rfl, _, World.drewN_drewN _ _ _⟩
      · go_wp2
        go_ret
        have : decide (xs = ys) = true := same_yes' (HN.out.trans HL.out) (fun j hj => HP.out j (by have := HN.out; omega))
        rw [this]
        exact ⟨rfl, _, rfl⟩
  · rw [same_len' hl]
    have hb : ((xs.length : Int) != (ys.length : Int)) = true := by rw [bne_iff_ne]; omega
    go_enter Tryd.func32, Tryd.ntmps32
    go_wp2
    go_ret
    exact ⟨rfl, 0, rfl⟩

/-- The two slices hold the same strings. -/
theorem sames_ok (A A' : Option Addr) (n n' c c' : Nat) (xs ys : List ByteArray) (B : Nat) (w : World) (hx : Rd w B 1 A n (strs xs)) (hy : Rd w B 1 A' n' (strs ys))
    (mx : n ≤ maxLen) (my : n' ≤ maxLen) (he : xs = ys) :
    Calls Tryd.prog 32 #[.slice A n c, .slice A' n' c'] w fun e w' => e = .returned (.bool true) ∧ ∃ m, w' = w.drewN m := by
  have h1 : xs.length = n := by have := hx.1; simpa [strs] using this
  have h2 : ys.length = n' := by have := hy.1; simpa [strs] using this
  subst h1; subst h2
  refine (sames_any A A' c c' xs ys B w hx hy mx my).mono ?_
  rintro e w' ⟨he', hw⟩
  have : decide (xs = ys) = true := by rw [decide_eq_true_iff]; exact he
  rw [this] at he'
  exact ⟨he', hw⟩
end Go.Proofs.YtgidnkodgdoijaaDoor

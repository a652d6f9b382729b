/- The walks of the reference's word and Decimal. -/
import Derived.Test.YtgidnkodgdoijaaDoorRqI
namespace Go.Proofs.YtgidnkodgdoijaaDoor
open Go Go.RowKit Go.Proofs
set_option linter.unusedVariables false

def Rq.wdx (c : Int) : List UInt8 := if 1 ≤ c ∧ c ≤ 7 then Rq.wd c.toNat else []
set_option maxHeartbeats 1000000 in
theorem wordx_any (c : Int) (w : World) : Calls Tryd.prog 26 #[.int .i64 c] w fun e w' => e = .returned (.string (str (Rq.wdx c))) ∧ w' = w := by
  by_cases h : 1 ≤ c ∧ c ≤ 7
  · have : c = 1 ∨ c = 2 ∨ c = 3 ∨ c = 4 ∨ c = 5 ∨ c = 6 ∨ c = 7 := by omega
    rcases this with rfl | rfl | rfl | rfl | rfl | rfl | rfl
    all_goals
      go_enter Tryd.func26, Tryd.ntmps26
      go_wp2
      go_ret
      exact ⟨rfl, rfl⟩
  · have hw : Rq.wdx c = [] := by unfold Rq.wdx; rw [if_neg h]
    rw [hw]
    have h1 : ¬ c = 1 := by omega
    have h2 : ¬ c = 2 := by omega
    have h3 : ¬ c = 3 := by omega
    have h4 : ¬ c = 4 := by omega
    have h5 : ¬ c = 5 := by omega
    have h6 : ¬ c = 6 := by omega
    have h7 : ¬ c = 7 := by omega
    clear h hw
    go_enter Tryd.func26, Tryd.ntmps26
    go_wp2
    go_ret
    exact ⟨rfl, rfl⟩
def Rq.dig (u : Nat) : UInt8 := UInt8.ofNat (48 + u)
theorem dig_ext (n : Nat) (h : n < 10) : (⟨#[48, 49, 50, 51, 52, 53, 54, 55, 56, 57]⟩ : ByteArray).extract n (n + 1) = str [Rq.dig n] := by
  have : ∀ i : Fin 10, ((⟨#[48, 49, 50, 51, 52, 53, 54, 55, 56, 57]⟩ : ByteArray).extract i.val (i.val + 1)).data = (str [Rq.dig i.val]).data := by decide
  exact ByteArray.ext (this ⟨n, h⟩)
/-- How far the digits have come: u is still to be written, out is. -/
def DUp (m u : Nat) (out : List UInt8) : Prop := (u = 0 ∧ out = Lib.decDigits m) ∨ (0 < u ∧ Lib.decDigits u ++ out = Lib.decDigits m)
theorem DUp.step {m u : Nat} {out : List UInt8} (h : DUp m u out) (hu : 0 < u) : DUp m (u / 10) (Rq.dig (u % 10) :: out) := by
  rcases h with ⟨h, _⟩ | ⟨_, h⟩
  · omega
  · by_cases hs : u < 10
    · left
      refine ⟨by omega, ?_⟩
      rw [dd_lt hs] at h
      rw [← h, show u % 10 = u by omega]; rfl
    · right
      refine ⟨by omega, ?_⟩
      rw [dd_ge hs] at h
      rw [← h, List.append_assoc]; rfl
theorem DUp.len {m u : Nat} {out : List UInt8} (h : DUp m u out) (hm : m < 10000000000000000000) : out.length ≤ 19 := by
  have h1 : (Lib.decDigits m).length ≤ 19 := dd_len 19 m (by omega) (by omega)
  rcases h with ⟨_, h⟩ | ⟨_, h⟩
  · rw [h]; exact h1
  · have := congrArg List.length h
    rw [List.length_append] at this; omega
set_option maxRecDepth 100000 in
set_option maxHeartbeats 8000000 in
theorem rdecimal_any (n : Int) (h0 : -9223372036854775808 ≤ n) (h1 : n ≤ 9223372036854775807) (w : World) : Calls Tryd.prog 21 #[.int .i64 n] w fun e w' => e = .returned (.string (str (Lib.itoa n))) ∧ w = w' := by
  by_cases hsm : 0 ≤ n ∧ n < 10
  · obtain ⟨u, rfl⟩ : ∃ u : Nat, n = (u : Int) := ⟨n.toNat, by omega⟩
    have hu : u < 10 := by omega
    have hi : Lib.itoa (u : Int) = [Rq.dig u] := by unfold Lib.itoa; rw [if_neg (by omega)]; exact dd_lt (by omega)
    have x1 := dig_ext u hu
    have n1 : ((u : Int) + 1).toNat = u + 1 := by omega
    have p1 : (0 : Int) ≤ (u : Int) + 1 := by omega
    have p3 : (u : Int) + 1 ≤ 10 := by omega
    have p5 : (u : Int) ≤ (u : Int) + 1 := by omega
    have p6 : (0 : Int) ≤ (u : Int) := by omega
    have p7 : (u : Int) < 10 := by omega
    rw [hi]
    clear hi h0 h1 hsm
    go_enter Tryd.func21, Tryd.ntmps21
    go_wp2
    go_ret
    exact ⟨rfl, rfl⟩
  by_cases hneg : n < 0
  · obtain ⟨m, rfl⟩ : ∃ m : Nat, n = -(m : Int) := ⟨n.natAbs, by omega⟩
    have hi : Lib.itoa (-(m : Int)) = 45 :: Lib.decDigits m := by unfold Lib.itoa; rw [if_pos hneg]; congr 2; omega
    have HI := Lib.hid hi
    have hm : m < 10000000000000000000 := by omega
    have hm0 : 0 < m := by omega
    have hmt : m ≤ 9223372036854775808 := by omega
    have q0 : ¬ ((0 : Int) ≤ -(m : Int)) := by omega
    clear hi h0 h1 hsm
    go_enter Tryd.func21, Tryd.ntmps21
    go_wp2_with fail
    go_loopw [0, 3] (fun vn vs wr => ∃ (u : Nat) (out : List UInt8), vn = .int .i64 (-(u : Int)) ∧ vs = .string (str out) ∧ DUp m u out ∧ u ≤ m ∧ w = wr) (fun vn _ _ => (intOf vn).natAbs)
    case atStart => exact ⟨m, [], rfl, rfl, .inr ⟨hm0, by simp⟩, Nat.le_refl _, rfl⟩
    case round =>
      obtain ⟨u, out, rfl, rfl, hd, hum, rfl⟩ := hrel
      have hol := hd.len hm
      have hso : (str out).size = out.length := str_size out
      by_cases hu : u = 0
      · subst hu
        have hout : out = Lib.decDigits m := by
          rcases hd with ⟨_, h⟩ | ⟨h, _⟩
          · exact h
          · omega
        subst hout
        clear hd
        have hcat : (⟨#[45]⟩ : ByteArray) ++ str (Lib.decDigits m) = str (45 :: Lib.decDigits m) := str_append [45] _
        have hs1 : (⟨#[45]⟩ : ByteArray).size = 1 := rfl
        go_wp2
        go_ret
        exact ⟨by rw [HI.out]; rfl, rfl⟩
      · have hst := DUp.step hd (by omega)
        obtain ⟨d, hdd⟩ : ∃ d, d = u % 10 := ⟨_, rfl⟩
        obtain ⟨v, hvv⟩ : ∃ v, v = u / 10 := ⟨_, rfl⟩
        rw [← hdd, ← hvv] at hst
        have hd10 : d < 10 := by omega
        have hvu : v < u := by omega
        have HST := Lib.hid hst
        have t0 : ¬ (-(u : Int)) = 0 := by omega
        have t1 : (-(u : Int)).tmod 10 = -(d : Int) := by rw [Int.neg_tmod, Int.tmod_eq_emod_of_nonneg (by omega)]; omega
        have t2 : (-(u : Int)).tdiv 10 = -(v : Int) := by rw [Int.neg_tdiv, Int.tdiv_eq_ediv_of_nonneg (by omega)]; omega
        have t3 : IntKind.i64.wrap (-(v : Int)) = (-(v : Int)) := IntWalk.i64_in _ (by omega)
        have x1 := dig_ext d hd10
        have n1 : ((d : Int) + 1).toNat = d + 1 := by omega
        have p1 : (0 : Int) ≤ (d : Int) + 1 := by omega
        have p3 : (d : Int) + 1 ≤ 10 := by omega
        have p5 : (d : Int) ≤ (d : Int) + 1 := by omega
        have s1 : (str [Rq.dig d]).size = 1 := rfl
        have c1 : str [Rq.dig d] ++ str out = str (Rq.dig d :: out) := str_append [Rq.dig d] out
        clear hd hst hdd hvv
        by_cases hz : d = 0
        · subst hz
          have t4 : (-(u : Int)).tmod 10 = 0 := by rw [t1]; rfl
          clear t1
          go_wp2_with fail
          go_roundw
          case rel => exact ⟨v, _, rfl, rfl, HST.out, by omega, by trivial⟩
          case measure => simp [intOf]; omega
        · have hdp : -(d : Int) < 0 := by omega
          go_wp2_with fail
          go_roundw
          case rel => exact ⟨v, _, rfl, rfl, HST.out, by omega, by trivial⟩
          case measure => simp [intOf]; omega
  · obtain ⟨m, rfl⟩ : ∃ m : Nat, n = (m : Int) := ⟨n.natAbs, by omega⟩
    have hi : Lib.itoa (m : Int) = Lib.decDigits m := by unfold Lib.itoa; rw [if_neg (by omega)]; congr 1
    have HI := Lib.hid hi
    have hm : m < 10000000000000000000 := by omega
    have hm0 : 0 < m := by omega
    have hmt : m ≤ 9223372036854775808 := by omega
    have q0 : ¬ ((m : Int) < 10) := by omega
    clear hi h0 hsm
    go_enter Tryd.func21, Tryd.ntmps21
    go_wp2_with fail
    go_loopw [0, 3] (fun vn vs wr => ∃ (u : Nat) (out : List UInt8), vn = .int .i64 (u : Int) ∧ vs = .string (str out) ∧ DUp m u out ∧ u ≤ m ∧ w = wr) (fun vn _ _ => (intOf vn).natAbs)
    case atStart => exact ⟨m, [], rfl, rfl, .inr ⟨hm0, by simp⟩, Nat.le_refl _, rfl⟩
    case round =>
      obtain ⟨u, out, rfl, rfl, hd, hum, rfl⟩ := hrel
      have hol := hd.len hm
      have hso : (str out).size = out.length := str_size out
      by_cases hu : u = 0
      · subst hu
        have hout : out = Lib.decDigits m := by
          rcases hd with ⟨_, h⟩ | ⟨h, _⟩
          · exact h
          · omega
        subst hout
        clear hd
        have hcat : (⟨#[]⟩ : ByteArray) ++ str (Lib.decDigits m) = str (Lib.decDigits m) := str_append [] _
        have hs1 : (⟨#[]⟩ : ByteArray).size = 0 := rfl
        go_wp2
        go_ret
        exact ⟨by rw [HI.out]; rfl, rfl⟩
      · have hst := DUp.step hd (by omega)
        obtain ⟨d, hdd⟩ : ∃ d, d = u % 10 := ⟨_, rfl⟩
        obtain ⟨v, hvv⟩ : ∃ v, v = u / 10 := ⟨_, rfl⟩
        rw [← hdd, ← hvv] at hst
        have hd10 : d < 10 := by omega
        have hvu : v < u := by omega
        have HST := Lib.hid hst
        have t0 : ¬ (u : Int) = 0 := by omega
        have t1 : (u : Int).tmod 10 = (d : Int) := by rw [Int.tmod_eq_emod_of_nonneg (by omega)]; omega
        have t2 : (u : Int).tdiv 10 = (v : Int) := by rw [Int.tdiv_eq_ediv_of_nonneg (by omega)]; omega
        have t3 : IntKind.i64.wrap (v : Int) = (v : Int) := IntWalk.i64_in _ (by omega)
        have x1 := dig_ext d hd10
        have n1 : ((d : Int) + 1).toNat = d + 1 := by omega
        have p1 : (0 : Int) ≤ (d : Int) + 1 := by omega
        have p3 : (d : Int) + 1 ≤ 10 := by omega
        have p5 : (d : Int) ≤ (d : Int) + 1 := by omega
        have s1 : (str [Rq.dig d]).size = 1 := rfl
        have c1 : str [Rq.dig d] ++ str out = str (Rq.dig d :: out) := str_append [Rq.dig d] out
        clear hd hst hdd hvv
        go_wp2_with fail
        go_roundw
        case rel => exact ⟨v, _, rfl, rfl, HST.out, by omega, by trivial⟩
        case measure => simp [intOf]; omega
end Go.Proofs.YtgidnkodgdoijaaDoor

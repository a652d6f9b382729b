/- The walk of the reference's Quote (at a seat without Unquote). -/
import Derived.Test.YtgidnkodgdoijaaDoorRqT
import Derived.BigQuiet
namespace Go.Proofs.YtgidnkodgdoijaaDoor
open Go Go.RowKit
set_option linter.unusedVariables false

theorem extract_one (s : ByteArray) (k : Nat) (h : k < s.size) : s.extract k (k + 1) = str [s[k]] := by
  apply ByteArray.ext
  rw [ByteArray.data_extract]
  apply Array.toList_inj.1
  rw [Array.toList_extract]
  show (s.data.toList.drop k).take (k + 1 - k) = [s[k]]
  rw [show k + 1 - k = 1 by omega, show s.data.toList.drop k = s[k] :: (lst s).drop (k + 1) from lst_drop s k h]; rfl
theorem hd_ext (n : Nat) (h : n < 16) : (⟨#[48, 49, 50, 51, 52, 53, 54, 55, 56, 57, 65, 66, 67, 68, 69, 70]⟩ : ByteArray).extract n (n + 1) = str [Rq.hd n] := by
  have : ∀ i : Fin 16, ((⟨#[48, 49, 50, 51, 52, 53, 54, 55, 56, 57, 65, 66, 67, 68, 69, 70]⟩ : ByteArray).extract i.val (i.val + 1)).data = (str [Rq.hd i.val]).data := by decide
  exact ByteArray.ext (this ⟨n, h⟩)
set_option maxRecDepth 100000 in
set_option maxHeartbeats 8000000 in
theorem rquote_any (s : ByteArray) (hs : s.size ≤ 35184372088832) (w : World) : Calls Tryd.prog 22 #[.string s] w fun e w' => e = .returned (.string (str (Rq.quote (lst s)))) ∧ Below w.heap.size w w' := by
  by_cases h0 : lst s = []
  · have hs0 : s = ⟨#[]⟩ := by rw [← str_lst s, h0]; rfl
    subst hs0
    go_enter Tryd.func22, Tryd.ntmps22
    go_wp2
    go_ret
    exact ⟨rfl, Below.refl _ _⟩
  have hse : s.toList.isEmpty = false := by rw [← str_lst s]; exact str_ne h0
  have HQ := Lib.hid (quote_ne h0)
  clear h0
  go_enter Tryd.func22, Tryd.ntmps22
  go_wp2_with fail
  go_loopw [3, 4] (fun vo vi wr => ∃ k : Nat, k ≤ s.size ∧ vi = .int .i64 k ∧ vo = .string (str (Rq.qs ((lst s).take k))) ∧ Below w.heap.size w wr) (fun _ vi _ => s.size - (intOf vi).toNat)
  case atStart => exact ⟨0, by omega, rfl, rfl, Below.refl _ _⟩
  case round =>
    obtain ⟨k, hk, rfl, rfl, hb⟩ := hrel
    have HB := Lib.hid hb; clear hb
    by_cases hlt : k < s.size
    · have hat := lst_at s k hlt
      have hqt := Rq.qs_take hat
      have hql := (Rq.qs_len ((lst s).take k)).2
      have htl : ((lst s).take k).length ≤ k := by rw [List.length_take]; omega
      have hone := extract_one s k hlt
      have HQT := Lib.hid hqt
      clear hat hqt
      generalize Rq.qs ((lst s).take k) = out at *
      have hso : (str out).size = out.length := str_size out
      go_wp2_with fail
      refine (rplain_any s[k] _).mono ?_
      rintro e w9 ⟨rfl, rfl⟩
      cases hp : Rq.pl s[k]
      · have hqb : Rq.qb s[k] = [37, Rq.hd (s[k].toNat / 16), Rq.hd (s[k].toNat % 16)] := by unfold Rq.qb; rw [hp]; rfl
        rw [hqb] at HQT
        have hy := s[k].toNat_lt
        obtain ⟨m, hm⟩ : ∃ m, m = s[k].toNat / 16 := ⟨_, rfl⟩
        obtain ⟨n, hn⟩ : ∃ n, n = s[k].toNat % 16 := ⟨_, rfl⟩
        rw [← hm, ← hn] at HQT
        have hm16 : m < 16 := by omega
        have hn16 : n < 16 := by omega
        have t1 : (s[k].toNat : Int).tdiv 16 = (m : Int) := by rw [Int.tdiv_eq_ediv_of_nonneg (by omega)]; omega
        have t2 : (s[k].toNat : Int).tmod 16 = (n : Int) := by rw [Int.tmod_eq_emod_of_nonneg (by omega)]; omega
        have t3 : IntKind.u8.wrap (m : Int) = (m : Int) := by rw [IntKind.wrap_u8]; omega
        have t4 : IntKind.u8.wrap (n : Int) = (n : Int) := by rw [IntKind.wrap_u8]; omega
        have t5 : IntKind.u8.wrap ((m : Int) + 1) = (m : Int) + 1 := by rw [IntKind.wrap_u8]; omega
        have t6 : IntKind.u8.wrap ((n : Int) + 1) = (n : Int) + 1 := by rw [IntKind.wrap_u8]; omega
        have x1 := hd_ext m hm16
        have x2 := hd_ext n hn16
        have s1 : (str [Rq.hd m]).size = 1 := rfl
        have s2 : (str [Rq.hd n]).size = 1 := rfl
        have s3 : (⟨#[37]⟩ : ByteArray).size = 1 := rfl
        have c1 : (⟨#[37]⟩ : ByteArray) ++ str [Rq.hd m] = str [37, Rq.hd m] := str_append [37] [Rq.hd m]
        have s4 : (str [37, Rq.hd m]).size = 2 := rfl
        have c2 : str [37, Rq.hd m] ++ str [Rq.hd n] = str [37, Rq.hd m, Rq.hd n] := str_append [37, Rq.hd m] [Rq.hd n]
        have s5 : (str [37, Rq.hd m, Rq.hd n]).size = 3 := rfl
        have c3 : str out ++ str [37, Rq.hd m, Rq.hd n] = str (out ++ [37, Rq.hd m, Rq.hd n]) := str_append _ _
        have b1 : out.length + 3 ≤ 9223372036854775807 := by omega
        have n1 : ((m : Int) + 1).toNat = m + 1 := by omega
        have n2 : ((n : Int) + 1).toNat = n + 1 := by omega
        have p1 : (0 : Int) ≤ (m : Int) + 1 := by omega
        have p2 : (0 : Int) ≤ (n : Int) + 1 := by omega
        have p3 : (m : Int) + 1 ≤ 16 := by omega
        have p4 : (n : Int) + 1 ≤ 16 := by omega
        have p5 : (m : Int) ≤ (m : Int) + 1 := by omega
        have p6 : (n : Int) ≤ (n : Int) + 1 := by omega
        clear hqb hp hm hn
        go_wp2_with fail
        go_quiet (fail)
        clear t1 t2 t3 t4 t5 t6 x1 x2 c1 c2 c3 s1 s2 s3 s4 s5 n1 n2
        go_wp2
        go_roundw
        case rel => exact ⟨k + 1, by omega, by go_num, by rw [HQT.out], below_drewN HB.out _⟩
        case measure => simp [intOf]; omega
      · have hqb : Rq.qb s[k] = [s[k]] := by unfold Rq.qb; rw [hp]; rfl
        rw [hqb] at HQT
        have hcat : str out ++ str [s[k]] = str (out ++ [s[k]]) := str_append _ _
        have hc1 : (str [s[k]]).size = 1 := rfl
        have hc2 : out.length + 1 ≤ 9223372036854775807 := by omega
        clear hqb hp
        go_wp2
        go_roundw
        case rel => exact ⟨k + 1, by omega, by go_num, by rw [HQT.out], HB.out⟩
        case measure => simp [intOf]; omega
    · have hjn : k = s.size := by omega
      have htk : (lst s).take k = lst s := by rw [hjn, ← lst_length, List.take_length]
      rw [htk]
      clear hjn htk
      go_wp2
      go_ret
      exact ⟨by rw [HQ.out]; rfl, HB.out⟩
end Go.Proofs.YtgidnkodgdoijaaDoor

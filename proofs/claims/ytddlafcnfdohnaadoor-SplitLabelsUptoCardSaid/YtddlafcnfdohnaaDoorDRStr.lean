/- The walk of the document's Strings. -/
import Derived.Test.YtddlafcnfdohnaaDoorDSplit
import Derived.Test.YtddlafcnfdohnaaDoorAppend
namespace Go.Proofs.YtddlafcnfdohnaaDoor
open Go Go.RowKit
set_option linter.unusedVariables false

def str (s : List UInt8) : ByteArray := ⟨s.toArray⟩
def lst (s : ByteArray) : List UInt8 := s.data.toList
theorem str_lst (s : ByteArray) : str (lst s) = s := by cases s; rfl
theorem lst_str (l : List UInt8) : lst (str l) = l := rfl
theorem lst_length (s : ByteArray) : (lst s).length = s.size := rfl
theorem str_size (l : List UInt8) : (str l).size = l.length := rfl
theorem lst_at (s : ByteArray) (j : Nat) (h : j < s.size) : (lst s)[j]? = some s[j] := by
  unfold lst
  rw [Array.getElem?_toList, Array.getElem?_eq_getElem (show j < s.data.size from h)]; rfl
theorem lst_drop (s : ByteArray) (j : Nat) (h : j < s.size) : (lst s).drop j = s[j] :: (lst s).drop (j + 1) := by
  have h1 := lst_at s j h
  obtain ⟨h2, h3⟩ := List.getElem?_eq_some_iff.1 h1
  rw [List.drop_eq_getElem_cons h2, h3]
theorem extract_drop (s : ByteArray) (k : Nat) (h : k ≤ s.size) : s.extract k s.size = str ((lst s).drop k) := by
  apply ByteArray.ext
  rw [ByteArray.data_extract]
  apply Array.toList_inj.1
  rw [Array.toList_extract]
  show (s.data.toList.drop k).take (s.size - k) = s.data.toList.drop k
  apply List.take_of_length_le
  rw [List.length_drop]; exact Nat.le_refl _
theorem extract_take (s : ByteArray) (k : Nat) (h : k ≤ s.size) : s.extract 0 k = str ((lst s).take k) := by
  apply ByteArray.ext
  rw [ByteArray.data_extract]
  apply Array.toList_inj.1
  rw [Array.toList_extract]
  show (s.data.toList.drop 0).take (k - 0) = s.data.toList.take k
  rfl
theorem str_append (L M : List UInt8) : str L ++ str M = str (L ++ M) := by
  apply ByteArray.ext
  rw [ByteArray.data_append]
  simp [str]
theorem own_below {w w' : World} {base : Nat} {e : TypeId} {v : Value} {n : Nat} {xs : List Value} {W : World} (ho : w.ownsRow base e 1 v n xs) (hb : Below base W w) (o : Obj) (hg : (w.alloc o).grownBy w' v.ownBlock) (hbw : base ≤ w.heap.size) : Below base W w' :=
  (hb.alloc hbw o).grown hg (by simp; omega) (fun q h => (ho.lt q h).1)

theorem cut_ne (l : List UInt8) : cut46 l ≠ [] := by
  cases l with
  | nil => simp [cut46]
  | cons b r => unfold cut46; split <;> (try split) <;> simp
/-- A word ahead of the rest. -/
def pre46 (x : List UInt8) : List (List UInt8) → List (List UInt8)
  | [] => [x]
  | h :: t => (x ++ h) :: t
theorem pre46_nil {l : List (List UInt8)} (h : l ≠ []) : pre46 [] l = l := by cases l with | nil => exact absurd rfl h | cons a b => rfl
theorem cut_cons {b : UInt8} (r : List UInt8) (h : b ≠ 46) : cut46 (b :: r) = pre46 [b] (cut46 r) := by
  conv => lhs; unfold cut46
  rw [if_neg h]
  have := cut_ne r
  cases hs : cut46 r with
  | nil => exact absurd hs this
  | cons a t => rfl
theorem cut_dot1 (r : List UInt8) : cut46 (46 :: r) = [] :: cut46 r := by conv => lhs; unfold cut46; rw [if_pos rfl]
theorem pre46_pre (x y : List UInt8) (l : List (List UInt8)) (h : l ≠ []) : pre46 x (pre46 y l) = pre46 (x ++ y) l := by
  cases l with | nil => exact absurd rfl h | cons a b => simp [pre46]
theorem cut_word : ∀ (x : List UInt8) (r : List UInt8), (46 : UInt8) ∉ x → cut46 (x ++ r) = pre46 x (cut46 r)
  | [], r, _ => (pre46_nil (cut_ne r)).symm
  | b :: x, r, h => by
    have hb : b ≠ 46 := fun e => h (by rw [e]; simp)
    rw [List.cons_append, cut_cons _ hb, cut_word x r (fun e => h (List.mem_cons_of_mem _ e)), pre46_pre _ _ _ (cut_ne r)]; rfl
theorem pre46_app (cur : List UInt8) (b : UInt8) (l : List (List UInt8)) (h : l ≠ []) : pre46 cur (pre46 [b] l) = pre46 (cur ++ [b]) l := pre46_pre cur [b] l h
/-- The last string of a row of the call's own. -/
theorem str_last {w : World} {base n c : Nat} {A : Option Addr} {L : List ByteArray} {v : ByteArray} (h : w.ownsRow base 9 1 (.slice A (n + 1) c) (n + 1) (strs (L ++ [v]))) (hL : L.length = n) :
    ∃ g, A = some ⟨g, 0, none⟩ ∧ base ≤ g ∧ g < w.heap.size ∧ w.cell? ⟨g, n, none⟩ = some (.string v) ∧ w.frozen? ⟨g, n, none⟩ = false ∧
      ∀ u, (w.setCell ⟨g, n, none⟩ (.string u)).ownsRow base 9 1 (.slice (some ⟨g, 0, none⟩) (n + 1) c) (n + 1) (strs (L ++ [u])) := by
  rcases h.2 with ⟨_, h0⟩ | ⟨g, cap, cur, hv, hbg, hh, hnc, hcm, hsz, htk⟩
  · omega
  · injection hv with e1 e2 e3
    subst e1; subst e3
    have hc := h.cellAt n (by omega)
    have hat : (strs (L ++ [v]))[n]? = some (.string v) := by rw [strs_at, ← hL]; simp
    refine ⟨g, rfl, hbg, (Array.getElem?_eq_some_iff.1 hh).1, hc.trans hat, h.frozenAt _, fun u => ?_⟩
    have hs := (h.stored n (.string u)).1
    have : (strs (L ++ [v])).set n (.string u) = strs (L ++ [u]) := by
      rw [strs_append, strs_append, List.set_append_right _ _ (by rw [strs_length]; omega), strs_length, hL]
      simp [strs]
    rwa [this] at hs
set_option maxRecDepth 100000 in
set_option maxHeartbeats 8000000 in
theorem rstrings_any (s : ByteArray) (hs : s.size ≤ 2000000) (w : World) : Calls Tryd.prog 15 #[.string s] w (RetS 9 ((cut46 (lst s)).map str) w) := by
  have hown0 := own_built w w.heap.size 9 #[.string ⟨#[]⟩] 1 rfl (by decide) (Nat.le_refl _)
  have HO0 := Lib.hid hown0; clear hown0
  go_enter Tryd.func15, Tryd.ntmps15
  go_wp2_with fail
  go_loopw [3, 4] (fun vo vi wr => ∃ (k n : Nat) (ini : List (List UInt8)) (cur : List UInt8) (A : Option Addr) (c : Nat), k ≤ s.size ∧ vi = .int .i64 k ∧ vo = .slice A (n + 1) c ∧ ini.length = n ∧ n + cur.length ≤ k ∧
      wr.ownsRow w.heap.size 9 1 (.slice A (n + 1) c) (n + 1) (strs (ini.map str ++ [str cur])) ∧ Below w.heap.size w wr ∧ cut46 (lst s) = ini ++ pre46 cur (cut46 ((lst s).drop k))) (fun _ vi _ => s.size - (intOf vi).toNat)
  case atStart => exact ⟨0, 0, [], [], some ⟨w.heap.size, 0, none⟩, 1, by omega, rfl, rfl, rfl, by simp, HO0.out, (Below.refl _ _).alloc (Nat.le_refl _) _, by rw [List.drop_zero, pre46_nil (cut_ne _)]; rfl⟩
  case round =>
    obtain ⟨k, n, ini, cur, A, c, hk, rfl, rfl, hn, hnc, ho, hb, hsp⟩ := hrel
    have HO := Lib.hid ho; have HB := Lib.hid hb; have HSP := Lib.hid hsp; have HN := Lib.hid hn
    have hsw := hb.size
    clear ho hb hsp hn
    by_cases hlt : k < s.size
    · have hdr := lst_drop s k hlt
      by_cases h32 : s[k] = 46
      · have hsp2 : cut46 (lst s) = (ini ++ [cur]) ++ pre46 [] (cut46 ((lst s).drop (k + 1))) := by
          rw [HSP.out, hdr, h32, cut_dot1, pre46_nil (cut_ne _)]
          simp [pre46]
        have g2 : ((s[k].toNat : Int) == 46) = true := by rw [h32]; rfl
        have hwl : (ini ++ [cur]).map str ++ [str []] = ini.map str ++ [str cur, (⟨#[]⟩ : ByteArray)] := by simp; rfl
        have HS2 := Lib.hid hsp2; have HWL := Lib.hid hwl
        clear hsp2 h32 hdr hwl
        go_wp2_with (at_builtin; refine app_str (by rfl) _ _ rfl (base := w.heap.size) rfl (HO.out.alloc _) rfl (rd_one_str wr ⟨#[]⟩) (by omega) (by simp <;> omega) ?_)
        intro A4 c4 w4 ho4 hg4 hc4
        have HP := Lib.hid (own_below HO.out HB.out _ hg4 hsw)
        have HO4 := Lib.hid ho4
        clear ho4 hg4 hc4
        go_wp2
        go_roundw
        case rel => exact ⟨k + 1, n + 1, ini ++ [cur], [], A4, c4, by omega, by go_num, rfl, by simp; exact HN.out, by simp; omega, by rw [HWL.out]; exact HO4.out, HP.out, HS2.out⟩
        case measure => simp [intOf]; omega
      · have hsp2 : cut46 (lst s) = ini ++ pre46 (cur ++ [s[k]]) (cut46 ((lst s).drop (k + 1))) := by
          rw [HSP.out, hdr, cut_cons _ h32, pre46_app _ _ _ (cut_ne _)]
        have g2 : ((s[k].toNat : Int) == 46) = false := by
          rw [beq_eq_false_iff_ne]
          intro e
          apply h32
          apply UInt8.toNat_inj.1
          show (s[k]).toNat = 46
          omega
        have HS2 := Lib.hid hsp2
        obtain ⟨g, rfl, hgb, hgw, hcell, hfz, hst⟩ := str_last HO.out (by simp; exact HN.out)
        have hone : s.extract k (k + 1) = str [s[k]] := by
          apply ByteArray.ext
          rw [ByteArray.data_extract]
          apply Array.toList_inj.1
          rw [Array.toList_extract]
          show (s.data.toList.drop k).take (k + 1 - k) = [s[k]]
          rw [show k + 1 - k = 1 by omega, show s.data.toList.drop k = s[k] :: (lst s).drop (k + 1) from hdr]; rfl
        have hcat : str cur ++ str [s[k]] = str (cur ++ [s[k]]) := str_append _ _
        have hcl : (str cur).size = cur.length := str_size cur
        have hcl2 : (str (cur ++ [s[k]])).size ≤ 9223372036854775807 := by rw [str_size]; simp; omega
        have hcl3 : (str [s[k]]).size = 1 := rfl
        have hcl4 : cur.length + 1 ≤ 9223372036854775807 := by omega
        have HST := Lib.hid hst
        have p1 : IntKind.i64.wrap (n : Int) = (n : Int) := IntWalk.i64_in _ (by omega)
        have p2 : ¬ ((n : Int) + 1 ≤ (n : Int)) := by omega
        have p3 : IntKind.i64.wrap ((k : Int) + 1) = (k : Int) + 1 := IntWalk.i64_in _ (by omega)
        have p4 : (0 : Int) ≤ (k : Int) + 1 := by omega
        have p5 : (k : Int) + 1 ≤ (s.size : Int) := by omega
        have p6 : (k : Int) ≤ (k : Int) + 1 := by omega
        clear hsp2 h32 hdr hst
        go_wp2_with fail
        refine wp_region_any (by kernel_rfl) ?_
        change wpAny _ _ _ _ 14 #[false, false, false, false, false, false, false, false, false, false, false, false, false, false] _ (World.drew _)
        refine wpAny_take (i := 0) (v := .slice (some ⟨g, 0, none⟩) (n + 1) c) rfl (by kernel_rfl) (by kernel_rfl) (by kernel_rfl) (fun _ _ _ h => h) (Or.inl ⟨by rfl, fun w => ?_⟩) ?_
        · go_simp
        try simp only [Act.put, List.setIfInBounds_toArray, List.set_cons_zero, List.set_cons_succ]
        refine wpAny_take (i := 1) (v := .slice (some ⟨g, 0, none⟩) (n + 1) c) rfl (by kernel_rfl) (by kernel_rfl) (by kernel_rfl) (fun _ _ _ h => h) (Or.inl ⟨by rfl, fun w => ?_⟩) ?_
        · go_simp
        try simp only [Act.put, List.setIfInBounds_toArray, List.set_cons_zero, List.set_cons_succ]
        refine wpAny_take (i := 2) (v := .int .i64 ((n : Int) + 1)) rfl (by kernel_rfl) (by kernel_rfl) (by kernel_rfl) (fun _ _ _ h => h) (Or.inl ⟨by rfl, fun w => ?_⟩) ?_
        · go_simp
        try simp only [Act.put, List.setIfInBounds_toArray, List.set_cons_zero, List.set_cons_succ]
        refine wpAny_take (i := 3) (v := .int .i64 n) rfl (by kernel_rfl) (by kernel_rfl) (by kernel_rfl) (fun _ _ _ h => h) (Or.inl ⟨by rfl, fun w => ?_⟩) ?_
        · go_simp
        try simp only [Act.put, List.setIfInBounds_toArray, List.set_cons_zero, List.set_cons_succ]
        refine wpAny_take (i := 4) (v := .pointer (some ⟨g, n, none⟩)) rfl (by kernel_rfl) (by kernel_rfl) (by kernel_rfl) (fun _ _ _ h => h) (Or.inl ⟨by rfl, fun w => ?_⟩) ?_
        · go_simp
        try simp only [Act.put, List.setIfInBounds_toArray, List.set_cons_zero, List.set_cons_succ]
        refine wpAny_take (i := 6) (v := .string s) rfl (by kernel_rfl) (by kernel_rfl) (by kernel_rfl) (fun _ _ _ h => h) (Or.inl ⟨by rfl, fun w => ?_⟩) ?_
        · go_simp
        try simp only [Act.put, List.setIfInBounds_toArray, List.set_cons_zero, List.set_cons_succ]
        refine wpAny_take (i := 7) (v := .int .i64 k) rfl (by kernel_rfl) (by kernel_rfl) (by kernel_rfl) (fun _ _ _ h => h) (Or.inl ⟨by rfl, fun w => ?_⟩) ?_
        · go_simp
        try simp only [Act.put, List.setIfInBounds_toArray, List.set_cons_zero, List.set_cons_succ]
        refine wpAny_take (i := 8) (v := .int .i64 k) rfl (by kernel_rfl) (by kernel_rfl) (by kernel_rfl) (fun _ _ _ h => h) (Or.inl ⟨by rfl, fun w => ?_⟩) ?_
        · go_simp
        try simp only [Act.put, List.setIfInBounds_toArray, List.set_cons_zero, List.set_cons_succ]
        refine wpAny_take (i := 9) (v := .int .i64 (k + 1)) rfl (by kernel_rfl) (by kernel_rfl) (by kernel_rfl) (fun _ _ _ h => h) (Or.inl ⟨by rfl, fun w => ?_⟩) ?_
        · go_simp
        try simp only [Act.put, List.setIfInBounds_toArray, List.set_cons_zero, List.set_cons_succ]
        refine wpAny_take (i := 10) (v := .string (str [s[k]])) rfl (by kernel_rfl) (by kernel_rfl) (by kernel_rfl) (fun _ _ _ h => h) (Or.inl ⟨by rfl, fun w => ?_⟩) ?_
        · go_simp
        try simp only [Act.put, List.setIfInBounds_toArray, List.set_cons_zero, List.set_cons_succ]
        refine wpAny_ready (rs := [5]) (by kernel_rfl) (by simp) ?_
        refine AllReady.cons rfl (fun K hK => ?_) AllReady.nil
        go_simp
        refine hK _ _ ?_
        clear hK K
        try simp only [Act.put, List.setIfInBounds_toArray, List.set_cons_zero, List.set_cons_succ]
        refine wpAny_take (i := 11) (v := .string (str (cur ++ [s[k]]))) rfl (by kernel_rfl) (by kernel_rfl) (by kernel_rfl) (fun _ _ _ h => h) (Or.inl ⟨by rfl, fun w => ?_⟩) ?_
        · go_simp
        try simp only [Act.put, List.setIfInBounds_toArray, List.set_cons_zero, List.set_cons_succ]
        refine wpAny_take (i := 12) (v := .pointer (some ⟨g, n, none⟩)) rfl (by kernel_rfl) (by kernel_rfl) (by kernel_rfl) (fun _ _ _ h => h) (Or.inl ⟨by rfl, fun w => ?_⟩) ?_
        · go_simp
        try simp only [Act.put, List.setIfInBounds_toArray, List.set_cons_zero, List.set_cons_succ]
        refine wpAny_ready (rs := [13]) (by kernel_rfl) (by simp) ?_
        refine AllReady.cons rfl (fun K hK => ?_) AllReady.nil
        go_simp
        refine hK _ _ ?_
        clear hK K
        try simp only [Act.put, List.setIfInBounds_toArray, List.set_cons_zero, List.set_cons_succ]
        refine wpAny_done (by kernel_rfl) ?_ _
        go_step
        go_wp2
        go_roundw
        case rel => exact ⟨k + 1, n, ini, cur ++ [s[k]], some ⟨g, 0, none⟩, c, by omega, by go_num, rfl, HN.out, by simp; omega, HST.out _, HB.out.drew.setCell (by omega) _, HS2.out⟩
        case measure => simp [intOf]; omega
    · have hkn : k = s.size := by omega
      have hd : (lst s).drop k = [] := List.drop_of_length_le (by rw [lst_length]; omega)
      have hfin : (cut46 (lst s)).map str = ini.map str ++ [str cur] := by rw [HSP.out, hd]; simp [cut46, pre46]
      have HF := Lib.hid hfin
      clear hd hfin
      go_wp2
      go_ret
      have hl : n + 1 = (ini.map str ++ [str cur]).length := by simp; exact HN.out.symm
      rw [HF.out]
      exact ⟨A, c, by rw [← hl]; rfl, by rw [← hl]; exact HO.out, HB.out⟩
end Go.Proofs.YtddlafcnfdohnaaDoor

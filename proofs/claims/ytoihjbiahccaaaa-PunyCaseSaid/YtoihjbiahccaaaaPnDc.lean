/- The walk of puny.Decode: it returns what the plain law reads. -/
import Derived.Test.YtoihjbiahccaaaaPnShelf
namespace Go.Proofs.Ytoihjbiahccaaaa
open Go Go.RowKit
set_option linter.unusedVariables false

theorem last_is (s : ByteArray) : (Lib.lastIndexByte s 45 = (Pn.lastD (lst s) : Int)) ∨ (Lib.lastIndexByte s 45 = -1 ∧ Pn.lastD (lst s) = 0) := by
  have hat : ∀ j : Nat, j < s.size → ((((s.data[j]!).toNat : Int) = 45) ↔ (lst s)[j]? = some 45) := by
    intro j hj
    have hj' : j < s.data.size := hj
    rw [lst_at s j hj, getElem!_pos s.data j hj']
    show (((s.data[j]).toNat : Int) = 45) ↔ some s.data[j] = some 45
    constructor
    · intro h
      have : s.data[j].toNat = 45 := by omega
      congr 1
      apply UInt8.toNat_inj.1
      exact this
    · intro h
      injection h with h
      rw [h]; rfl
  rcases Lib.lastIndexByte_spec s 45 with ⟨h1, h2⟩ | ⟨i, h1, h2, h3, h4⟩
  · right
    refine ⟨h1, ?_⟩
    rcases Pn.lastUp_at (lst s) (lst s).length with h | ⟨h5, h6⟩
    · exact h
    · exfalso
      rw [lst_length] at h5 h6
      exact h2 _ h6 ((hat _ h6).2 h5)
  · left
    rw [h2]
    have g1 := Pn.lastUp_ge (lst s) i ((hat i h1).1 h3) (lst s).length (by rw [lst_length]; exact h1)
    rcases Pn.lastUp_at (lst s) (lst s).length with h | ⟨h5, h6⟩
    · have : Pn.lastD (lst s) = 0 := h
      have : i = 0 := by omega
      rw [‹Pn.lastD (lst s) = 0›, this]
    · rw [lst_length] at h5 h6
      by_cases he : i = Pn.lastD (lst s)
      · rw [he]
      · exfalso
        have : i < Pn.lastUp (lst s) s.size := by
          have e1 : Pn.lastD (lst s) = Pn.lastUp (lst s) s.size := by unfold Pn.lastD; rw [lst_length]
          rw [lst_length] at g1
          omega
        exact h4 _ this h6 ((hat _ h6).2 h5)
/-- The call returns a new slice of numbers and a number; all that was there is as it was. -/
def RetIE (r : List Int × Int) (w : World) (e : Ending) (w' : World) : Prop :=
  ∃ A c, e = .returned (.tuple #[.slice A r.1.length c, .int .i64 r.2]) ∧ w'.ownsRow w.heap.size 3 1 (.slice A r.1.length c) r.1.length (ints r.1) ∧ Below w.heap.size w w'
theorem RetIE.bad {r : List Int × Int} {n : Int} {w w' : World} (hr : r = ([], n)) (hb : Below w.heap.size w w') : RetIE r w (.returned (.tuple #[.slice none 0 0, .int .i64 n])) w' := by
  subst hr; exact ⟨none, 0, rfl, World.ownsRow_nil _ _ _ _, hb⟩
theorem own_low {w : World} {base base' : Nat} {e : TypeId} {size n : Nat} {v : Value} {xs : List Value} (h : w.ownsRow base e size v n xs) (hb : base' ≤ base) : w.ownsRow base' e size v n xs := by
  refine ⟨h.1, ?_⟩
  rcases h.2 with h2 | ⟨g, cap, cur, h1, h2, h3⟩
  · exact .inl h2
  · exact .inr ⟨g, cap, cur, h1, by omega, h3⟩
theorem decP_long {s : List UInt8} (h : 2048 < s.length) : Pn.decP s = ([], 7) := by unfold Pn.decP; rw [if_pos h]
/-- What '[]byte(s)' leaves. -/
theorem conv_bytes (s : ByteArray) (w : World) : ∃ (c : Nat) (w1 : World), (convert 9 38 (.string s)).run Try.prog w = .ok (.slice (some ⟨w.heap.size, 0, none⟩) s.size c) w1 ∧ Below w.heap.size w w1 ∧ w.heap.size < w1.heap.size ∧ s.size ≤ c ∧
    (∀ j b, (lst s)[j]? = some b → w1.cell? ⟨w.heap.size, j, none⟩ = some (.int .u8 (b.toNat : Int))) ∧ (∀ j, j < s.size → w1.frozen? ⟨w.heap.size, j, none⟩ = false) := by
  refine ⟨_, _, run_bytes_of_string w 9 38 5 s Try.underlying9 Try.underlying38 Try.underlying5, ((Below.refl _ w).drew).alloc (Nat.le_refl _) _, by simp, ?_, fun j b hj => ?_, fun j hj => ?_⟩
  · exact grownCap_ge w s.size 0 _
  · have hjs : j < s.size := by rw [← lst_length]; exact (List.getElem?_eq_some_iff.1 hj).1
    rw [lst_at s j hjs] at hj
    injection hj with hj; subst hj
    exact (World.cell?_alloc_mark w.drew _ _ _ j).trans (bytesRow_at s _ j hjs)
  · unfold World.frozen?
    rw [show (w.drew.alloc _).heap[w.heap.size]? = _ from heap_alloc_new w.drew _]
    have hsz : j < (bytesRow s (grownCap w s.size 0 5)).size := by
      unfold bytesRow
      simp only [Array.size_append, Array.size_map]
      have : s.size = s.data.size := rfl
      omega
    simp
    omega
theorem nums_succ {L : List UInt8} {k : Nat} {b : UInt8} (h : L[k]? = some b) : Pn.nums (L.take (k + 1)) = Pn.nums (L.take k) ++ [(b.toNat : Int)] := by
  obtain ⟨h1, h2⟩ := List.getElem?_eq_some_iff.1 h
  rw [List.take_succ_eq_append_getElem h1, h2]; simp [Pn.nums]
theorem nums_len (L : List UInt8) : (Pn.nums L).length = L.length := by simp [Pn.nums]
theorem ascii_succ {L : List UInt8} {k : Nat} {b : UInt8} (h : L[k]? = some b) : Pn.ascii (L.take (k + 1)) = (Pn.ascii (L.take k) && decide (b.toNat < 128)) := by
  obtain ⟨h1, h2⟩ := List.getElem?_eq_some_iff.1 h
  rw [List.take_succ_eq_append_getElem h1, h2]; simp [Pn.ascii]
theorem ascii_bad {L : List UInt8} {k n : Nat} {b : UInt8} (h : L[k]? = some b) (hk : k < n) (hb : ¬ b.toNat < 128) : Pn.ascii (L.take n) = false := by
  cases ha : Pn.ascii (L.take n) with
  | false => rfl
  | true =>
    exfalso
    have := List.all_eq_true.1 ha b (List.mem_of_getElem? (i := k) (by rw [List.getElem?_take_of_lt hk]; exact h))
    simp at this
    exact hb (by omega)
theorem dec_step {L : List UInt8} (hne : L ≠ []) (n i b : Int) (f : Bool) (out : List Int) : Pn.dec (L.length + 1) L n i b f out = match Pn.rd L 0 0 1 b with
    | none => ([], 12)
    | some (v, r) =>
      if 2147483647 < v ∨ 1114111 < n + (v + i) / (out.length + 1) then ([], 8)
      else if Pn.scalar (n + (v + i) / (out.length + 1)) then
        Pn.dec (r.length + 1) r (n + (v + i) / (out.length + 1)) ((v + i) % (out.length + 1) + 1) (Pn.adapt v (out.length + 1) f) false (Pn.ins out ((v + i) % (out.length + 1)).toNat (n + (v + i) / (out.length + 1)))
      else ([], 12) := by
  show Pn.dec (L.length + 1) L n i b f out = _
  conv => lhs; unfold Pn.dec
  rw [if_neg hne]
  cases hr : Pn.rd L 0 0 1 b with
  | none => rfl
  | some z =>
    obtain ⟨v, r⟩ := z
    have hl := (Pn.rd_bd L 0 0 1 b v r (by omega) (by omega) hr).2.2.1
    simp only
    split
    · rfl
    · split
      · exact Pn.dec_more _ _ _ _ _ _ _ (by omega) _ hl
      · rfl
theorem size_empty (s : ByteArray) : s.toList.isEmpty = decide (s.size = 0) := by
  rw [ByteArray.toList_eq]
  rcases s with ⟨d⟩
  by_cases h : d.size = 0
  · have : d = #[] := Array.eq_empty_of_size_eq_zero h
    subst this; rfl
  · have h2 : ¬ d.toList = [] := by intro e; apply h; rw [← Array.length_toList, e]; rfl
    have h3 : ByteArray.size ⟨d⟩ ≠ 0 := h
    simp [h3]
    intro e; apply h; rw [e]; rfl
theorem str_ne {L : List UInt8} (h : L ≠ []) : (str L).toList.isEmpty = false := by
  rw [size_empty, str_size]
  exact decide_eq_false (fun e => h (List.eq_nil_of_length_eq_zero e))
/-- Where the main loop stands. -/
def DcUp (w : World) (L : List UInt8) (vs vo : Value) (rest : List UInt8) (n i b : Int) (f : Bool) (wr : World) : Prop :=
  ∃ (out : List Int) (A : Option Addr) (c : Nat), vs = .string (str rest) ∧ vo = .slice A out.length c ∧ wr.ownsRow w.heap.size 3 1 (.slice A out.length c) out.length (ints out) ∧ Below w.heap.size w wr ∧
    out.length + rest.length ≤ 2048 ∧ Pn.dec (rest.length + 1) rest n i b f out = Pn.decP L ∧ 0 ≤ i ∧ i ≤ out.length
set_option maxRecDepth 100000 in
set_option maxHeartbeats 16000000 in
theorem decode_any (s : ByteArray) (hs : s.size ≤ 1000000000000000) (w : World) : Calls Try.prog 24 #[.string s] w (RetIE (Pn.decP (lst s)) w) := by
  by_cases hlong : 2048 < s.size
  · have hd := decP_long (s := lst s) (by rw [lst_length]; exact hlong)
    have HD := Lib.hid hd; clear hd
    go_enter Try.func24, Try.ntmps24
    go_wp2
    go_ret2
    exact RetIE.bad HD.out (Below.refl _ _)
  have hs2 : s.size ≤ 2048 := by omega
  clear hlong hs
  have hlast := last_is s
  have hdl : Pn.lastD (lst s) = 0 ∨ (0 < Pn.lastD (lst s) ∧ lst s = (lst s).take (Pn.lastD (lst s)) ++ [45] ++ (lst s).drop (Pn.lastD (lst s) + 1) ∧ Pn.lastD (lst s) < s.size) := by
    by_cases h : 0 < Pn.lastD (lst s)
    · have := Pn.lastD_at h; rw [lst_length] at this; exact .inr ⟨h, this⟩
    · exact .inl (by omega)
  have hdec : Pn.decP (lst s) = if 0 < Pn.lastD (lst s) then (if Pn.ascii ((lst s).take (Pn.lastD (lst s))) then Pn.dec ((lst s).length + 1) ((lst s).drop (Pn.lastD (lst s) + 1)) 128 0 72 true (Pn.nums ((lst s).take (Pn.lastD (lst s)))) else ([], 12))
      else Pn.dec ((lst s).length + 1) (lst s) 128 0 72 true [] := by
    conv => lhs; unfold Pn.decP
    rw [if_neg (by rw [lst_length]; omega)]
  have HDEC := Lib.hid hdec; clear hdec
  generalize hk : Pn.lastD (lst s) = K at *
  have HK := Lib.hid hk; clear hk
  go_enter Try.func24, Try.ntmps24
  go_wp2_with fail
  refine (last_any s 45 (by omega) _).mono ?_
  rintro e w1 ⟨rfl, rfl⟩
  generalize Lib.lastIndexByte s 45 = last at *
  go_upto_if 22 with fail
  go_cut [0, 4] (fun vs vo wx => ∃ rest, DcUp w1 (lst s) vs vo rest 128 0 72 true wx)
  case first =>
    rcases hdl with h0 | ⟨h0, h1, h2⟩
    · have hneg : ¬ (0 : Int) < last := by omega
      have hd := HDEC.out
      rw [if_neg (by omega)] at hd
      have HD := Lib.hid hd; clear hd hlast
      go_wp2_with fail
      go_meet
      case rel => exact ⟨lst s, [], none, 0, by rw [str_lst], rfl, World.ownsRow_nil _ _ _ _, Below.refl _ _, by rw [lst_length]; simp; omega, HD.out.symm, by omega, by omega⟩
    · have hpos : last = (K : Int) := by omega
      subst hpos
      have hd := HDEC.out
      rw [if_pos h0] at hd
      have HD := Lib.hid hd
      have hex := extract_take s K (by omega)
      have hesz : (s.extract 0 K).size = K := by rw [hex, str_size, List.length_take, lst_length]; omega
      obtain ⟨cc, w2, hcv, hbl2, hsz2, hcc, hcells, hfz⟩ := conv_bytes (s.extract 0 K) w1
      rw [hesz] at hcv
      have hlx : lst (s.extract 0 K) = (lst s).take K := by rw [hex, lst_str]
      rw [hlx] at hcells
      have hat : ∀ j, j < K → ∃ b, (lst s)[j]? = some b ∧ w2.cell? ⟨w1.heap.size, j, none⟩ = some (.int .u8 (b.toNat : Int)) := by
        intro j hj
        have h3 := List.getElem?_eq_getElem (l := lst s) (i := j) (by rw [lst_length]; omega)
        exact ⟨_, h3, hcells j _ (by rw [List.getElem?_take_of_lt hj]; exact h3)⟩
      have HAT := Lib.hid hat
      have HB2 := Lib.hid hbl2
      have HD1 := Lib.hid h1
      have hex2 := extract_drop s (K + 1) (by omega)
      have HEX2 := Lib.hid hex2
      clear hd hlast hex hesz hcells hbl2 hfz h1 hex2 hlx hat
      go_wp2_with fail
      have hdk : decide ((0 : Int) < (K : Int)) = true := decide_eq_true (by omega)
      rw [hdk]
      clear hdk
      go_loopw [4, 28] (fun vo vi wr => ∃ (j : Nat) (A : Option Addr) (c : Nat), j ≤ K ∧ vi = .int .i64 j ∧ vo = .slice A j c ∧ wr.ownsRow w2.heap.size 3 1 (.slice A j c) j (ints (Pn.nums ((lst s).take j))) ∧ Below w2.heap.size w2 wr ∧ Pn.ascii ((lst s).take j) = true) (fun _ vi _ => K - (intOf vi).toNat)
      case atStart => exact ⟨0, none, 0, by omega, rfl, rfl, World.ownsRow_nil _ _ _ _, Below.refl _ _, rfl⟩
      case round =>
        obtain ⟨j, A, c, hj, rfl, rfl, ho, hb, ha⟩ := hrel
        have HO := Lib.hid ho; have HB := Lib.hid hb; have HA := Lib.hid ha
        have hsw := hb.size
        clear ho hb ha hcv
        by_cases hlt : j < K
        · obtain ⟨b, hbj, hcell⟩ := HAT.out j hlt
          have hcell2 : wr.cell? ⟨w1.heap.size, j, none⟩ = some (.int .u8 (b.toNat : Int)) := (HB.out.cell (p := ⟨w1.heap.size, j, none⟩) hsz2).trans hcell
          have HBJ := Lib.hid hbj
          clear hbj hcell
          have hb256 := b.toNat_lt
          by_cases hb128 : b.toNat < 128
          · have hb1 : (b.toNat : Int) < 128 := by omega
            have hn := nums_succ HBJ.out
            have ha2 := ascii_succ HBJ.out
            rw [HA.out, decide_eq_true hb128] at ha2
            have HN := Lib.hid hn; have HA2 := Lib.hid (show Pn.ascii ((lst s).take (j + 1)) = true from ha2)
            clear hn ha2
            have hbi0 : (0 : Int) ≤ (b.toNat : Int) := by omega
            generalize (b.toNat : Int) = bi at *
            go_wp2_with (at_builtin; refine app_int (by rfl) _ _ rfl (base := w2.heap.size) rfl (HO.out.alloc _) rfl (rd_one_int (z := wr.heap.size) rfl bi) (by omega) (by simp <;> omega) ?_)
            intro A4 c4 w4 ho4 hg4 hc4
            have HP := Lib.hid (own_below HO.out HB.out _ hg4 hsw)
            have HO4 := Lib.hid (show w4.ownsRow w2.heap.size 3 1 (.slice A4 (j + 1) c4) (j + 1) (ints (Pn.nums ((lst s).take (j + 1)))) by rw [HN.out]; exact ho4)
            clear ho4 hg4 hc4
            go_wp2
            go_roundw
            case rel => exact ⟨j + 1, A4, c4, by omega, by go_num, rfl, HO4.out, HP.out, HA2.out⟩
            case measure => simp [intOf]; omega
          · have hb1 : (128 : Int) ≤ (b.toNat : Int) := by omega
            have hab := ascii_bad HBJ.out hlt hb128
            have hdd := HD.out
            rw [hab] at hdd
            have HDD := Lib.hid (show Pn.decP (lst s) = ([], 12) from hdd)
            clear hab hdd
            generalize (b.toNat : Int) = bi at *
            go_wp2
            go_ret2
            exact RetIE.bad HDD.out (HB2.out.trans (HB.out.mono (by omega)))
        · have hjK : j = K := by omega
          subst hjK
          have hdd := HD.out
          rw [HA.out, if_pos rfl] at hdd
          have hmr := Pn.dec_more ((lst s).length + 1) ((lst s).drop (j + 1)) 128 0 72 true (Pn.nums ((lst s).take j)) (by rw [List.length_drop]; omega) (((lst s).drop (j + 1)).length + 1) (by omega)
          have hnl : (Pn.nums ((lst s).take j)).length = j := by rw [nums_len, List.length_take, lst_length]; omega
          have hrl : ((lst s).drop (j + 1)).length + (j + 1) = s.size := by rw [List.length_drop, lst_length]; omega
          have HREL := Lib.hid (show DcUp w1 (lst s) (.string (str ((lst s).drop (j + 1)))) (.slice A j c) ((lst s).drop (j + 1)) 128 0 72 true wr from
            ⟨Pn.nums ((lst s).take j), A, c, rfl, by rw [hnl], by rw [hnl]; exact own_low HO.out (by omega), HB2.out.trans (HB.out.mono (by omega)), by rw [hnl]; omega, hmr.trans hdd.symm, by omega, by rw [hnl]; omega⟩)
          clear hdd hmr hnl hrl hlt hj
          have hks : j + 1 ≤ s.size := by omega
          go_wp2_with fail
          rw [HEX2.out]
          go_meet
          case rel => exact ⟨_, HREL.out⟩
  case rest =>
    obtain ⟨rest, hup⟩ := hcut
    have HUP := Lib.hid hup; clear hup hdl hlast
    go_wp2_with fail
    go_loopw [0, 4, 8, 9, 10, 11] (fun vs vo vf vn vi vb wr => ∃ (rest : List UInt8) (n i b : Int) (f : Bool), DcUp w1 (lst s) vs vo rest n i b f wr ∧ vf = .bool f ∧ vn = .int .i64 n ∧ vi = .int .i64 i ∧ vb = .int .i64 b ∧ 128 ≤ n ∧ n ≤ 1114111 ∧ 0 ≤ b ∧ b ≤ 720) (fun vs _ _ _ _ _ _ => match vs with | .string t => t.size | _ => 0)
    case atStart => exact ⟨rest, 128, 0, 72, true, HUP.out, rfl, rfl, rfl, rfl, by omega, by omega, by omega, by omega⟩
    case round =>
      obtain ⟨rst, n, i, b, f, ⟨out, A, c, rfl, rfl, ho, hb, hlen, hdc, i0, i1⟩, rfl, rfl, rfl, rfl, n0, n1, b0, b1⟩ := hrel
      have HO := Lib.hid ho; have HB := Lib.hid hb; have HDC := Lib.hid hdc
      have hsw := hb.size
      clear ho hb hdc HUP
      by_cases hne : rst = []
      · subst hne
        have hfin : Pn.decP (lst s) = (out, 0) := by rw [← HDC.out]; unfold Pn.dec; rw [if_pos rfl]
        have HF := Lib.hid hfin; clear hfin
        have hstr : str [] = (⟨#[]⟩ : ByteArray) := rfl
        rw [hstr]
        go_wp2
        go_ret2
        rw [HF.out]
        exact ⟨A, c, rfl, HO.out, HB.out⟩
      · have hsn := str_ne hne
        have hst := dec_step hne n i b f out
        have hrl : 0 < rst.length := List.length_pos_iff.2 hne
        have HST := Lib.hid hst; clear hst hne
        have hnum := number_any (str rst) b b0 (by omega) (by rw [str_size]; omega) wr
        rw [lst_str] at hnum
        have HNUM := Lib.hid hnum; clear hnum
        go_wp2_with fail
        refine HNUM.out.mono ?_
        rintro e w2 ⟨rfl, q, rfl⟩
        cases hr : Pn.rd rst 0 0 1 b with
        | none =>
          have hbad := HST.out
          rw [hr] at hbad
          have HBAD := Lib.hid (HDC.out.symm.trans hbad)
          clear hbad hr
          unfold numRet
          go_wp2
          go_ret2
          exact RetIE.bad HBAD.out (below_drewN HB.out q)
        | some z =>
          obtain ⟨v, r⟩ := z
          obtain ⟨v0, v1, r1, _⟩ := Pn.rd_bd rst 0 0 1 b v r (by omega) (by omega) hr
          have hst := HST.out
          rw [hr] at hst
          have HS2 := Lib.hid (HDC.out.symm.trans hst)
          clear hst hr
          unfold numRet
          replace HO := Lib.hid (show (wr.drewN q).ownsRow w1.heap.size 3 1 (.slice A out.length c) out.length (ints out) from HO.out)
          replace HB := Lib.hid (below_drewN HB.out q)
          have hsq : w1.heap.size ≤ (wr.drewN q).heap.size := hsw
          generalize wr.drewN q = wq at *
          by_cases hbig : 2147483647 < v
          · have hd := HS2.out
            try simp only at hd
            rw [if_pos (.inl hbig)] at hd
            have HD := Lib.hid hd; clear hd
            go_wp2
            go_ret2
            exact RetIE.bad HD.out HB.out
          · have hL : (0 : Int) < (out.length : Int) + 1 := by omega
            have q0 : 0 ≤ (v + i) / ((out.length : Int) + 1) := Int.ediv_nonneg (by omega) (by omega)
            have q1 : (v + i) / ((out.length : Int) + 1) ≤ v + i := Int.ediv_le_self _ (by omega)
            have m0 := Int.emod_nonneg (v + i) (show (out.length : Int) + 1 ≠ 0 by omega)
            have m1 := Int.emod_lt_of_pos (v + i) hL
            have t1 : IntKind.i64.wrap (v + i) = v + i := IntWalk.i64_in _ (by omega)
            have t2 : (v + i).tdiv ((out.length : Int) + 1) = (v + i) / ((out.length : Int) + 1) := Int.tdiv_eq_ediv_of_nonneg (by omega)
            have t3 : (v + i).tmod ((out.length : Int) + 1) = (v + i) % ((out.length : Int) + 1) := Int.tmod_eq_emod_of_nonneg (by omega)
            have hnz : ¬ ((out.length : Int) + 1 = 0) := by omega
            generalize hq : (v + i) / ((out.length : Int) + 1) = qq at *
            generalize hm : (v + i) % ((out.length : Int) + 1) = mm at *
            have t4 : IntKind.i64.wrap qq = qq := IntWalk.i64_in _ (by omega)
            have t5 : IntKind.i64.wrap (n + qq) = n + qq := IntWalk.i64_in _ (by omega)
            have t6 : IntKind.i64.wrap mm = mm := IntWalk.i64_in _ (by omega)
            have HQ := Lib.hid hq; have HM := Lib.hid hm
            clear hq hm
            go_wp2_with fail
            go_quiet (fail)
            clear t1 t2 t3 t4 t5 t6 hnz
            replace HO := Lib.hid (show (wq.drewN nq).ownsRow w1.heap.size 3 1 (.slice A out.length c) out.length (ints out) from HO.out)
            replace HB := Lib.hid (below_drewN HB.out nq)
            have hsq2 : w1.heap.size ≤ (wq.drewN nq).heap.size := hsq
            generalize wq.drewN nq = wn at *
            have hd := HS2.out
            try simp only at hd
            rw [HQ.out, HM.out] at hd
            by_cases hbig2 : 1114111 < n + qq
            · rw [if_pos (.inr hbig2)] at hd
              have HD := Lib.hid hd; clear hd
              go_wp2
              go_ret2
              exact RetIE.bad HD.out HB.out
            · rw [if_neg (by omega)] at hd
              have hz := Pn.len_zero (n + qq)
              go_wp2_with fail
              refine (length_any (n + qq) _).mono ?_
              rintro e w9 ⟨rfl, hw9⟩
              subst hw9
              generalize Pn.len (n + qq) = ln at *
              cases hsc : Pn.scalar (n + qq)
              · rw [hsc] at hd hz
                have HD := Lib.hid (show Pn.decP (lst s) = ([], 12) from hd); clear hd hsc
                go_wp2
                go_ret2
                exact RetIE.bad HD.out HB.out
              · rw [hsc] at hd hz
                rw [if_pos rfl] at hd
                have HD := Lib.hid hd; clear hd hsc
                obtain ⟨M, rfl⟩ := Int.eq_ofNat_of_zero_le m0
                have hM : M ≤ out.length := by omega
                have hbk := Bk.new wn 3 #[.int .i64 (n + qq)]
                have hne2 : (Value.slice A out.length c).ownBlock ≠ some wn.heap.size := by
                  intro e; have := (HO.out.lt _ e).2; omega
                have HIN := Lib.hid (insert_any A c out M (n + qq) wn.heap.size w1.heap.size _ (HO.out.alloc (.cells #[.int .i64 (n + qq)] 3)) hbk hne2 hM (by omega) (by simp <;> omega))
                have HBA := Lib.hid (HB.out.alloc hsq2 (.cells #[.int .i64 (n + qq)] 3))
                clear hbk hne2
                go_wp2_with fail
                refine HIN.out.mono ?_
                rintro e w5 ⟨A5, c5, rfl, ho5, hb5⟩
                have hil := ins_length out M (n + qq) hM
                have HO5 := Lib.hid ho5; have HB5 := Lib.hid (HBA.out.trans hb5); have HIL := Lib.hid hil
                clear ho5 hb5 hil
                go_wp2_with fail
                refine (adapt_any v ((out.length : Int) + 1) f w5).mono ?_
                have ha0 := (Pn.adapt_bd v ((out.length : Int) + 1) f).1
                have ha1 := (Pn.adapt_bd v ((out.length : Int) + 1) f).2
                generalize Pn.adapt v ((out.length : Int) + 1) f = ad at *
                rintro e w6 ⟨rfl, hw6⟩
                subst hw6
                have hrr : (str r).size < (str rst).size := by rw [str_size, str_size]; exact r1
                go_wp2
                go_roundw
                case rel =>
                  refine ⟨r, n + qq, (M : Int) + 1, ad, false, ⟨Pn.ins out M (n + qq), A5, c5, rfl, by rw [HIL.out], by rw [HIL.out]; exact HO5.out, HB5.out, by rw [HIL.out]; omega, ?_, by omega, by rw [HIL.out]; omega⟩, rfl, rfl, by go_num, rfl, by omega, by omega, ha0, ha1⟩
                  have := HD.out
                  rw [Int.toNat_natCast] at this
                  exact this.symm
                case measure => simpa using hrr
end Go.Proofs.Ytoihjbiahccaaaa

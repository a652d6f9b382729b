/- The walks of valid, limited, Normal, and of the reference's Check, valid, merged, Normal. -/
import Derived.Test.YthdfhijahkfjdaaPush
namespace Go.Proofs.Ythdfhijahkfjdaa
open Go Go.RowKit
set_option linter.unusedVariables false

theorem rg_len {w : World} {B n : Nat} {A : Option Addr} {l : List Rg.Sn} (h : Rd w B 3 A n (spans l)) : l.length = n := by have := h.1; rw [spans_length] at this; omega

set_option maxHeartbeats 400000 in
theorem valid_is (A : Option Addr) (c : Nat) (l : List Rg.Sn) (b : Bool) (hv : Rg.valid l = b) (B : Nat) (w : World) (hr : Rd w B 3 A l.length (spans l)) (hBw : B ≤ w.heap.size) (hl : l.length ≤ 100000000000000000) :
    Calls Try.prog 32 #[.slice A l.length c] w fun e w' => e = .returned (.bool b) ∧ Below w.heap.size w w' := by
  subst hv
  have HR := Lib.hid hr; clear hr
  go_enter Try.func32, Try.ntmps32
  go_wp2_with fail
  refine (rcheck_any A c l 0 1114111 B _ HR.out (by omega) (by omega)).mono ?_
  rintro e w1 ⟨rfl, hb⟩
  have HB := Lib.hid hb; clear hb
  go_wp2
  go_ret
  exact ⟨rfl, HB.out⟩

/-- The round's relation of a loop that merges. -/
def MrgUp (g : Nat) (w : World) (l : List Rg.Sn) (k : Nat) (v : Value) (wr : World) : Prop :=
  ∃ m A c, v = .slice A m c ∧ (Rg.mrg (l.take k)).length = m ∧ m ≤ k ∧ wr.ownsRow g 25 3 (.slice A m c) m (spans (Rg.mrg (l.take k))) ∧ Below g w wr ∧ g ≤ wr.heap.size
theorem MrgUp.start (w : World) (l : List Rg.Sn) (w1 : World) (hb : Below w.heap.size w w1) : MrgUp w.heap.size w l 0 (.slice none 0 0) w1 :=
  ⟨0, none, 0, rfl, rfl, Nat.le_refl _, World.ownsRow_nil _ _ _ _, hb, hb.size⟩
theorem MrgUp.put {g : Nat} {w : World} {l : List Rg.Sn} {k m : Nat} {A : Option Addr} {c : Nat} {s : Rg.Sn} {wx w' : World} (hs : l[k]? = some s) (hm : (Rg.mrg (l.take k)).length = m) (hmk : m ≤ k)
    (ho : wx.ownsRow g 25 3 (.slice A m c) m (spans (Rg.mrg (l.take k)))) (hb : Below g w wx) (hg : g ≤ wx.heap.size) {m' : Nat} {A' : Option Addr} {c' : Nat}
    (h1 : (Rg.push (Rg.mrg (l.take k)) s).length = m') (h2 : w'.ownsRow g 25 3 (.slice A' m' c') m' (spans (Rg.push (Rg.mrg (l.take k)) s))) (h3 : wx.grownBy w' (Value.slice A m c).ownBlock) : MrgUp g w l (k + 1) (.slice A' m' c') w' := by
  refine ⟨m', A', c', rfl, ?_, ?_, ?_, hb.grown h3 hg (fun q hq => (ho.lt q hq).1), Nat.le_trans hg h3.size⟩
  · rw [Rg.mrg_take l k s hs]; exact h1
  · have := Rg.push_len (Rg.mrg (l.take k)) s; omega
  · rw [Rg.mrg_take l k s hs]; exact h2
/-- The call returns a new slice of spans and an error's number; all that was there is as it was. -/
def RetSpE (r : List Rg.Sn × Int) (w : World) (e : Ending) (w' : World) : Prop :=
  ∃ A c, e = .returned (.tuple #[.slice A r.1.length c, .int .i64 r.2]) ∧ w'.ownsRow w.heap.size 25 3 (.slice A r.1.length c) r.1.length (spans r.1) ∧ Below w.heap.size w w'
theorem RetSpE.none_ (n : Int) {w w' : World} (hb : Below w.heap.size w w') : RetSpE ([], n) w (.returned (.tuple #[.slice none 0 0, .int .i64 n])) w' := ⟨none, 0, rfl, World.ownsRow_nil _ _ _ _, hb⟩
theorem MrgUp.done {w : World} {l : List Rg.Sn} {k m c : Nat} {A : Option Addr} {w' : World} (h : MrgUp w.heap.size w l k (.slice A m c) w') (hk : l.length ≤ k) : RetSp (Rg.mrg l) w (.returned (.slice A m c)) w' := by
  obtain ⟨m', A', c', hv, hm, _, ho, hb, _⟩ := h
  injection hv with h1 h2 h3
  subst h1; subst h2; subst h3
  rw [List.take_of_length_le hk] at hm ho
  subst hm
  exact ⟨A, c, rfl, ho, hb⟩
theorem RetSp.full {l : List Rg.Sn} {w w' : World} {A : Option Addr} {m c : Nat} (h : RetSp (Rg.mrg l) w (.returned (.slice A m c)) w') :
    (256 < m → RetSpE (Rg.full l) w (.returned (.tuple #[.slice none 0 0, .int .i64 7])) w') ∧ (¬ 256 < m → RetSpE (Rg.full l) w (.returned (.tuple #[.slice A m c, .int .i64 0])) w') := by
  obtain ⟨A', c', he, ho, hb⟩ := h
  injection he with he; injection he with h1 h2 h3
  subst h1; subst h3
  subst h2
  constructor
  · intro h
    unfold Rg.full; rw [if_pos h]
    exact RetSpE.none_ 7 hb
  · intro h
    unfold Rg.full; rw [if_neg h]
    exact ⟨A, c, rfl, ho, hb⟩

set_option maxHeartbeats 2000000 in
theorem limited_any (A : Option Addr) (c : Nat) (l : List Rg.Sn) (B : Nat) (w : World) (hr : Rd w B 3 A l.length (spans l)) (hBw : B ≤ w.heap.size) (hl : l.length ≤ 1000000000) (ha : Rg.Asc (-1) l) :
    Calls Try.prog 26 #[.slice A l.length c] w (RetSpE (Rg.full l) w) := by
  have HR := Lib.hid hr; have HA := Lib.hid ha; clear hr ha
  have HS0 := Lib.hid (MrgUp.start w l w (Below.refl _ _))
  generalize hn : l.length = n at *
  have HN := Lib.hid hn; clear hn
  generalize hg : w.heap.size = g at *
  have HG := Lib.hid hg; clear hg
  go_enter Try.func26, Try.ntmps26
  go_wp2
  go_loopw [4, 9] (fun vo i wr => ∃ k : Nat, k ≤ n ∧ i = .int .i64 k ∧ MrgUp g w l k vo wr) (fun _ i _ => n - (intOf i).toNat)
  case atStart => exact ⟨0, by omega, rfl, HS0.out⟩
  case round =>
    obtain ⟨k, hk, rfl, m, Ao, co, rfl, hom, hmk, ho, hb, hgw⟩ := hrel
    have HO := Lib.hid ho; have HB := Lib.hid hb; have HOM := Lib.hid hom
    clear ho hb hom
    by_cases hlt : k < n
    · obtain ⟨b, off, s, rfl, hbB, hs, h1, h2, h3⟩ := spans_cell (HR.out.below (HB.out.mono hBw)) hlt
      obtain ⟨sb1, sb2, sb3⟩ := Rg.asc_at HA.out hs
      have HS := Lib.hid hs; clear hs
      have HO1 := Lib.hid (HO.out.alloc (.cells #[.int .i64 s.f, .int .i64 s.t, .int .i64 s.v] 25))
      have HB1 := Lib.hid (HB.out.alloc hgw (.cells #[.int .i64 s.f, .int .i64 s.t, .int .i64 s.v] 25))
      go_wp2_with fail
      refine (push_any Ao m co g (Rg.mrg (l.take k)) s _ HOM.out HO1.out (by simp; omega) (by omega) (by omega) (by omega)).mono ?_
      rintro e w2 ⟨m2, A2, c2, rfl, hm2, ho2, hg2, _⟩
      have HP := Lib.hid (MrgUp.put HS.out HOM.out hmk HO1.out HB1.out (by simp; omega) hm2 ho2 hg2)
      clear hm2 ho2 hg2
      go_wp2
      go_roundw
      case rel => exact ⟨k + 1, by omega, by go_num, HP.out⟩
      case measure => simp [intOf]; omega
    · have hd : MrgUp w.heap.size w l k (.slice Ao m co) wr := by rw [HG.out]; exact ⟨m, Ao, co, rfl, HOM.out, hmk, HO.out, HB.out, hgw⟩
      have HF := Lib.hid (hd.done (by have := HN.out; omega)).full
      clear hd
      by_cases h256 : 256 < m
      · go_wp2
        go_ret2
        exact HF.out.1 h256
      · go_wp2
        go_ret2
        exact HF.out.2 (by omega)

theorem normP_yes {l : List Rg.Sn} (h : Rg.valid l = true) : Rg.normP l = Rg.mrg l := by unfold Rg.normP; rw [if_pos h]
theorem normP_no {l : List Rg.Sn} (h : ¬ Rg.valid l = true) : Rg.normP l = [] := by unfold Rg.normP; rw [if_neg h]
theorem RetSp.nil_ {w w' : World} (hb : Below w.heap.size w w') : RetSp [] w (.returned (.slice none 0 0)) w' := ⟨none, 0, rfl, World.ownsRow_nil _ _ _ _, hb⟩
set_option maxHeartbeats 2000000 in
theorem normal_any (A : Option Addr) (c : Nat) (l : List Rg.Sn) (B : Nat) (w : World) (hr : Rd w B 3 A l.length (spans l)) (hBw : B ≤ w.heap.size) (hl : l.length ≤ 1000000000000000) :
    Calls Try.prog 18 #[.slice A l.length c] w (RetSp (Rg.normP l) w) := by
  have HR := Lib.hid hr; clear hr
  by_cases hv : Rg.valid l = true
  · rw [normP_yes hv]
    obtain ⟨ha, hl2⟩ := Rg.asc_of_valid hv
    have HA := Lib.hid ha; have HV := Lib.hid hv; clear ha hv
    go_enter Try.func18, Try.ntmps18
    go_wp2_with fail
    refine (valid_is A c l true HV.out B _ HR.out (by omega) (by omega)).mono ?_
    rintro e w1 ⟨rfl, hb1⟩
    have HS0 := Lib.hid (MrgUp.start w l w1 hb1)
    clear hb1
    generalize hn : l.length = n at *
    have HN := Lib.hid hn; clear hn
    generalize hg : w.heap.size = g at *
    have HG := Lib.hid hg; clear hg
    go_wp2_with fail
    go_loopw [3, 11] (fun vo i wr => ∃ k : Nat, k ≤ n ∧ i = .int .i64 k ∧ MrgUp g w l k vo wr) (fun _ i _ => n - (intOf i).toNat)
    case atStart => exact ⟨0, by omega, rfl, HS0.out⟩
    case round =>
      obtain ⟨k, hk, rfl, m, Ao, co, rfl, hom, hmk, ho, hb, hgw⟩ := hrel
      have HO := Lib.hid ho; have HB := Lib.hid hb; have HOM := Lib.hid hom
      clear ho hb hom
      by_cases hlt : k < n
      · obtain ⟨b, off, s, rfl, hbB, hs, h1, h2, h3⟩ := spans_cell (HR.out.below (HB.out.mono hBw)) hlt
        obtain ⟨sb1, sb2, sb3⟩ := Rg.asc_at HA.out hs
        have HS := Lib.hid hs; clear hs
        have HO1 := Lib.hid (HO.out.alloc (.cells #[.int .i64 s.f, .int .i64 s.t, .int .i64 s.v] 25))
        have HB1 := Lib.hid (HB.out.alloc hgw (.cells #[.int .i64 s.f, .int .i64 s.t, .int .i64 s.v] 25))
        go_wp2_with fail
        refine (push_any Ao m co g (Rg.mrg (l.take k)) s _ HOM.out HO1.out (by simp; omega) (by omega) (by omega) (by omega)).mono ?_
        rintro e w2 ⟨m2, A2, c2, rfl, hm2, ho2, hg2, _⟩
        have HP := Lib.hid (MrgUp.put HS.out HOM.out hmk HO1.out HB1.out (by simp; omega) hm2 ho2 hg2)
        clear hm2 ho2 hg2
        go_wp2
        go_roundw
        case rel => exact ⟨k + 1, by omega, by go_num, HP.out⟩
        case measure => simp [intOf]; omega
      · have hd : MrgUp w.heap.size w l k (.slice Ao m co) wr := by rw [HG.out]; exact ⟨m, Ao, co, rfl, HOM.out, hmk, HO.out, HB.out, hgw⟩
        have HF := Lib.hid (hd.done (by have := HN.out; omega))
        clear hd
        go_wp2
        go_ret
        exact HF.out
  · rw [normP_no hv]
    have hv' : Rg.valid l = false := by simpa using hv
    have HV := Lib.hid hv'; clear hv hv'
    go_enter Try.func18, Try.ntmps18
    go_wp2_with fail
    refine (valid_is A c l false HV.out B _ HR.out (by omega) (by omega)).mono ?_
    rintro e w1 ⟨rfl, hb1⟩
    have HB := Lib.hid (RetSp.nil_ hb1)
    clear hb1
    go_wp2
    go_ret
    exact HB.out
end Go.Proofs.Ythdfhijahkfjdaa

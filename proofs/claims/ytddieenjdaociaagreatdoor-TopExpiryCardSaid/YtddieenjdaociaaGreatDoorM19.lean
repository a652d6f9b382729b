/- The state of a desk: what lies where. The desk: Busy. The desk: Rounds, while one client is busy. The desk: Operations. -/
import Derived.Test.YtddieenjdaociaaGreatDoorM18
import Derived.Test.YtddieenjdaociaaGreatDoorM17
import Derived.Deep.MidRow
namespace Go.Proofs.YtddieenjdaociaaGreatDoor
open Go Go.RowKit Go.Shelf
set_option linter.unusedVariables false

/-- The blocks of K are rows whose types are among ts. -/
def TyK (w : World) (K : List Nat) (ts : List TypeId) : Prop := ∀ g ∈ K, ∃ t cs, Bk w g t cs ∧ t ∈ ts
section
variable {w w' : World} {K : List Nat} {ts : List TypeId} {g : Nat} {t : TypeId} {cs : Array Value}
theorem TyK.nil : TyK w [] ts := fun g hg => by simp at hg
theorem TyK.cons (hb : Bk w g t cs) (ht : t ∈ ts) (h : TyK w K ts) : TyK w (g :: K) ts := by
  intro g' hg'
  rcases List.mem_cons.1 hg' with rfl | h1
  · exact ⟨t, cs, hb, ht⟩
  · exact h g' h1
theorem TyK.no (h : TyK w K ts) (hb : Bk w g t cs) (ht : t ∉ ts) : g ∉ K := by
  intro hg
  obtain ⟨t', cs', hb', ht'⟩ := h g hg
  exact Bk.ne hb hb' (fun e => ht (e ▸ ht')) rfl
theorem TyK.noch {b ch cap : Nat} {l : List ByteArray} (h : TyK w K ts) (hb : Box w b ch cap l) : ch ∉ K := by
  intro hg
  obtain ⟨t', cs', hb', _⟩ := h ch hg
  exact hb'.nech hb rfl
theorem TyK.nobox {b ch cap : Nat} {l : List ByteArray} (h : TyK w K ts) (hb : Box w b ch cap l) (ht : 92 ∉ ts) : b ∉ K := h.no hb.1 ht
theorem Bk.ty (hb : Bk w g t cs) (ho : Oth K w w') (h : TyK w K ts) (ht : t ∉ ts) : Bk w' g t cs := hb.oth ho (h.no hb ht)
theorem own_ty {base size n : Nat} {e : TypeId} {v : Value} {xs : List Value} (hw : w.ownsRow base e size v n xs) (ho : Oth K w w') (h : TyK w K ts) (ht : e ∉ ts) : w'.ownsRow base e size v n xs :=
  own_oth2 hw ho (fun g cs hb => h.no hb ht)
theorem Box.ty {b ch cap : Nat} {l : List ByteArray} (hb : Box w b ch cap l) (ho : Oth K w w') (h : TyK w K ts) (ht : 92 ∉ ts) : Box w' b ch cap l := hb.oth ho (h.nobox hb ht) (h.noch hb)
theorem LkAt.ty {g ls lo n u : Nat} {S : List Slt} {O : List Int} (hl : LkAt w g ls lo n S O u) (ho : Oth K w w') (h : TyK w K ts) (h1 : 115 ∉ ts) (h2 : 163 ∉ ts) (h3 : 3 ∉ ts) : LkAt w' g ls lo n S O u :=
  hl.oth ho (h.no hl.k h1) (h.no hl.s h2) (h.no hl.o h3)
theorem StAt.ty {g ss sr n u : Nat} {S : List Slt} {R : List Rc} (hl : StAt w g ss sr n S R u) (ho : Oth K w w') (h : TyK w K ts) (h1 : 117 ∉ ts) (h2 : 163 ∉ ts) (h3 : 38 ∉ ts) : StAt w' g ss sr n S R u :=
  hl.oth ho (h.no hl.k h1) (h.no hl.s h2) (h.no hl.r h3)
end

/-- A client's blocks. -/
structure Cl where
  c : Nat
  b : Nat
  ch : Nat
  m : Nat
/-- A desk's blocks. -/
structure Ids where
  d : Nat
  s : Nat
  cw : Nat
  nc : Nat
  lk : Nat
  ls : Nat
  lo : Nat
  st : Nat
  ss : Nat
  sr : Nat
  /-- blocks of the caller's that hold a response -/
  kp : List (Nat × Array Value)
def cptrs (L : List Cl) : List Value := L.map fun k => .pointer (some ⟨k.c, 0, none⟩)
theorem cptrs_length (L : List Cl) : (cptrs L).length = L.length := by simp [cptrs]
theorem cptrs_at {L : List Cl} {j : Nat} {k : Cl} (h : L[j]? = some k) : (cptrs L)[j]? = some (.pointer (some ⟨k.c, 0, none⟩)) := by simp [cptrs, h]
/-- A client that has nothing to do. -/
def Idle (w : World) (k : Cl) (i : Int) : Prop := ∃ o tx op ttl nv at_ rv p, CAt w k.c k.b k.m o ∧ Box w k.b k.ch 8 [] ∧ MAt w k.m i 0 tx op ttl nv at_ rv p
theorem Idle.oth {w w' : World} {k : Cl} {i : Int} {K : List Nat} (h : Idle w k i) (ho : Oth K w w') (h1 : k.c ∉ K) (h2 : k.b ∉ K) (h3 : k.ch ∉ K) (h4 : k.m ∉ K) : Idle w' k i := by
  obtain ⟨o, tx, op, ttl, nv, at_, rv, p, a, b, c⟩ := h
  exact ⟨o, tx, op, ttl, nv, at_, rv, p, a.oth ho h1, b.oth ho h2 h3, c.oth ho h4⟩
/-- An operation's names can be read. -/
def NmOk (w : World) (B : Nat) (o : Opn) : Prop := ∃ l, o.nn ≤ 1 ∧ w.ownsRow B 127 3 (.slice o.nA o.nn o.nc) o.nn (nmsC l)
/-- What does not change while the i-th client works. -/
structure Fx (w : World) (B : Nat) (I : Ids) (L : List Cl) (i : Nat) (k : Cl) (xs : List Opn) : Prop where
  row : w.ownsRow B 59 1 (.slice (some ⟨I.cw, 0, none⟩) L.length I.nc) L.length (cptrs L)
  me : L[i]? = some k
  oth : ∀ (j : Nat) (k' : Cl), j ≠ i → L[j]? = some k' → Idle w k' (j : Int)
  dis : ∀ (j : Nat) (k' : Cl), j ≠ i → L[j]? = some k' → k'.c ≠ k.c ∧ k'.b ≠ k.b ∧ k'.ch ≠ k.ch ∧ k'.m ≠ k.m
  nm : ∀ o ∈ xs, NmOk w B o
  ne : I.ls ≠ I.ss
  lo : ∀ g ∈ [I.d, I.s, I.cw, I.lk, I.ls, I.lo, I.st, I.ss, I.sr], B ≤ g
  lc : ∀ k' ∈ L, B ≤ k'.c ∧ B ≤ k'.b ∧ B ≤ k'.ch ∧ B ≤ k'.m
  sz : B ≤ w.heap.size
section
variable {w w' : World} {B : Nat} {I : Ids} {L : List Cl} {i : Nat} {k : Cl} {xs : List Opn} {K : List Nat} {ts : List TypeId}
theorem Fx.othr (h : Fx w B I L i k xs) (ho : Oth K w w') (h1 : ∀ g cs, Bk w g 59 cs → g ∉ K) (h2 : ∀ (j : Nat) (k' : Cl), j ≠ i → L[j]? = some k' → k'.c ∉ K ∧ k'.b ∉ K ∧ k'.ch ∉ K ∧ k'.m ∉ K) (h3 : ∀ g cs, Bk w g 127 cs → g ∉ K) : Fx w' B I L i k xs := by
  refine ⟨own_oth2 h.row ho h1, h.me, ?_, h.dis, ?_, h.ne, h.lo, h.lc, Nat.le_trans h.sz ho.size⟩
  · intro j k' hj hk
    obtain ⟨a, b, c, d⟩ := h2 j k' hj hk
    exact (h.oth j k' hj hk).oth ho a b c d
  · intro o hm
    obtain ⟨l, h4, h5⟩ := h.nm o hm
    exact ⟨l, h4, own_oth2 h5 ho h3⟩
theorem Fx.ty {cs : Array Value} (h : Fx w B I L i k xs) (ho : Oth (k.m :: K) w w') (hm : Bk w k.m 80 cs) (hK : TyK w K ts)
    (t1 : 59 ∉ ts) (t2 : 127 ∉ ts) (t3 : 61 ∉ ts) (t4 : 92 ∉ ts) (t5 : 80 ∉ ts) : Fx w' B I L i k xs := by
  refine h.othr ho ?_ ?_ ?_
  · intro g cs hb hg
    rcases List.mem_cons.1 hg with rfl | hg
    · exact Bk.ne hb hm (by decide) rfl
    · exact hK.no hb t1 hg
  · intro j k' hj hk
    obtain ⟨d1, d2, d3, d4⟩ := h.dis j k' hj hk
    obtain ⟨o, tx, op, ttl, nv, at_, rv, p, a, b, c⟩ := h.oth j k' hj hk
    refine ⟨?_, ?_, ?_, ?_⟩ <;> intro hg <;> rcases List.mem_cons.1 hg with e | hg
    · exact Bk.ne a.bk hm (by decide) e
    · exact hK.no a.bk t3 hg
    · exact Bk.ne b.1 hm (by decide) e
    · exact hK.nobox b t4 hg
    · exact hm.nech b e.symm
    · exact hK.noch b hg
    · exact d4 e
    · exact hK.no c.bk t5 hg
  · intro g cs hb hg
    rcases List.mem_cons.1 hg with rfl | hg
    · exact Bk.ne hb hm (by decide) rfl
    · exact hK.no hb t2 hg
theorem Fx.ty' {cs : Array Value} (h : Fx w B I L i k xs) (ho : Oth K w w') (hm : Bk w k.m 80 cs) (hK : TyK w K ts)
    (t1 : 59 ∉ ts) (t2 : 127 ∉ ts) (t3 : 61 ∉ ts) (t4 : 92 ∉ ts) (t5 : 80 ∉ ts) : Fx w' B I L i k xs :=
  h.ty (ho.more (fun _ hm => List.mem_cons_of_mem _ hm)) hm hK t1 t2 t3 t4 t5
theorem Fx.lok (h : Fx w B I L i k xs) : B ≤ k.c ∧ B ≤ k.b ∧ B ≤ k.ch ∧ B ≤ k.m := h.lc k (List.mem_of_getElem? h.me)
theorem Fx.lt (h : Fx w B I L i k xs) : i < L.length := (List.getElem?_eq_some_iff.1 h.me).1
theorem Fx.cell (h : Fx w B I L i k xs) : w.cell? ⟨I.cw, i, none⟩ = some (.pointer (some ⟨k.c, 0, none⟩)) := (own_cellv h.row (cptrs_at h.me)).1
end
end Go.Proofs.YtddieenjdaociaaGreatDoor
namespace Go.Proofs.YtddieenjdaociaaGreatDoor
open Go Go.RowKit Go.Shelf
set_option linter.unusedVariables false

/-- The j-th client has something to do (b), or nothing. -/
def Bs (w : World) (k : Cl) (j : Int) (b : Bool) : Prop := ∃ o ph tx op ttl nv at_ rv p l, CAt w k.c k.b k.m o ∧ Box w k.b k.ch 8 l ∧ MAt w k.m j ph tx op ttl nv at_ rv p ∧
  ((ph == 0) = false ∧ b = true ∨ ph = 0 ∧ l = [] ∧ b = false ∨ ∃ t, ph = 0 ∧ l = [t] ∧ b = true)
theorem Idle.bs {w : World} {k : Cl} {j : Int} (h : Idle w k j) : Bs w k j false := by
  obtain ⟨o, tx, op, ttl, nv, at_, rv, p, a, b, c⟩ := h
  exact ⟨o, 0, tx, op, ttl, nv, at_, rv, p, [], a, b, c, .inr (.inl ⟨rfl, rfl, rfl⟩)⟩
theorem Bs.below {w w' : World} {k : Cl} {j : Int} {b : Bool} (h : Bs w k j b) (hb : Below w.heap.size w w') : Bs w' k j b := by
  obtain ⟨o, ph, tx, op, ttl, nv, at_, rv, p, l, a, c, d, e⟩ := h
  exact ⟨o, ph, tx, op, ttl, nv, at_, rv, p, l, Bk.below a hb a.lt, c.below hb c.lt.1 c.lt.2.1, d.below hb d.lt, e⟩
def busy (bs : Nat → Bool) (n : Nat) : List Int := ((List.range n).filter bs).map Int.ofNat
theorem busy_succ (bs : Nat → Bool) (n : Nat) : busy bs (n + 1) = busy bs n ++ (if bs n then [(n : Int)] else []) := by
  unfold busy
  rw [List.range_succ, List.filter_append, List.map_append]
  congr 1
  cases h : bs n <;> simp [h]
theorem busy_len (bs : Nat → Bool) (n : Nat) : (busy bs n).length ≤ n := by
  unfold busy
  rw [List.length_map]
  exact Nat.le_trans (List.length_filter_le _ _) (by simp)
set_option maxRecDepth 100000 in
set_option maxHeartbeats 8000000 in
theorem busy_any {w : World} {B : Nat} {d s cw n nc : Nat} {steps : Int} {ov : Value} {L : List Cl} (bs : Nat → Bool) (h : DAt w d s (.slice (some ⟨cw, 0, none⟩) n nc) steps ov)
    (hr : w.ownsRow B 59 1 (.slice (some ⟨cw, 0, none⟩) n nc) n (cptrs L)) (hL : L.length = n) (hn : n ≤ 64) (hb : ∀ (j : Nat) (k : Cl), L[j]? = some k → Bs w k (j : Int) (bs j)) :
    Calls Tryz.prog 37 #[.pointer (some ⟨d, 0, none⟩)] w fun e w' => ∃ A m c, e = .returned (.slice A m c) ∧ m = (busy bs n).length ∧ w'.ownsRow w.heap.size 3 1 (.slice A m c) m (ints (busy bs n)) ∧ Below w.heap.size w w' := by
  have y1 := h.c1
  have hcl := Lib.hid (fun (j : Nat) (k : Cl) (hj : L[j]? = some k) => (own_cellv hr (cptrs_at hj)).1)
  have hcwl : cw < w.heap.size ∨ n = 0 := by
    rcases hr.2 with ⟨h1, _⟩ | ⟨g', cap, cur, h1, h2, h3, h4, h5, h6, h7⟩
    · cases h1
    · injection h1 with e1 _ e3
      injection e1 with e1; injection e1 with e1 _ _
      subst e1; exact .inl (Bk.lt h3)
  have HB := Lib.hid hb
  clear h hr hb
  go_enter Tryz.func37, Tryz.ntmps37
  go_wp2_with fail
  go_loopw [3, 11] (fun vl vi wr => ∃ (k m : Nat) (A : Option Addr) (c : Nat), k ≤ n ∧ vi = .int .i64 k ∧ vl = .slice A m c ∧ m = (busy bs k).length ∧ wr.ownsRow w.heap.size 3 1 (.slice A m c) m (ints (busy bs k)) ∧ Below w.heap.size w wr) (fun _ vi _ => n - (intOf vi).toNat)
  case atStart => exact ⟨0, 0, none, 0, by omega, rfl, rfl, rfl, World.ownsRow_nil _ _ _ _, Below.refl _ _⟩
  case round =>
    obtain ⟨k, m, A2, c2, hk, rfl, rfl, hm, ho, hb⟩ := hrel
    have HO := Lib.hid ho; have HW := Lib.hid hb; have HM := Lib.hid hm
    have hsw := hb.size
    have hml : m ≤ n := by have := busy_len bs k; omega
    clear ho hb hm
    by_cases hlt : k < n
    · obtain ⟨kc, hkc⟩ : ∃ kc, L[k]? = some kc := ⟨L[k], List.getElem?_eq_getElem (by omega)⟩
      have q0 := (HW.out.cell (p := ⟨cw, k, none⟩) (hcwl.resolve_right (by omega))).trans (hcl.out k kc hkc)
      obtain ⟨o, ph, tx, op, ttl, nv, at_, rv, p, l, a, b, c, hcase⟩ := (HB.out k kc hkc).below HW.out
      have hsc := busy_succ bs k
      have z0 := a.c0; have z1 := a.c1
      have HBX := Lib.hid b; have HMA := Lib.hid c
      clear a b c
      rcases hcase with ⟨hph, hbk⟩ | ⟨rfl, rfl, hbk⟩ | ⟨t, rfl, rfl, hbk⟩
      · have hph2 : (ph != 0) = true := by simp [bne, hph]
        have hph3 : ¬ ph = 0 := by simpa using hph
        rw [hbk, if_pos rfl] at hsc
        have HS := Lib.hid hsc
        clear hsc hbk
        go_wp2_with fail
        refine (phase_any _ _ _ _ _ _ _ _ _ _ _ HMA.out).mono ?_
        rintro e w1 ⟨rfl, rfl⟩
        go_wp2_with (at_builtin; refine app_int (by rfl) _ _ rfl (base := w.heap.size) rfl (HO.out.alloc _) rfl (rd_one_int (z := w1.heap.size) rfl (k : Int)) (by omega) (by simp <;> omega) ?_)
        intro A4 c4 w4 ho4 hg4 hc4
        have HB4 := Lib.hid (own_below HO.out HW.out _ hg4 (by omega))
        have HO4 := Lib.hid (show w4.ownsRow w.heap.size 3 1 (.slice A4 (m + 1) c4) (m + 1) (ints (busy bs (k + 1))) by rw [HS.out]; exact ho4)
        have hl4 : m + 1 = (busy bs (k + 1)).length := by rw [HS.out, List.length_append, ← HM.out]; rfl
        have HL4 := Lib.hid hl4
        clear ho4 hg4 hc4 z0 z1 q0 hl4
        go_wp2_with fail
        go_roundw
        case rel => exact ⟨k + 1, m + 1, A4, c4, by omega, by go_num, rfl, HL4.out, HO4.out, HB4.out⟩
        case measure => simp [intOf]; omega
      · rw [hbk] at hsc
        have HS := Lib.hid (show busy bs (k + 1) = busy bs k by rw [hsc]; simp)
        clear hsc hbk
        go_wp2_with fail
        refine (phase_any _ _ _ _ _ _ _ _ _ _ _ HMA.out).mono ?_
        rintro e w1 ⟨rfl, rfl⟩
        go_wp2_with fail
        refine (len_any _ _ _ _ _ HBX.out).mono ?_
        rintro e w2 ⟨rfl, rfl⟩
        go_wp2_with fail
        go_roundw
        case rel => exact ⟨k + 1, m, A2, c2, by omega, by go_num, rfl, by rw [HS.out]; exact HM.out, by rw [HS.out]; exact HO.out, HW.out⟩
        case measure => simp [intOf]; omega
      · rw [hbk, if_pos rfl] at hsc
        have HS := Lib.hid hsc
        clear hsc hbk
        go_wp2_with fail
        refine (phase_any _ _ _ _ _ _ _ _ _ _ _ HMA.out).mono ?_
        rintro e w1 ⟨rfl, rfl⟩
        go_wp2_with fail
        refine (len_any _ _ _ _ _ HBX.out).mono ?_
        rintro e w2 ⟨rfl, rfl⟩
        go_wp2_with (at_builtin; refine app_int (by rfl) _ _ rfl (base := w.heap.size) rfl (HO.out.alloc _) rfl (rd_one_int rfl (k : Int)) (by omega) (by simp <;> omega) ?_)
        intro A4 c4 w4 ho4 hg4 hc4
        have HB4 := Lib.hid (own_below HO.out HW.out _ hg4 (by omega))
        have HO4 := Lib.hid (show w4.ownsRow w.heap.size 3 1 (.slice A4 (m + 1) c4) (m + 1) (ints (busy bs (k + 1))) by rw [HS.out]; exact ho4)
        have hl4 : m + 1 = (busy bs (k + 1)).length := by rw [HS.out, List.length_append, ← HM.out]; rfl
        have HL4 := Lib.hid hl4
        clear ho4 hg4 hc4 z0 z1 q0 hl4
        go_wp2_with fail
        go_roundw
        case rel => exact ⟨k + 1, m + 1, A4, c4, by omega, by go_num, rfl, HL4.out, HO4.out, HB4.out⟩
        case measure => simp [intOf]; omega
    · obtain rfl : k = n := by omega
      go_wp2_with fail
      go_ret
      exact ⟨A2, m, c2, rfl, HM.out, HO.out, HW.out⟩
end Go.Proofs.YtddieenjdaociaaGreatDoor
namespace Go.Proofs.YtddieenjdaociaaGreatDoor
open Go Go.RowKit Go.Shelf
set_option linter.unusedVariables false

def nB (j N : Nat) : Nat := if j < N then 1 else 0
def lB (i j N : Nat) : List Int := if j < N then [(i : Int)] else []
theorem nB_lt {j N : Nat} (h : j < N) : nB j N = 1 := if_pos h
theorem nB_ge {j N : Nat} (h : ¬ j < N) : nB j N = 0 := if_neg h
theorem lB_lt {i j N : Nat} (h : j < N) : lB i j N = [(i : Int)] := if_pos h
theorem lB_ge {i j N : Nat} (h : ¬ j < N) : lB i j N = [] := if_neg h
/-- What Busy answers while the i-th client alone is busy, for j < N. -/
def BusyR (i N j : Nat) (w : World) (e : Ending) (w' : World) : Prop := ∃ A c, e = .returned (.slice A (nB j N) c) ∧
  w'.ownsRow w.heap.size 3 1 (.slice A (nB j N) c) (nB j N) (ints (lB i j N)) ∧ Below w.heap.size w w'
set_option maxRecDepth 100000 in
set_option maxHeartbeats 8000000 in
theorem rounds_any {w : World} {d i N : Nat} {steps most : Int} (Q : Nat → Int → World → Prop)
    (hD : ∀ j st w, Q j st w → ∃ s cv ov, DAt w d s cv st ov) (hBe : ∀ j st w w', Q j st w → Below w.heap.size w w' → Q j st w')
    (hSt : ∀ j st st' w, Q j st w → Q j st' (w.setCell ⟨d, 2, none⟩ (.int .i64 st')))
    (hBusy : ∀ j st w, j ≤ N → Q j st w → Calls Tryz.prog 37 #[.pointer (some ⟨d, 0, none⟩)] w (BusyR i N j w))
    (hPick : ∀ j w, j < N → Q j (steps + j) w → Calls Tryz.prog 14 #[.pointer (some ⟨d, 0, none⟩), .int .i64 (i : Int), .int .i64 (steps + j)] w fun e w' => e = .returned (.bool true) ∧ Q (j + 1) (steps + j) w')
    (hmost : (N : Int) < most) (hN : N ≤ 100) (hst : 0 ≤ steps ∧ steps ≤ 1000000) (h0 : Q 0 steps w) :
    Calls Tryz.prog 18 #[.pointer (some ⟨d, 0, none⟩), .int .i64 most] w fun e w' => e = .returned (.int .i64 (N : Int)) ∧ Q N (steps + N) w' := by
  have HD := Lib.hid hD; have HBe := Lib.hid hBe; have HSt := Lib.hid hSt; have HBu := Lib.hid hBusy; have HPi := Lib.hid hPick; have HQ := Lib.hid h0
  clear hD hBe hSt hBusy hPick h0
  go_enter Tryz.func18, Tryz.ntmps18
  go_wp2_with fail
  refine (HBu.out 0 steps w (by omega) HQ.out).mono ?_
  rintro e w1 ⟨A1, c1, rfl, ho1, hb1⟩
  have HQ1 := Lib.hid (HBe.out _ _ _ _ HQ.out hb1)
  have HO1 := Lib.hid (own_mono ho1 (Nat.zero_le _))
  clear ho1 hb1 HQ
  go_wp2_with fail
  go_loopw [5, 6] (fun vn vb wr => ∃ (j : Nat) (A : Option Addr) (c : Nat), j ≤ N ∧ vn = .int .i64 j ∧ vb = .slice A (nB j N) c ∧ wr.ownsRow 0 3 1 (.slice A (nB j N) c) (nB j N) (ints (lB i j N)) ∧ Q j (steps + j) wr) (fun vn _ _ => N - (intOf vn).toNat)
  case atStart => exact ⟨0, A1, c1, by omega, rfl, rfl, HO1.out, by simpa using HQ1.out⟩
  case round =>
    obtain ⟨j, A, c, hj, rfl, rfl, ho, hq⟩ := hrel
    have HQj := Lib.hid hq
    clear hq
    by_cases hlt : j < N
    · rw [nB_lt hlt, lB_lt hlt] at ho
      rw [nB_lt hlt]
      obtain ⟨g, rfl, _, hgl, hgc, hc0, _⟩ := own_at ho (by omega)
      have q0 := hc0 0 _ rfl
      clear ho hc0
      obtain ⟨s, cv, ov, hd⟩ := HD.out _ _ _ HQj.out
      have y2 := hd.c2
      have hjm : (j : Int) < most := by omega
      have hwr : IntKind.i64.wrap (steps + ↑j + 1) = steps + ↑j + 1 := IntWalk.i64_in _ (by omega)
      have hwj : IntKind.i64.wrap (↑j + 1) = ↑j + 1 := IntWalk.i64_in _ (by omega)
      clear hd
      go_wp2_with fail
      refine wp_loop_rounds 2 ?_
      rw [rounds_succ]
      go_wp2_with fail
      refine (HPi.out j wr hlt HQj.out).mono ?_
      rintro e w2 ⟨rfl, hq2⟩
      have HQ2 := Lib.hid hq2
      clear hq2 y2 q0
      obtain ⟨s, cv, ov, hd⟩ := HD.out _ _ _ HQ2.out
      have y2 := hd.c2; have f2 := hd.fr 2
      clear hd
      go_wp2_with fail
      have HQ3 := Lib.hid (show Q (j + 1) (steps + ((j + 1 : Nat) : Int)) _ from by rw [show steps + ((j + 1 : Nat) : Int) = steps + ↑j + 1 by omega]; exact HSt.out _ _ (steps + ↑j + 1) _ HQ2.out)
      generalize hw3 : w2.setCell ⟨d, 2, none⟩ (.int .i64 (steps + ↑j + 1)) = w3 at *
      clear hw3 y2 f2 HQ2 HQj
      rw [rounds_succ]
      go_wp2_with fail
      refine (HBu.out _ _ _ (by omega) HQ3.out).mono ?_
      rintro e w4 ⟨A4, c4, rfl, ho4, hb4⟩
      have HQ4 := Lib.hid (HBe.out _ _ _ _ HQ3.out hb4)
      have HO4 := Lib.hid (own_mono ho4 (Nat.zero_le _))
      clear ho4 hb4 HQ3
      go_wp2_with fail
      go_roundw
      case rel => exact ⟨j + 1, A4, c4, by omega, by go_num, rfl, HO4.out, HQ4.out⟩
      case measure => simp [intOf]; omega
    · obtain rfl : j = N := by omega
      rw [nB_ge hlt]
      have HQe := Lib.hid (show Q j (steps + ↑j) wr from HQj.out)
      clear ho
      go_wp2_with fail
      go_ret
      exact ⟨rfl, HQe.out⟩
end Go.Proofs.YtddieenjdaociaaGreatDoor
namespace Go.Proofs.YtddieenjdaociaaGreatDoor
open Go Go.RowKit Go.Shelf
set_option linter.unusedVariables false

/-- An operation without its names' place. -/
def Opn.strip (o : Opn) : Opn := { o with nA := none, nn := 0, nc := 0 }
theorem row_range {w : World} {base k kc : Nat} {A : Option Addr} {xs : List Opn} (h : w.ownsRow base 75 23 (.slice A k kc) k (opC xs)) {j : Nat} {o : Opn} (hj : xs[j]? = some o) : ∃ g, A = some ⟨g, 0, none⟩ ∧ g < w.heap.size ∧ w.rangeAt g (j * 23) o.cells := by
  rcases h.2 with ⟨h1, h0⟩ | ⟨g', cap, cur, h1, h2, h3, h4, h5, h6, h7⟩
  · have := h.1
    rw [opC_length] at this
    have := (List.getElem?_eq_some_iff.1 hj).1
    omega
  · injection h1 with e1 _ e3
    subst e1
    refine ⟨g', rfl, Bk.lt h3, fun i v hv => ?_⟩
    have hi : i < 23 := by
      have := (List.getElem?_eq_some_iff.1 hv).1
      rwa [Opn.cells_length] at this
    exact (own_cellv (c := kc) (n := k) h (by rw [opC_at xs j o hj i hi]; exact hv)).1
theorem Opn.one (o : Opn) : o.cells.toArray.all (·.oneCell') = true := by simp [Opn.cells, Rs.cells, Value.oneCell']
theorem opn_size : (Tryz.prog.info? 75).map (·.size) = some 23 := by kernel_rfl
theorem boxed (w : World) (Z cs : Array Value) (T : TypeId) : Bk ((w.alloc (.cells Z T)).setRow w.heap.size cs) w.heap.size T cs ∧ Below w.heap.size w ((w.alloc (.cells Z T)).setRow w.heap.size cs) :=
  ⟨setRow_bk (Bk.new w T Z), (setRow_oth (Bk.new w T Z)).fresh ((Below.refl _ _).alloc (Nat.le_refl _) _) (by simp) (by simp)⟩
set_option maxRecDepth 100000 in
set_option maxHeartbeats 8000000 in
theorem operations_any {w : World} {B : Nat} {d s k kc : Nat} {A : Option Addr} {steps : Int} {cv : Value} {xs : List Opn} (h : DAt w d s cv steps (.slice A k kc)) (hx : w.ownsRow B 75 23 (.slice A k kc) k (opC xs)) (hl : xs.length = k) (hk : k ≤ 100) (hn : ∀ o ∈ xs, NmOk w B o) :
    Calls Tryz.prog 17 #[.pointer (some ⟨d, 0, none⟩)] w fun e w' => ∃ A' c' ys, e = .returned (.slice A' k c') ∧ ys.map Opn.strip = xs.map Opn.strip ∧ w'.ownsRow w.heap.size 75 23 (.slice A' k c') k (opC ys) ∧ Below w.heap.size w w' := by
  have y3 := h.c3
  have HX := Lib.hid hx; have HN := Lib.hid hn
  clear h hx hn
  go_enter Tryz.func17, Tryz.ntmps17
  go_wp2_with fail
  go_loopw [3, 11] (fun vl vi wr => ∃ (j : Nat) (A : Option Addr) (c : Nat) (ys : List Opn), j ≤ k ∧ vi = .int .i64 j ∧ vl = .slice A j c ∧ ys.map Opn.strip = (xs.take j).map Opn.strip ∧ wr.ownsRow w.heap.size 75 23 (.slice A j c) j (opC ys) ∧ Below w.heap.size w wr) (fun _ vi _ => k - (intOf vi).toNat)
  case atStart => exact ⟨0, none, 0, [], by omega, rfl, rfl, rfl, World.ownsRow_nil _ _ _ _, Below.refl _ _⟩
  case round =>
    obtain ⟨j, A2, c2, ys, hj, rfl, rfl, hs, ho, hb⟩ := hrel
    have HO := Lib.hid ho; have HW := Lib.hid hb; have HS := Lib.hid hs
    have hsw := hb.size
    clear ho hb hs
    by_cases hlt : j < k
    · obtain ⟨o, hoj⟩ : ∃ o, xs[j]? = some o := ⟨xs[j], List.getElem?_eq_getElem (by omega)⟩
      obtain ⟨g, rfl, hgl, hra⟩ := row_range HX.out hoj
      obtain ⟨l, hn1, hnm⟩ := HN.out o (List.mem_of_getElem? hoj)
      have hra2 : wr.rangeAt g (j * 23) o.cells := fun i v hv => (HW.out.cell (p := ⟨g, j * 23 + i, none⟩) hgl).trans (hra i v hv)
      have HR := Lib.hid (((Rd.of_own hnm).below HW.out).more hsw)
      have HRA := Lib.hid hra2
      clear hra hra2 hnm
      have hcs : o.cells.length = 23 := Opn.cells_length o
      have hi1 : (Tryz.prog.info? 75).map (·.size) = some o.cells.length := by rw [hcs]; exact opn_size
      have hi2 : (Tryz.prog.info? 75).map (·.size) = some o.cells.toArray.size := by rw [List.size_toArray, hcs]; exact opn_size
      have hz : ∀ v0 v1 v2 v3 v4 v5 v6 v7 v8 v9 v10 v11 v12 v13 v14 v15 v16 v17 v18 v19 v20 v21 v22 : Value, (#[v0, v1, v2, v3, v4, v5, v6, v7, v8, v9, v10, v11, v12, v13, v14, v15, v16, v17, v18, v19, v20, v21, v22] : Array Value).size = o.cells.toArray.size := by intros; simp [hcs]
      have HI1 := Lib.hid hi1; have HI2 := Lib.hid hi2; have HZ := Lib.hid hz
      clear hi1 hi2 hz hcs
      go_upto_region 5 with (first
        | (refine wpList_load_mid rfl 75 _ rfl g (j * 23) rfl o.cells _ HRA.out Tryz.underlying75 rfl HI1.out ?_)
        | (refine wpList_store_row rfl 75 _ _ rfl wr.heap.size o.cells.toArray rfl rfl 75 _ (Bk.new wr _ _) HI2.out (HZ.out _ _ _ _ _ _ _ _ _ _ _ _ _ _ _ _ _ _ _ _ _ _ _) (Opn.one o) ?_))
      obtain ⟨hbx, hbw⟩ := boxed wr #[.int .i64 0, .int .i64 0, .int .i64 0, .slice none 0 0, .int .i64 0, .int .i64 0, .string ⟨#[]⟩, .int .i64 0, .int .i64 0, .string ⟨#[]⟩, .int .i64 0, .int .i64 0, .int .i64 0, .int .i64 0, .int .i64 0, .int .i64 0, .int .i64 0, .string ⟨#[]⟩, .int .i64 0, .int .i64 0, .string ⟨#[]⟩, .int .i64 0, .int .i64 0] o.cells.toArray 75
      generalize hw2 : (wr.alloc (.cells #[.int .i64 0, .int .i64 0, .int .i64 0, .slice none 0 0, .int .i64 0, .int .i64 0, .string ⟨#[]⟩, .int .i64 0, .int .i64 0, .string ⟨#[]⟩, .int .i64 0, .int .i64 0, .int .i64 0, .int .i64 0, .int .i64 0, .int .i64 0, .int .i64 0, .string ⟨#[]⟩, .int .i64 0, .int .i64 0, .string ⟨#[]⟩, .int .i64 0, .int .i64 0] 75)).setRow wr.heap.size o.cells.toArray = w2 at *
      have x3 : w2.cell? ⟨wr.heap.size, 3, none⟩ = some (.slice o.nA o.nn o.nc) := hbx.cell 3
      have f3 := hbx.frozen 3
      have HBX := Lib.hid hbx; have HBW := Lib.hid hbw
      have hsz := hbw.size
      have hwl := hbx.lt
      have HR2 := Lib.hid ((HR.out.below hbw).more hsz)
      clear hbx hbw hw2
      go_upto_region 6 with (at_builtin; refine app_nm (by rfl) _ _ rfl (base := w2.heap.size) (xs := []) rfl (World.ownsRow_nil _ _ _ _) rfl HR2.out (by omega) (by simp) ?_; intro A3 c3 w3 ho3 hg3 _; have hb3 : Below w2.heap.size w2 w3 := (Below.refl _ _).grown hg3 (Nat.le_refl _) (fun k hk => by cases hk); have x4 := (hb3.cell (p := ⟨wr.heap.size, 3, none⟩) hwl).trans x3; have f4 := (hb3.frozen (p := ⟨wr.heap.size, 3, none⟩) hwl).trans f3)
      have HB4 := Lib.hid (show Bk (w3.setCell ⟨wr.heap.size, 3, none⟩ (.slice A3 o.nn c3)) wr.heap.size 75 (Opn.cells { o with nA := A3, nc := c3 }).toArray from Bk.set_ (HBX.out.below hb3 hwl) 3 _)
      have hb4 : Below wr.heap.size wr (w3.setCell ⟨wr.heap.size, 3, none⟩ (.slice A3 o.nn c3)) := (HBW.out.trans (hb3.mono hsz)).setCell (p := ⟨wr.heap.size, 3, none⟩) (Nat.le_refl _) _
      have HO4 := Lib.hid (own_past HO.out hb4)
      have HW4 := Lib.hid (HW.out.trans (hb4.mono hsw))
      generalize hw4 : w3.setCell ⟨wr.heap.size, 3, none⟩ (.slice A3 o.nn c3) = w4 at *
      have hs4 := hb4.size
      clear hw4 hb4 hb3 hg3 ho3 x3 x4 f3 f4 HR HR2 HRA
      have hi4 : (Tryz.prog.info? 75).map (·.size) = some (Opn.cells { o with nA := A3, nc := c3 }).toArray.size := by rw [List.size_toArray, Opn.cells_length]; exact opn_size
      have HI4 := Lib.hid hi4
      clear hi4
      generalize ho' : ({ o with nA := A3, nc := c3 } : Opn) = o' at *
      have HS4 := Lib.hid (show (ys ++ [o']).map Opn.strip = (xs.take (j + 1)).map Opn.strip by
        rw [List.map_append, HS.out, List.take_add_one, hoj, List.map_append, ← ho']; rfl)
      clear ho'
      have HB5 := Lib.hid (show Bk w4 wr.heap.size 75 #[.int .i64 o'.cl, .int .i64 o'.op, .int .i64 o'.ttl, .slice o'.nA o'.nn o'.nc, .int .i64 o'.bad.err, .int .i64 o'.bad.at_, .string o'.bad.nm, .int .i64 o'.bad.rc.st, .int .i64 o'.bad.rc.ow, .string o'.bad.rc.nm, .int .i64 o'.bad.rc.dl, .int .i64 o'.bad.tk, .int .i64 o'.begun, .int .i64 o'.dec, .int .i64 o'.ans, .int .i64 o'.rsp.err, .int .i64 o'.rsp.at_, .string o'.rsp.nm, .int .i64 o'.rsp.rc.st, .int .i64 o'.rsp.rc.ow, .string o'.rsp.rc.nm, .int .i64 o'.rsp.rc.dl, .int .i64 o'.rsp.tk] from HB4.out)
      have HI5 := Lib.hid (show (Tryz.prog.info? 75).map (·.size) = some (#[.int .i64 o'.cl, .int .i64 o'.op, .int .i64 o'.ttl, .slice o'.nA o'.nn o'.nc, .int .i64 o'.bad.err, .int .i64 o'.bad.at_, .string o'.bad.nm, .int .i64 o'.bad.rc.st, .int .i64 o'.bad.rc.ow, .string o'.bad.rc.nm, .int .i64 o'.bad.rc.dl, .int .i64 o'.bad.tk, .int .i64 o'.begun, .int .i64 o'.dec, .int .i64 o'.ans, .int .i64 o'.rsp.err, .int .i64 o'.rsp.at_, .string o'.rsp.nm, .int .i64 o'.rsp.rc.st, .int .i64 o'.rsp.rc.ow, .string o'.rsp.rc.nm, .int .i64 o'.rsp.rc.dl, .int .i64 o'.rsp.tk] : Array Value).size from HI4.out)
      go_wp2_with (first
        | (refine wpList_load_row rfl 75 _ rfl wr.heap.size rfl 75 #[.int .i64 o'.cl, .int .i64 o'.op, .int .i64 o'.ttl, .slice o'.nA o'.nn o'.nc, .int .i64 o'.bad.err, .int .i64 o'.bad.at_, .string o'.bad.nm, .int .i64 o'.bad.rc.st, .int .i64 o'.bad.rc.ow, .string o'.bad.rc.nm, .int .i64 o'.bad.rc.dl, .int .i64 o'.bad.tk, .int .i64 o'.begun, .int .i64 o'.dec, .int .i64 o'.ans, .int .i64 o'.rsp.err, .int .i64 o'.rsp.at_, .string o'.rsp.nm, .int .i64 o'.rsp.rc.st, .int .i64 o'.rsp.rc.ow, .string o'.rsp.rc.nm, .int .i64 o'.rsp.rc.dl, .int .i64 o'.rsp.tk] (0, 0) _ HB5.out Tryz.underlying75 rfl HI5.out ?_)
        | (at_builtin; refine app_opn (by rfl) _ _ rfl (base := w.heap.size) (xs := ys) rfl (HO4.out.alloc _) rfl (rd_one_opn (z := w4.heap.size) rfl o') (by omega) (by simp; omega) ?_; intro A5 c5 w5 ho5 hg5 _))
      have HB6 := Lib.hid (show Below w.heap.size w w5 from (HW4.out.alloc HW4.out.size _).grown hg5 (by simp; have := HW4.out.size; omega) (fun q h => (HO4.out.lt q h).1))
      have HO6 := Lib.hid ho5
      clear ho5 hg5
      go_roundw
      case rel => exact ⟨j + 1, A5, c5, ys ++ [o'], by omega, by go_num, rfl, HS4.out, HO6.out, HB6.out⟩
      case measure => simp [intOf]; omega
    · obtain rfl : j = k := by omega
      go_wp2_with fail
      go_ret
      exact ⟨A2, c2, ys, rfl, by rw [HS.out, List.take_of_length_le (by omega)], HO.out, HW.out⟩
end Go.Proofs.YtddieenjdaociaaGreatDoor

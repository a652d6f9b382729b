/- The desk: Rounds carries a request from its text to its answer. The desk at rest: no client has anything to do. -/
import Derived.Test.YtddieenjdaociaaGreatDoorTrkZ
import Derived.Test.YtddieenjdaociaaGreatDoorM19
namespace Go.Proofs.YtddieenjdaociaaGreatDoor
open Go Go.RowKit Go.Shelf
set_option linter.unusedVariables false

section
variable {w w' : World} {B : Nat} {I : Ids} {L : List Cl} {i : Nat} {k : Cl} {xs : List Opn} {K : List Nat} {ts : List TypeId} {n lim now cnt : Int}
variable {st st' : Int} {x : Nm} {op ttl ph : Int} {p p' : Rs} {ans : Int} {rsp : Rs} {r : Option Rc} {r0 : Rc} {V : World → Value → Prop} {t : ByteArray}
def dkT : List TypeId := [55]
/-- The desk's own cells may change (the steps), nothing else. -/
def DkMv (I : Ids) (st st' : Int) (w w' : World) : Prop := ∀ cv ov, DAt w I.d I.s cv st ov → DAt w' I.d I.s cv st' ov
theorem Start.ty (h : Start B I L i k xs t st w) (ho : Oth K w w') (hK : TyK w K dkT) (hd : DkMv I st st' w w') : Start B I L i k xs t st' w' := by
  obtain ⟨oA, oc, o, tx, op, ttl, nv, at_, rv, p, a, b, c, d, e⟩ := h.ex
  exact ⟨h.fx.ty' ho d.bk hK (by decide) (by decide) (by decide) (by decide) (by decide), oA, oc, o, tx, op, ttl, nv, at_, rv, p, hd _ _ a, b.oth ho (hK.no b.bk (by decide)), c.ty ho hK (by decide), d.oth ho (hK.no d.bk (by decide)), own_ty e ho hK (by decide)⟩
theorem Bz.mv {oA : Option Addr} {oc : Nat} {o : Opn} {cs : Array Value} (h : Bz w B I L i k xs st oA oc o) (hm : Bk w k.m 80 cs) (ho : Oth K w w') (hK : TyK w K dkT) (hd : DkMv I st st' w w') : Bz w' B I L i k xs st' oA oc o :=
  ⟨h.fx.ty' ho hm hK (by decide) (by decide) (by decide) (by decide) (by decide), hd _ _ h.d, h.c.oth ho (hK.no h.c.bk (by decide)), h.b.ty ho hK (by decide), own_ty h.r ho hK (by decide)⟩
theorem Begun.ty (h : Begun B I L i k xs t st w) (ho : Oth K w w') (hK : TyK w K dkT) (hd : DkMv I st st' w w') : Begun B I L i k xs t st' w' := by
  obtain ⟨oA, oc, begun, a, b⟩ := h.ex
  exact ⟨oA, oc, begun, a.mv b.bk ho hK hd, b.oth ho (hK.no b.bk (by decide))⟩
theorem Mid.ty (h : Mid B I L i k xs x op ttl ph V p ans rsp st w) (hV : Stb V) (ho : Oth K w w') (hK : TyK w K dkT) (hd : DkMv I st st' w w') : Mid B I L i k xs x op ttl ph V p ans rsp st' w' := by
  obtain ⟨oA, oc, q, cq, A', c', rv, tx, begun, dec, a, b, c, d, e⟩ := h.ex
  exact ⟨oA, oc, q, cq, A', c', rv, tx, begun, dec, a.mv c.bk ho hK hd, own_ty b ho hK (by decide), c.oth ho (hK.no c.bk (by decide)), own_ty d ho hK (by decide), hV _ _ _ _ e ho (hK.mono (by decide))⟩
/-- A state of the rounds in which the i-th client alone may be busy. -/
structure Ok (I : Ids) (L : List Cl) (i : Nat) (k : Cl) (B : Nat) (xs : List Opn) (b : Bool) (P : Int → World → Prop) : Prop where
  mv : ∀ st st' w w' K, P st w → Oth K w w' → TyK w K dkT → DkMv I st st' w w' → P st' w'
  d : ∀ st w, P st w → ∃ ov, DAt w I.d I.s (.slice (some ⟨I.cw, 0, none⟩) L.length I.nc) st ov
  bs : ∀ st w, P st w → Fx w B I L i k xs ∧ Bs w k (i : Int) b
theorem busy_one (i n : Nat) : busy (fun c => c == i) n = if i < n then [(i : Int)] else [] := by
  induction n with
  | zero => rfl
  | succ n ih =>
    rw [busy_succ, ih]
    by_cases h : n = i
    · subst h; simp
    · have h1 : (n == i) = false := by simpa using h
      rw [h1]
      by_cases h2 : i < n
      · have h3 : i < n + 1 := by omega
        simp [h2, h3]
      · have h3 : ¬ i < n + 1 := by omega
        simp [h2, h3]
theorem busy_none (n : Nat) : busy (fun _ => false) n = [] := by simp [busy]
theorem Ok.below {b : Bool} {P : Int → World → Prop} (h : Ok I L i k B xs b P) (hp : P st w) (hb : Below w.heap.size w w') : P st w' :=
  h.mv st st w w' [] hp (Oth.below hb (Nat.le_refl _)) TyK.nil (fun cv ov hd => hd.oth (Oth.below (S := []) hb (Nat.le_refl _)) (by simp))
theorem Ok.busy {b : Bool} {P : Int → World → Prop} {N j : Nat} (h : Ok I L i k B xs b P) (hb : b = decide (j < N)) (hL : L.length ≤ 64) (hp : P st w) : Calls Tryz.prog 37 #[.pointer (some ⟨I.d, 0, none⟩)] w (BusyR i N j w) := by
  obtain ⟨ov, hd⟩ := h.d st w hp
  obtain ⟨hf, hbs⟩ := h.bs st w hp
  have key : ∀ (bs : Nat → Bool), bs i = b → (∀ j : Nat, j ≠ i → bs j = false) → ∀ (j : Nat) (k' : Cl), L[j]? = some k' → Bs w k' (j : Int) (bs j) := by
    intro bs h1 h2 j k' hk'
    by_cases hj : j = i
    · subst hj
      rw [hf.me] at hk'
      injection hk' with hk'
      rw [h1, ← hk']; exact hbs
    · rw [h2 j hj]; exact (hf.oth j k' hj hk').bs
  by_cases hlt : j < N
  · have hb1 : b = true := by rw [hb]; simpa using hlt
    refine (busy_any (fun c => c == i) hd hf.row rfl hL (key _ (by simp [hb1]) (by intro j hj; simpa using hj))).mono ?_
    rintro e w' ⟨A, m, c, rfl, rfl, ho, hbl⟩
    rw [busy_one, if_pos hf.lt] at ho
    refine ⟨A, c, ?_, ?_, hbl⟩
    · rw [busy_one, if_pos hf.lt, nB_lt hlt]; rfl
    · rw [nB_lt hlt, lB_lt hlt]; exact ho
  · have hb1 : b = false := by rw [hb]; simpa using hlt
    refine (busy_any (fun c => false) hd hf.row rfl hL (key _ (by simp [hb1]) (by intro j hj; rfl))).mono ?_
    rintro e w' ⟨A, m, c, rfl, rfl, ho, hbl⟩
    rw [busy_none] at ho
    refine ⟨A, c, ?_, ?_, hbl⟩
    · rw [busy_none, nB_ge hlt]; rfl
    · rw [nB_ge hlt, lB_ge hlt]; exact ho
theorem rounds_ok {N : Nat} {steps most : Int} (P : Nat → Int → World → Prop) (hok : ∀ j, j ≤ N → Ok I L i k B xs (decide (j < N)) (P j)) (hL : L.length ≤ 64)
    (hPick : ∀ j w, j < N → P j (steps + j) w → Calls Tryz.prog 14 #[.pointer (some ⟨I.d, 0, none⟩), .int .i64 (i : Int), .int .i64 (steps + j)] w fun e w' => e = .returned (.bool true) ∧ P (j + 1) (steps + j) w' ∧ Past B w w')
    (hmost : (N : Int) < most) (hN : N ≤ 100) (hst : 0 ≤ steps ∧ steps ≤ 1000000) (h0 : P 0 steps w) :
    Calls Tryz.prog 18 #[.pointer (some ⟨I.d, 0, none⟩), .int .i64 most] w fun e w' => e = .returned (.int .i64 (N : Int)) ∧ P N (steps + N) w' ∧ Past B w w' := by
  refine (rounds_any (d := I.d) (i := i) (N := N) (steps := steps) (fun j st w' => j ≤ N ∧ P j st w' ∧ Past B w w') ?_ ?_ ?_ ?_ ?_ hmost hN hst ⟨Nat.zero_le _, h0, Past.refl _ _⟩).mono ?_
  · rintro j st w ⟨hj, hp, _⟩
    obtain ⟨ov, hd⟩ := (hok j hj).d st w hp
    exact ⟨_, _, ov, hd⟩
  · rintro j st w w' ⟨hj, hp, hpa⟩ hb
    exact ⟨hj, (hok j hj).below hp hb, hpa.trans (Past.of_below hb)⟩
  · rintro j st st' w ⟨hj, hp, hpa⟩
    obtain ⟨ov, hd⟩ := (hok j hj).d st w hp
    have ho := (Oth.refl [I.d] w).setCell (p := ⟨I.d, 2, none⟩) (.inl (by simp)) (.int .i64 st')
    exact ⟨hj, (hok j hj).mv st st' w _ [I.d] hp ho (TyK.one hd.bk) (fun cv ov hd => hd.sstep st'), hpa.trans (Past.of ho (by simpa using ((hok j hj).bs st w hp).1.lo I.d (by simp)))⟩
  · rintro j st w hj ⟨_, hp, _⟩
    exact (hok j hj).busy rfl hL hp
  · rintro j w hj ⟨_, hp, hpa⟩
    refine (hPick j w hj hp).mono ?_
    rintro e w' ⟨a, b, c⟩
    exact ⟨a, by omega, b, hpa.trans c⟩
  · rintro e w' ⟨a, _, b, c⟩
    exact ⟨a, b, c⟩
theorem Ok.start (I : Ids) (L : List Cl) (i : Nat) (k : Cl) (B : Nat) (xs : List Opn) (t : ByteArray) (n lim now cnt : Int) (x : Nm) (r : Option Rc) : Ok I L i k B xs true (fun st w => Start B I L i k xs t st w ∧ ShF I n lim now cnt x r w) := by
  refine ⟨fun st st' w w' K h ho hK hd => ⟨h.1.ty ho hK hd, h.2.ty ho hK (by decide)⟩, fun st w h => ?_, fun st w h => ⟨h.1.fx, ?_⟩⟩
  · obtain ⟨oA, oc, o, tx, op, ttl, nv, at_, rv, p, a, b, c, d, e⟩ := h.1.ex
    exact ⟨_, a⟩
  · obtain ⟨oA, oc, o, tx, op, ttl, nv, at_, rv, p, a, b, c, d, e⟩ := h.1.ex
    exact ⟨o, 0, tx, op, ttl, nv, at_, rv, p, _, b, c, d, .inr (.inr ⟨t, rfl, rfl, rfl⟩)⟩
theorem Ok.begun (I : Ids) (L : List Cl) (i : Nat) (k : Cl) (B : Nat) (xs : List Opn) (t : ByteArray) (n lim now cnt : Int) (x : Nm) (r : Option Rc) : Ok I L i k B xs true (fun st w => Begun B I L i k xs t st w ∧ ShF I n lim now cnt x r w) := by
  refine ⟨fun st st' w w' K h ho hK hd => ⟨h.1.ty ho hK hd, h.2.ty ho hK (by decide)⟩, fun st w h => ?_, fun st w h => ?_⟩
  · obtain ⟨oA, oc, b, a, c⟩ := h.1.ex
    exact ⟨_, a.d⟩
  · obtain ⟨oA, oc, b, a, c⟩ := h.1.ex
    exact ⟨a.fx, _, 1, _, _, _, _, _, _, _, _, a.c, a.b, c, .inl ⟨rfl, rfl⟩⟩
theorem Ok.mid (I : Ids) (L : List Cl) (i : Nat) (k : Cl) (B : Nat) (xs : List Opn) (x : Nm) (op ttl ph : Int) (V : World → Value → Prop) (p : Rs) (ans : Int) (rsp : Rs) (hph : (ph == 0) = false) (hV : Stb V) : Ok I L i k B xs true (Mid B I L i k xs x op ttl ph V p ans rsp) := by
  refine ⟨fun st st' w w' K h ho hK hd => h.ty hV ho hK hd, fun st w h => ?_, fun st w h => ?_⟩
  · obtain ⟨oA, oc, q, cq, A', c', rv, tx, begun, dec, a, b, c, d, e⟩ := h.ex
    exact ⟨_, a.d⟩
  · obtain ⟨oA, oc, q, cq, A', c', rv, tx, begun, dec, a, b, c, d, e⟩ := h.ex
    exact ⟨a.fx, _, ph, _, _, _, _, _, _, _, _, a.c, a.b, c, .inl ⟨hph, rfl⟩⟩
theorem Ok.done (I : Ids) (L : List Cl) (i : Nat) (k : Cl) (B : Nat) (xs : List Opn) (x : Nm) (op ttl : Int) (V : World → Value → Prop) (p : Rs) (rsp : Rs) (hV : Stb V) : Ok I L i k B xs false (fun st w => ∃ ans, 0 ≤ ans ∧ Mid B I L i k xs x op ttl 0 V p ans rsp st w) := by
  refine ⟨fun st st' w w' K h ho hK hd => ?_, fun st w h => ?_, fun st w h => ?_⟩
  · obtain ⟨ans, h0, h⟩ := h
    exact ⟨ans, h0, h.ty hV ho hK hd⟩
  · obtain ⟨ans, h0, h⟩ := h
    obtain ⟨oA, oc, q, cq, A', c', rv, tx, begun, dec, a, b, c, d, e⟩ := h.ex
    exact ⟨_, a.d⟩
  · obtain ⟨ans, h0, h⟩ := h
    obtain ⟨oA, oc, q, cq, A', c', rv, tx, begun, dec, a, b, c, d, e⟩ := h.ex
    exact ⟨a.fx, _, 0, _, _, _, _, _, _, _, _, a.c, a.b, c, .inr (.inl ⟨rfl, rfl, rfl⟩)⟩
set_option maxRecDepth 10000 in
/-- A HOLD of a name that is not live is granted in eight rounds. -/
theorem rounds_hold {nm : List UInt8} {gr steps most : Int} (h : Start B I L i k xs t steps w) (hsh : ShF I n lim now cnt (nmOf (str nm)) r w) (hL : L.length ≤ 64) (hxs : xs.length ≤ 100)
    (hq : Rq.parse (lst t) = ⟨1, ttl, [nm], 0⟩) (hs0 : 0 < (str nm).size) (hn : (str nm).size ≤ 63) (ha : Alp (nums (lst (str nm)))) (hmost : 8 < most) (hst : 0 ≤ steps ∧ steps ≤ 1000000)
    (hr : r.getD Rc.none = r0) (hlv : r0.live now = false) (t1 : 1 ≤ ttl) (t2 : now + ttl ≤ 1073741824) (hgr : 1 - r0.st = gr) (hcap : (gr = 1 ∧ cnt < lim) ∨ gr = 0) (hrs : r0.st = 0 ∨ r0.st = 1) (h0 : 0 ≤ now) (hcnt : 0 ≤ cnt ∧ cnt ≤ 1000) :
    Calls Tryz.prog 18 #[.pointer (some ⟨I.d, 0, none⟩), .int .i64 most] w fun e w' => e = .returned (.int .i64 8) ∧ (∃ ans, 0 ≤ ans ∧ Mid B I L i k xs (nmOf (str nm)) 1 ttl 0 (V7 I n lim now (cnt + gr) (nmOf (str nm)) (some ⟨1, (i : Int), (nmOf (str nm)).a, now + ttl⟩)) ⟨0, -1, ByteArray.empty, Rc.none, now⟩ ans ⟨0, -1, ByteArray.empty, Rc.none, now⟩ (steps + 8) w') ∧ Past B w w' := by
  generalize hx : nmOf (str nm) = x at *
  have hi := h.fx.lt
  have hk : x.k.size ≤ 1000000 := by rw [← hx]; show (cn (str nm)).size ≤ _; rw [cn_size]; omega
  have hka : x.a.size = (str nm).size := by rw [← hx]; exact cn_size _
  refine rounds_ok (N := 8) (B := B) (i := i) (k := k) (xs := xs) (fun j => match j with
    | 0 => fun st w => Start B I L i k xs t st w ∧ ShF I n lim now cnt x r w
    | 1 => fun st w => Begun B I L i k xs t st w ∧ ShF I n lim now cnt x r w
    | 2 => Mid B I L i k xs x 1 ttl 2 (V2 I n lim now cnt x r) Rs.zero (-1) Rs.zero
    | 3 => Mid B I L i k xs x 1 ttl 3 (V3 I n lim now cnt x i r) Rs.zero (-1) Rs.zero
    | 4 => Mid B I L i k xs x 1 ttl 4 (V4 B I n lim now cnt x i r r0) Rs.zero (-1) Rs.zero
    | 5 => Mid B I L i k xs x 1 ttl 5 (V4 B I n lim now (cnt + gr) x i r ⟨1, (i : Int), x.a, now + ttl⟩) ⟨0, -1, ByteArray.empty, Rc.none, now⟩ (-1) ⟨0, -1, ByteArray.empty, Rc.none, now⟩
    | 6 => Mid B I L i k xs x 1 ttl 6 (V6 I n lim now (cnt + gr) x i (some ⟨1, (i : Int), x.a, now + ttl⟩)) ⟨0, -1, ByteArray.empty, Rc.none, now⟩ (-1) ⟨0, -1, ByteArray.empty, Rc.none, now⟩
    | 7 => Mid B I L i k xs x 1 ttl 7 (V7 I n lim now (cnt + gr) x (some ⟨1, (i : Int), x.a, now + ttl⟩)) ⟨0, -1, ByteArray.empty, Rc.none, now⟩ (-1) ⟨0, -1, ByteArray.empty, Rc.none, now⟩
    | _ => fun st w => ∃ ans, 0 ≤ ans ∧ Mid B I L i k xs x 1 ttl 0 (V7 I n lim now (cnt + gr) x (some ⟨1, (i : Int), x.a, now + ttl⟩)) ⟨0, -1, ByteArray.empty, Rc.none, now⟩ ans ⟨0, -1, ByteArray.empty, Rc.none, now⟩ st w) ?_ hL ?_ hmost (by omega) hst ⟨h, hsh⟩
  · intro j hj
    match j, hj with
    | 0, _ => exact Ok.start ..
    | 1, _ => exact Ok.begun ..
    | 2, _ => exact Ok.mid (hph := rfl) (hV := stb2) ..
    | 3, _ => exact Ok.mid (hph := rfl) (hV := stb3) ..
    | 4, _ => exact Ok.mid (hph := rfl) (hV := stb4) ..
    | 5, _ => exact Ok.mid (hph := rfl) (hV := stb4) ..
    | 6, _ => exact Ok.mid (hph := rfl) (hV := stb6) ..
    | 7, _ => exact Ok.mid (hph := rfl) (hV := stb7) ..
    | 8, _ => exact Ok.done (hV := stb7) ..
  · intro j w hj hp
    match j, hj with
    | 0, _ =>
      obtain ⟨hp, hne, lO, hs⟩ := hp
      exact (begin_pick _ hp hL hxs hs).mono fun e w' ⟨a, b, c, d⟩ => ⟨a, ⟨b, hne, lO, c⟩, d⟩
    | 1, _ => subst hx; exact pick_parse _ hp.1 hL hxs hp.2 rfl hq hs0 hn ha
    | 2, _ => exact pick_lock _ hp hL hxs (by omega) rfl hk
    | 3, _ => subst hr; exact pick_read _ hp hL hxs (by omega) rfl hk
    | 4, _ => exact pick_hold _ hp hL hxs hlv t1 t2 hgr hcap hrs h0 hcnt
    | 5, _ => exact pick_write _ hp hL hxs rfl hk ⟨rfl, by show (0 : Int) ≤ (i : Int); omega, by show (i : Int) < 64; omega, by show 0 < x.a.size; omega, by show x.a.size ≤ 63; omega, by show 1 ≤ now + ttl; omega, by show now + ttl ≤ 1073741824; omega⟩
    | 6, _ => exact pick_free _ hp hL hxs (by omega) rfl hk
    | 7, _ => exact (pick_reply _ hp hL hxs rfl).mono fun e w' ⟨a, b, c⟩ => ⟨a, ⟨_, by omega, b⟩, c⟩
set_option maxRecDepth 10000 in
/-- A HOLD of a name that is live is refused in seven rounds. -/
theorem rounds_held {nm : List UInt8} {steps most : Int} (h : Start B I L i k xs t steps w) (hsh : ShF I n lim now cnt (nmOf (str nm)) r w) (hL : L.length ≤ 64) (hxs : xs.length ≤ 100)
    (hq : Rq.parse (lst t) = ⟨1, ttl, [nm], 0⟩) (hs0 : 0 < (str nm).size) (hn : (str nm).size ≤ 63) (ha : Alp (nums (lst (str nm)))) (hmost : 8 < most) (hst : 0 ≤ steps ∧ steps ≤ 1000000)
    (hr : r.getD Rc.none = r0) (hlv : r0.live now = true) (t1 : 1 ≤ ttl) (t2 : now + ttl ≤ 1073741824) (hrs : r0.st = 0 ∨ r0.st = 1) (h0 : 0 ≤ now) (hcnt : 0 ≤ cnt ∧ cnt ≤ 1000) :
    Calls Tryz.prog 18 #[.pointer (some ⟨I.d, 0, none⟩), .int .i64 most] w fun e w' => e = .returned (.int .i64 7) ∧ (∃ ans, 0 ≤ ans ∧ Mid B I L i k xs (nmOf (str nm)) 1 ttl 0 (V7 I n lim now cnt (nmOf (str nm)) r) ⟨24, 0, (nmOf (str nm)).a, Rc.none, now⟩ ans ⟨24, 0, (nmOf (str nm)).a, Rc.none, now⟩ (steps + 7) w') ∧ Past B w w' := by
  generalize hx : nmOf (str nm) = x at *
  have hi := h.fx.lt
  have hk : x.k.size ≤ 1000000 := by rw [← hx]; show (cn (str nm)).size ≤ _; rw [cn_size]; omega
  refine rounds_ok (N := 7) (B := B) (i := i) (k := k) (xs := xs) (fun j => match j with
    | 0 => fun st w => Start B I L i k xs t st w ∧ ShF I n lim now cnt x r w
    | 1 => fun st w => Begun B I L i k xs t st w ∧ ShF I n lim now cnt x r w
    | 2 => Mid B I L i k xs x 1 ttl 2 (V2 I n lim now cnt x r) Rs.zero (-1) Rs.zero
    | 3 => Mid B I L i k xs x 1 ttl 3 (V3 I n lim now cnt x i r) Rs.zero (-1) Rs.zero
    | 4 => Mid B I L i k xs x 1 ttl 4 (V4 B I n lim now cnt x i r r0) Rs.zero (-1) Rs.zero
    | 5 => Mid B I L i k xs x 1 ttl 6 (V6 I n lim now cnt x i r) ⟨24, 0, x.a, Rc.none, now⟩ (-1) ⟨24, 0, x.a, Rc.none, now⟩
    | 6 => Mid B I L i k xs x 1 ttl 7 (V7 I n lim now cnt x r) ⟨24, 0, x.a, Rc.none, now⟩ (-1) ⟨24, 0, x.a, Rc.none, now⟩
    | _ => fun st w => ∃ ans, 0 ≤ ans ∧ Mid B I L i k xs x 1 ttl 0 (V7 I n lim now cnt x r) ⟨24, 0, x.a, Rc.none, now⟩ ans ⟨24, 0, x.a, Rc.none, now⟩ st w) ?_ hL ?_ (by omega) (by omega) hst ⟨h, hsh⟩
  · intro j hj
    match j, hj with
    | 0, _ => exact Ok.start ..
    | 1, _ => exact Ok.begun ..
    | 2, _ => exact Ok.mid (hph := rfl) (hV := stb2) ..
    | 3, _ => exact Ok.mid (hph := rfl) (hV := stb3) ..
    | 4, _ => exact Ok.mid (hph := rfl) (hV := stb4) ..
    | 5, _ => exact Ok.mid (hph := rfl) (hV := stb6) ..
    | 6, _ => exact Ok.mid (hph := rfl) (hV := stb7) ..
    | 7, _ => exact Ok.done (hV := stb7) ..
  · intro j w hj hp
    match j, hj with
    | 0, _ =>
      obtain ⟨hp, hne, lO, hs⟩ := hp
      exact (begin_pick _ hp hL hxs hs).mono fun e w' ⟨a, b, c, d⟩ => ⟨a, ⟨b, hne, lO, c⟩, d⟩
    | 1, _ => subst hx; exact pick_parse _ hp.1 hL hxs hp.2 rfl hq hs0 hn ha
    | 2, _ => exact pick_lock _ hp hL hxs (by omega) rfl hk
    | 3, _ => subst hr; exact pick_read _ hp hL hxs (by omega) rfl hk
    | 4, _ => exact pick_held _ hp hL hxs hlv t1 t2 hrs h0 hcnt
    | 5, _ => exact pick_free _ hp hL hxs (by omega) rfl hk
    | 6, _ => exact (pick_reply _ hp hL hxs rfl).mono fun e w' ⟨a, b, c⟩ => ⟨a, ⟨_, by omega, b⟩, c⟩
set_option maxRecDepth 10000 in
/-- A QUERY is answered in seven rounds. -/
theorem rounds_query {nm : List UInt8} {steps most : Int} (h : Start B I L i k xs t steps w) (hsh : ShF I n lim now cnt (nmOf (str nm)) r w) (hL : L.length ≤ 64) (hxs : xs.length ≤ 100)
    (hq : Rq.parse (lst t) = ⟨7, 0, [nm], 0⟩) (hs0 : 0 < (str nm).size) (hn : (str nm).size ≤ 63) (ha : Alp (nums (lst (str nm)))) (hmost : 8 < most) (hst : 0 ≤ steps ∧ steps ≤ 1000000)
    (hr : r.getD Rc.none = r0) (hrs : r0.st = 0 ∨ r0.st = 1) (h0 : 0 ≤ now) (hcnt : 0 ≤ cnt ∧ cnt ≤ 1000) :
    Calls Tryz.prog 18 #[.pointer (some ⟨I.d, 0, none⟩), .int .i64 most] w fun e w' => e = .returned (.int .i64 7) ∧ (∃ ans, 0 ≤ ans ∧ Mid B I L i k xs (nmOf (str nm)) 7 0 0 (V7 I n lim now cnt (nmOf (str nm)) r) ⟨0, -1, ByteArray.empty, if r0.live now then r0 else Rc.none, now⟩ ans ⟨0, -1, ByteArray.empty, if r0.live now then r0 else Rc.none, now⟩ (steps + 7) w') ∧ Past B w w' := by
  generalize hx : nmOf (str nm) = x at *
  have hi := h.fx.lt
  have hk : x.k.size ≤ 1000000 := by rw [← hx]; show (cn (str nm)).size ≤ _; rw [cn_size]; omega
  refine rounds_ok (N := 7) (B := B) (i := i) (k := k) (xs := xs) (fun j => match j with
    | 0 => fun st w => Start B I L i k xs t st w ∧ ShF I n lim now cnt x r w
    | 1 => fun st w => Begun B I L i k xs t st w ∧ ShF I n lim now cnt x r w
    | 2 => Mid B I L i k xs x 7 0 2 (V2 I n lim now cnt x r) Rs.zero (-1) Rs.zero
    | 3 => Mid B I L i k xs x 7 0 3 (V3 I n lim now cnt x i r) Rs.zero (-1) Rs.zero
    | 4 => Mid B I L i k xs x 7 0 4 (V4 B I n lim now cnt x i r r0) Rs.zero (-1) Rs.zero
    | 5 => Mid B I L i k xs x 7 0 6 (V6 I n lim now cnt x i r) ⟨0, -1, ByteArray.empty, if r0.live now then r0 else Rc.none, now⟩ (-1) ⟨0, -1, ByteArray.empty, if r0.live now then r0 else Rc.none, now⟩
    | 6 => Mid B I L i k xs x 7 0 7 (V7 I n lim now cnt x r) ⟨0, -1, ByteArray.empty, if r0.live now then r0 else Rc.none, now⟩ (-1) ⟨0, -1, ByteArray.empty, if r0.live now then r0 else Rc.none, now⟩
    | _ => fun st w => ∃ ans, 0 ≤ ans ∧ Mid B I L i k xs x 7 0 0 (V7 I n lim now cnt x r) ⟨0, -1, ByteArray.empty, if r0.live now then r0 else Rc.none, now⟩ ans ⟨0, -1, ByteArray.empty, if r0.live now then r0 else Rc.none, now⟩ st w) ?_ hL ?_ (by omega) (by omega) hst ⟨h, hsh⟩
  · intro j hj
    match j, hj with
    | 0, _ => exact Ok.start ..
    | 1, _ => exact Ok.begun ..
    | 2, _ => exact Ok.mid (hph := rfl) (hV := stb2) ..
    | 3, _ => exact Ok.mid (hph := rfl) (hV := stb3) ..
    | 4, _ => exact Ok.mid (hph := rfl) (hV := stb4) ..
    | 5, _ => exact Ok.mid (hph := rfl) (hV := stb6) ..
    | 6, _ => exact Ok.mid (hph := rfl) (hV := stb7) ..
    | 7, _ => exact Ok.done (hV := stb7) ..
  · intro j w hj hp
    match j, hj with
    | 0, _ =>
      obtain ⟨hp, hne, lO, hs⟩ := hp
      exact (begin_pick _ hp hL hxs hs).mono fun e w' ⟨a, b, c, d⟩ => ⟨a, ⟨b, hne, lO, c⟩, d⟩
    | 1, _ => subst hx; exact pick_parse _ hp.1 hL hxs hp.2 rfl hq hs0 hn ha
    | 2, _ => exact pick_lock _ hp hL hxs (by omega) rfl hk
    | 3, _ => subst hr; exact pick_read _ hp hL hxs (by omega) rfl hk
    | 4, _ => exact pick_query _ hp hL hxs hrs h0 hcnt
    | 5, _ => exact pick_free _ hp hL hxs (by omega) rfl hk
    | 6, _ => exact (pick_reply _ hp hL hxs rfl).mono fun e w' ⟨a, b, c⟩ => ⟨a, ⟨_, by omega, b⟩, c⟩
end
end Go.Proofs.YtddieenjdaociaaGreatDoor
namespace Go.Proofs.YtddieenjdaociaaGreatDoor
open Go Go.RowKit Go.Shelf
set_option linter.unusedVariables false

def rsT : List TypeId := [59, 127, 61, 92, 80, 75]
/-- No two clients share a block. -/
def Dis (L : List Cl) : Prop := ∀ (j j' : Nat) (k k' : Cl), j ≠ j' → L[j]? = some k → L[j']? = some k' → k'.c ≠ k.c ∧ k'.b ≠ k.b ∧ k'.ch ≠ k.ch ∧ k'.m ≠ k.m
structure Rest (B : Nat) (I : Ids) (L : List Cl) (xs : List Opn) (st : Int) (w : World) : Prop where
  row : w.ownsRow B 59 1 (.slice (some ⟨I.cw, 0, none⟩) L.length I.nc) L.length (cptrs L)
  idle : ∀ (j : Nat) (k' : Cl), L[j]? = some k' → Idle w k' (j : Int)
  dis : Dis L
  nm : ∀ o ∈ xs, NmOk w B o
  ne : I.ls ≠ I.ss
  lo : ∀ g ∈ [I.d, I.s, I.cw, I.lk, I.ls, I.lo, I.st, I.ss, I.sr], B ≤ g
  lc : ∀ k' ∈ L, B ≤ k'.c ∧ B ≤ k'.b ∧ B ≤ k'.ch ∧ B ≤ k'.m
  sz : B ≤ w.heap.size
  ops : ∃ oA oc, DAt w I.d I.s (.slice (some ⟨I.cw, 0, none⟩) L.length I.nc) st (.slice oA xs.length oc) ∧ w.ownsRow B 75 23 (.slice oA xs.length oc) xs.length (opC xs)
section
variable {w w' : World} {B : Nat} {I : Ids} {L : List Cl} {i : Nat} {k : Cl} {xs : List Opn} {K : List Nat} {ts : List TypeId} {n lim now cnt : Int}
variable {st st' : Int} {x : Nm} {op ttl ph : Int} {p p' : Rs} {ans : Int} {rsp : Rs} {r : Option Rc} {r0 : Rc} {V : World → Value → Prop} {t : ByteArray}
theorem Rest.fx (h : Rest B I L xs st w) (hk : L[i]? = some k) : Fx w B I L i k xs :=
  ⟨h.row, hk, fun j k' _ hj => h.idle j k' hj, fun j k' hj hk' => h.dis i j k k' (Ne.symm hj) hk hk', h.nm, h.ne, h.lo, h.lc, h.sz⟩
theorem Rest.mv (h : Rest B I L xs st w) (ho : Oth K w w') (hK : TyK w K ts) (hts : ∀ t ∈ ts, t ∉ rsT) (hd : DkMv I st st' w w') : Rest B I L xs st' w' := by
  have no : ∀ {t : TypeId}, t ∈ rsT → t ∉ ts := fun ht h => hts _ h ht
  refine ⟨own_ty h.row ho hK (no (by decide)), ?_, h.dis, ?_, h.ne, h.lo, h.lc, Nat.le_trans h.sz ho.size, ?_⟩
  · intro j k' hj
    obtain ⟨o, tx, op, ttl, nv, at_, rv, p, a, b, c⟩ := h.idle j k' hj
    exact ⟨o, tx, op, ttl, nv, at_, rv, p, a.oth ho (hK.no a.bk (no (by decide))), b.oth ho (hK.nobox b (no (by decide))) (hK.noch b), c.oth ho (hK.no c.bk (no (by decide)))⟩
  · intro o hm
    obtain ⟨l, h4, h5⟩ := h.nm o hm
    exact ⟨l, h4, own_ty h5 ho hK (no (by decide))⟩
  · obtain ⟨oA, oc, a, b⟩ := h.ops
    exact ⟨oA, oc, hd _ _ a, own_ty b ho hK (no (by decide))⟩
theorem Rest.below (h : Rest B I L xs st w) (hb : Below w.heap.size w w') : Rest B I L xs st w' :=
  h.mv (Oth.below (S := []) hb (Nat.le_refl _)) TyK.nil (ts := []) (by simp) (fun cv ov hd => hd.oth (Oth.below (S := []) hb (Nat.le_refl _)) (by simp))
theorem ShF.below (h : ShF I n lim now cnt x r w) (hb : Below w.heap.size w w') : ShF I n lim now cnt x r w' :=
  h.ty (Oth.below (S := []) hb (Nat.le_refl _)) TyK.nil (ts := []) (by simp)
theorem Mid.rest (h : Mid B I L i k xs x op ttl 0 V p ans rsp st w) (hd : Dis L) : ∃ o, o.ans = ans ∧ o.rsp = rsp ∧ Rest B I L (xs ++ [o]) st w := by
  obtain ⟨oA, oc, q, cq, A', c', rv, tx, begun, dec, a, b, c, d, e⟩ := h.ex
  refine ⟨⟨(i : Int), op, ttl, A', 1, c', Rs.zero, begun, dec, ans, rsp⟩, rfl, rfl, ⟨a.fx.row, ?_, hd, ?_, a.fx.ne, a.fx.lo, a.fx.lc, a.fx.sz, oA, oc, ?_, ?_⟩⟩
  · intro j k' hj
    by_cases hi : j = i
    · subst hi
      rw [a.fx.me] at hj
      injection hj with hj
      subst hj
      exact ⟨_, _, _, _, _, _, _, _, a.c, a.b, c⟩
    · exact a.fx.oth j k' hi hj
  · intro o ho
    rcases List.mem_append.1 ho with h1 | h1
    · exact a.fx.nm o h1
    · rw [List.mem_singleton.1 h1]
      exact ⟨[x], Nat.le_refl _, b⟩
  · rw [List.length_append]; exact a.d
  · rw [List.length_append]; exact a.r
theorem send_start (h : Rest B I L xs st w) (hk : L[i]? = some k) (hL : L.length ≤ 64) (hsh : ShF I n lim now cnt x r w) (ht : t.size ≤ 4096) (hst : 0 ≤ st ∧ st ≤ 1000000) :
    Calls Tryz.prog 6 #[.pointer (some ⟨I.d, 0, none⟩), .agg #[.int .i64 1, .int .i64 (i : Int), .int .i64 0, .string t]] w fun e w' => e = .returned (.int .i64 0) ∧ Start B I L i k xs t (st + 1) w' ∧ ShF I n lim now cnt x r w' ∧ Past B w w' := by
  have hf := h.fx hk
  obtain ⟨oA, oc, hd, hr⟩ := h.ops
  obtain ⟨o, tx, op, ttl, nv, at_, rv, p, a, b, c⟩ := h.idle i k hk
  obtain ⟨cc, hcb⟩ := own_blk h.row I.cw (by simp [rowL])
  refine (do_send t hd hf.lt hL hf.cell a b ht hst (Bk.ne hcb hd.bk (by decide)) hcb.lt (hcb.nech b)).mono ?_
  rintro e w' ⟨rfl, hd', hb', ho⟩
  have hno : ∀ (g : Nat) (t : TypeId) (cs : Array Value), Bk w g t cs → t ≠ 55 → g ∉ [I.d, k.ch] := by
    intro g t cs hg h1
    simp only [List.mem_cons, List.not_mem_nil, or_false, not_or]
    exact ⟨Bk.ne hg hd.bk h1, hg.nech b⟩
  refine ⟨rfl, ⟨?_, oA, oc, o, tx, op, ttl, nv, at_, rv, p, hd', a.oth ho (hno _ _ _ a.bk (by decide)), hb', c.oth ho (hno _ _ _ c.bk (by decide)), own_oth2 hr ho (fun g cs hg => hno g _ cs hg (by decide))⟩, ?_, Past.of ho ?_⟩
  · refine hf.othr ho (fun g cs hg => hno g _ cs hg (by decide)) ?_ (fun g cs hg => hno g _ cs hg (by decide))
    intro j k' hj hk'
    obtain ⟨o', tx', op', ttl', nv', at', rv', p', a', b', c'⟩ := hf.oth j k' hj hk'
    obtain ⟨d1, d2, d3, d4⟩ := hf.dis j k' hj hk'
    refine ⟨hno _ _ _ a'.bk (by decide), hno _ _ _ b'.1 (by decide), ?_, hno _ _ _ c'.bk (by decide)⟩
    simp only [List.mem_cons, List.not_mem_nil, or_false, not_or]
    exact ⟨(hd.bk.nech b').symm, d3⟩
  · obtain ⟨ne, lO, hs⟩ := hsh
    refine ⟨ne, lO, hs.no ho (ts := [55]) (fun g t cs hg h1 => hno g t cs hg (by simpa using h1)) (by decide)⟩
  · simp only [List.mem_cons, List.not_mem_nil, or_false]
    rintro g (rfl | rfl)
    · exact h.lo _ (by simp)
    · exact hf.lok.2.2.1
theorem pass_rest (dt : Int) (h : Rest B I L xs st w) (hsh : ShF I n lim now cnt x r w) (h0 : 0 ≤ now) (h1 : now ≤ 1073741824) (hd : 0 ≤ dt) (hsum : now + dt ≤ 1073741823) (hst : 0 ≤ st ∧ st ≤ 1000000) :
    Calls Tryz.prog 6 #[.pointer (some ⟨I.d, 0, none⟩), .agg #[.int .i64 3, .int .i64 0, .int .i64 dt, .string ⟨#[]⟩]] w fun e w' => e = .returned (.int .i64 0) ∧ Rest B I L xs (st + 1) w' ∧ ShF I n lim (now + dt) cnt x r w' ∧ Past B w w' := by
  obtain ⟨oA, oc, hdk, hr⟩ := h.ops
  obtain ⟨ne, lO, hs⟩ := hsh
  refine (do_pass 0 dt hdk hs.s h0 h1 hd hsum hst).mono ?_
  rintro e w' ⟨rfl, hd', hs', ho⟩
  have hK : TyK w [I.d, I.s] [55, 89] := .cons hdk.bk (by decide) (.cons hs.s.bk (by decide) .nil)
  have hK2 : ∀ (g : Nat) (t : TypeId) (cs : Array Value), Bk w g t cs → t ∉ [55, 89] → g ∉ [I.d, I.s] := fun g t cs hg ht => hK.no hg ht
  refine ⟨rfl, ⟨own_ty h.row ho hK (by decide), ?_, h.dis, ?_, h.ne, h.lo, h.lc, Nat.le_trans h.sz ho.size, oA, oc, hd', own_ty hr ho hK (by decide)⟩, ⟨ne, lO, hs', hs.l.ty ho hK (by decide) (by decide) (by decide), hs.t.ty ho hK (by decide) (by decide) (by decide), fun a ha => (hs.kp a ha).oth ho (hK.no (hs.kp a ha) (by decide))⟩, Past.of ho ?_⟩
  · intro j k' hj
    obtain ⟨o, tx, op, ttl, nv, at_, rv, p, a, b, c⟩ := h.idle j k' hj
    exact ⟨o, tx, op, ttl, nv, at_, rv, p, a.oth ho (hK.no a.bk (by decide)), b.oth ho (hK.nobox b (by decide)) (hK.noch b), c.oth ho (hK.no c.bk (by decide))⟩
  · intro o hm
    obtain ⟨l, h4, h5⟩ := h.nm o hm
    exact ⟨l, h4, own_ty h5 ho hK (by decide)⟩
  · simp only [List.mem_cons, List.not_mem_nil, or_false]
    rintro g (rfl | rfl)
    · exact h.lo _ (by simp)
    · exact h.lo _ (by simp)
end
end Go.Proofs.YtddieenjdaociaaGreatDoor

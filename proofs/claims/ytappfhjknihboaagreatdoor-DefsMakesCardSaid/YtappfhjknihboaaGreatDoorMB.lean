/-  -/
import Derived.Test.YtappfhjknihboaaGreatDoorMA
import Derived.Test.YtappfhjknihboaaGreatDoorMC
import Derived.Orders
import Derived.WalkKit
import Derived.BigFrame

/- States (api.State) in memory. -/
namespace Go.Proofs.YtappfhjknihboaaGreatDoor
open Go.RowKit

/-! ### elements of k cells each -/
def ecells {α : Type} (enc : α → List Value) (l : List α) : List Value := l.flatMap enc
section
variable {α : Type} {enc : α → List Value} {k : Nat}
theorem ecells_len (he : ∀ x, (enc x).length = k) : ∀ l : List α, (ecells enc l).length = l.length * k
  | [] => by simp [ecells]
  | x :: l => by
    have := ecells_len he l
    rw [ecells] at this
    simp only [ecells, List.flatMap_cons, List.length_append, List.length_cons, this, he]
    rw [Nat.add_mul]
    omega
theorem ecells_app (l r : List α) : ecells enc (l ++ r) = ecells enc l ++ ecells enc r := by simp [ecells]
theorem ecells_get [Inhabited α] (he : ∀ x, (enc x).length = k) : ∀ (l : List α) (j c : Nat) (_ : j < l.length) (_ : c < k), (ecells enc l)[j * k + c]? = (enc l[j]!)[c]?
  | x :: l, 0, c, _, hc => by
    simp only [ecells, List.flatMap_cons, Nat.zero_mul, Nat.zero_add]
    rw [List.getElem?_append_left (by rw [he]; exact hc)]
    rfl
  | x :: l, j + 1, c, hj, hc => by
    have := ecells_get he l j c (by simpa using hj) hc
    simp only [ecells, List.flatMap_cons]
    rw [List.getElem?_append_right (by rw [he, Nat.add_mul]; omega), show (j + 1) * k + c - (enc x).length = j * k + c by rw [he, Nat.add_mul]; omega]
    simpa [ecells] using this
theorem ecells_take (he : ∀ x, (enc x).length = k) : ∀ (l : List α) (i : Nat), ecells enc (l.take i) = (ecells enc l).take (i * k)
  | [], i => by simp [ecells]
  | x :: l, 0 => by simp [ecells]
  | x :: l, i + 1 => by
    have := ecells_take he l i
    simp only [ecells, List.take_succ_cons, List.flatMap_cons] at this ⊢
    have e : (enc x).take ((i + 1) * k) = enc x := List.take_of_length_le (by rw [he, Nat.add_mul]; omega)
    rw [this, List.take_append, he, show (i + 1) * k - k = i * k by rw [Nat.add_mul]; omega, e]
abbrev RdE (w : World) (enc : α → List Value) (k : Nat) (A : Option Addr) (c : Nat) (l : List α) : Prop := Rd w A l.length c k (ecells enc l)
/-- Cell by cell, behind one address. -/
def CellsE [Inhabited α] (w : World) (enc : α → List Value) (k : Nat) (ad : Addr) (l : List α) : Prop := ∀ j c v, j < l.length → (enc l[j]!)[c]? = some v → w.cell? (ad.add (j * k + c)) = some v
theorem RdE.all [Inhabited α] {w : World} {A : Option Addr} {c : Nat} {l : List α} (he : ∀ x, (enc x).length = k) (hk : 0 < k) (h : RdE w enc k A c l) (h0 : 0 < l.length) : ∃ ad, A = some ad ∧ CellsE w enc k ad l := by
  have hl := ecells_len he l
  obtain ⟨ad, rfl, _⟩ := h.cell 0 _ (List.getElem?_eq_getElem (by rw [hl]; exact Nat.mul_pos h0 hk))
  refine ⟨ad, rfl, fun j i v hj hv => ?_⟩
  have hi : i < k := by
    have := (List.getElem?_eq_some_iff.1 hv).1
    rwa [he] at this
  obtain ⟨ad', e, hc⟩ := h.cell (j * k + i) v (by rw [ecells_get he l j i hj hi]; exact hv)
  cases e
  exact hc
theorem CellsE.below [Inhabited α] {w w' : World} {ad : Addr} {l : List α} (h : CellsE w enc k ad l) (hb : Below w.heap.size w w') : CellsE w' enc k ad l := fun j c v hj hv =>
  (hb.cell (World.block_lt_of_cell? w _ (h j c v hj hv))).trans (h j c v hj hv)
/-- One element's cells, as a load of the whole element asks. -/
theorem CellsE.at0 [Inhabited α] {w : World} {ad : Addr} {l : List α} (h : CellsE w enc k ad l) {j : Nat} (hj : j < l.length) {v : Value} (hv : (enc l[j]!)[0]? = some v) : w.cell? (ad.add (j * k)) = some v := h j 0 v hj hv
theorem CellsE.at' [Inhabited α] {w : World} {ad : Addr} {l : List α} (h : CellsE w enc k ad l) {j : Nat} (hj : j < l.length) (i : Nat) (hi : i ≠ 0) {v : Value} (hv : (enc l[j]!)[i]? = some v) : w.cell? ⟨(ad.add (j * k)).block, (ad.add (j * k)).off + i, none⟩ = some v := by
  have e : ad.add (j * k + i) = ⟨(ad.add (j * k)).block, (ad.add (j * k)).off + i, none⟩ := by
    by_cases h0 : j * k = 0
    · rw [h0]
      simp [Addr.add, hi]
    · simp [Addr.add, h0, Nat.add_assoc]
  rw [← e]
  exact h j i v hj hv
end

def encSl (x : Int × Bool) : List Value := [.int .i64 x.1, .bool x.2]
def encSp (x : Int × Int) : List Value := [.int .i64 x.1, .int .i64 x.2]
theorem encSl_len (x : Int × Bool) : (encSl x).length = 2 := rfl
theorem encSp_len (x : Int × Int) : (encSp x).length = 2 := rfl
theorem encW_len (x : Wd) : (encW x).length = 4 := rfl

/-- A whole machine. -/
structure Ps where
  mem : List Int
  data : List Int
  ret : List (Int × Bool)
  ctl : List Int
  words : List Wd
  spots : List (Int × Int)
  out : List Int
  ip : Int
  here : Int
  pos : Int
  tok : Int
  inp : Int
  err : Int
  comp : Bool
  halt : Bool
def zeroP : Ps := ⟨[], [], [], [], [], [], [], 0, 0, 0, 0, 0, 0, false, false⟩
/-- Where its lists lie. -/
structure Ad where
  m : Option Addr
  mc : Nat
  d : Option Addr
  dc : Nat
  r : Option Addr
  rc : Nat
  c : Option Addr
  cc : Nat
  w : Option Addr
  wc : Nat
  s : Option Addr
  sc : Nat
  o : Option Addr
  oc : Nat
def nilA : Ad := ⟨none, 0, none, 0, none, 0, none, 0, none, 0, none, 0, none, 0⟩
def stL (q : Ad) (s : Ps) : List Value := [.slice q.m s.mem.length q.mc, .slice q.d s.data.length q.dc, .slice q.r s.ret.length q.rc, .slice q.c s.ctl.length q.cc, .slice q.w s.words.length q.wc, .slice q.s s.spots.length q.sc, .slice q.o s.out.length q.oc,
  .int .i64 s.ip, .int .i64 s.here, .int .i64 s.pos, .int .i64 s.tok, .int .i64 s.inp, .int .i64 s.err, .bool s.comp, .bool s.halt]
def stV (q : Ad) (s : Ps) : Value := .agg (stL q s).toArray
theorem stV_eq (q : Ad) (s : Ps) : stV q s = .agg #[.slice q.m s.mem.length q.mc, .slice q.d s.data.length q.dc, .slice q.r s.ret.length q.rc, .slice q.c s.ctl.length q.cc, .slice q.w s.words.length q.wc, .slice q.s s.spots.length q.sc, .slice q.o s.out.length q.oc,
  .int .i64 s.ip, .int .i64 s.here, .int .i64 s.pos, .int .i64 s.tok, .int .i64 s.inp, .int .i64 s.err, .bool s.comp, .bool s.halt] := rfl
theorem stL_len (q : Ad) (s : Ps) : (stL q s).length = 15 := rfl
theorem stL_one (q : Ad) (s : Ps) : (stL q s).all (·.oneCell') = true := rfl
theorem stL_zero : stL nilA zeroP = [.slice none 0 0, .slice none 0 0, .slice none 0 0, .slice none 0 0, .slice none 0 0, .slice none 0 0, .slice none 0 0, .int .i64 0, .int .i64 0, .int .i64 0, .int .i64 0, .int .i64 0, .int .i64 0, .bool false, .bool false] := rfl
/-- What its lists read as. -/
structure RdP (w : World) (q : Ad) (s : Ps) : Prop where
  mem : RdI w .u8 q.m q.mc s.mem
  memB : isB s.mem
  data : RdI w .i64 q.d q.dc s.data
  ret : RdE w encSl 2 q.r q.rc s.ret
  ctl : RdI w .i64 q.c q.cc s.ctl
  words : RdE w encW 4 q.w q.wc s.words
  spots : RdE w encSp 2 q.s q.sc s.spots
  out : RdI w .u8 q.o q.oc s.out
  outB : isB s.out
theorem RdP.below {w w' : World} {q : Ad} {s : Ps} (h : RdP w q s) (hb : Below w.heap.size w w') : RdP w' q s :=
  ⟨h.mem.below hb, h.memB, h.data.below hb, h.ret.below hb, h.ctl.below hb, h.words.below hb, h.spots.below hb, h.out.below hb, h.outB⟩
theorem RdP.zero (w : World) : RdP w nilA zeroP :=
  ⟨rd_nil w 1, by simp [zeroP, isB], rd_nil w 1, rd_nil w 2, rd_nil w 1, rd_nil w 4, rd_nil w 2, rd_nil w 1, by simp [zeroP, isB]⟩
theorem RdP.withMem {w : World} {q : Ad} {s : Ps} (h : RdP w q s) {A : Option Addr} {c : Nat} {m : List Int} (hr : RdI w .u8 A c m) (hb : isB m) : RdP w { q with m := A, mc := c } { s with mem := m } :=
  ⟨hr, hb, h.data, h.ret, h.ctl, h.words, h.spots, h.out, h.outB⟩
theorem RdP.withHere {w : World} {q : Ad} {s : Ps} (h : RdP w q s) (n : Int) : RdP w q { s with here := n } :=
  ⟨h.mem, h.memB, h.data, h.ret, h.ctl, h.words, h.spots, h.out, h.outB⟩
theorem RdP.withSpots {w : World} {q : Ad} {s : Ps} (h : RdP w q s) {A : Option Addr} {c : Nat} {m : List (Int × Int)} (hr : RdE w encSp 2 A c m) : RdP w { q with s := A, sc := c } { s with spots := m } :=
  ⟨h.mem, h.memB, h.data, h.ret, h.ctl, h.words, hr, h.out, h.outB⟩
theorem rd_lies {w : World} {A : Option Addr} {n c size : Nat} {cs : List Value} (h : Rd w A n c size cs) (h0 : 0 < cs.length) (ad : Addr) (e : A = some ad) : ad.block < w.heap.size := by
  obtain ⟨ad', e', hc⟩ := h.cell 0 _ (List.getElem?_eq_getElem h0)
  rw [e] at e'
  injection e' with e'
  subst e'
  have := World.block_lt_of_cell? w _ hc
  simpa [Addr.add] using this
theorem rd_apart {w w' : World} {A : Option Addr} {n c size g : Nat} {cs : List Value} (h : Rd w A n c size cs) (hg : w.grownBy w' (some g)) (hne : 0 < cs.length → ∀ ad, A = some ad → ad.block ≠ g) : Rd w' A n c size cs :=
  ⟨h.len, h.le, h.cap, h.nil, fun j u hj => by
    obtain ⟨ad, e, hc⟩ := h.cell j u hj
    refine ⟨ad, e, hg.cell hc ?_⟩
    intro e2
    injection e2 with e2
    apply hne (by have := (List.getElem?_eq_some_iff.1 hj).1; omega) ad e
    rw [← e2]
    unfold Addr.add
    split <;> rfl⟩
/-- In which blocks its lists lie. -/
structure Lies (q : Ad) (s : Ps) (S : Nat → Prop) : Prop where
  mem : 0 < s.mem.length → ∀ ad, q.m = some ad → S ad.block
  data : 0 < s.data.length → ∀ ad, q.d = some ad → S ad.block
  ret : 0 < s.ret.length → ∀ ad, q.r = some ad → S ad.block
  ctl : 0 < s.ctl.length → ∀ ad, q.c = some ad → S ad.block
  words : 0 < s.words.length → ∀ ad, q.w = some ad → S ad.block
  spots : 0 < s.spots.length → ∀ ad, q.s = some ad → S ad.block
  out : 0 < s.out.length → ∀ ad, q.o = some ad → S ad.block
theorem Lies.mono {q : Ad} {s : Ps} {S T : Nat → Prop} (h : Lies q s S) (hst : ∀ b, S b → T b) : Lies q s T :=
  ⟨fun a b c => hst _ (h.mem a b c), fun a b c => hst _ (h.data a b c), fun a b c => hst _ (h.ret a b c), fun a b c => hst _ (h.ctl a b c), fun a b c => hst _ (h.words a b c), fun a b c => hst _ (h.spots a b c), fun a b c => hst _ (h.out a b c)⟩
theorem Lies.zero (S : Nat → Prop) : Lies nilA zeroP S :=
  ⟨fun h => absurd h (by decide), fun h => absurd h (by decide), fun h => absurd h (by decide), fun h => absurd h (by decide), fun h => absurd h (by decide), fun h => absurd h (by decide), fun h => absurd h (by decide)⟩
theorem RdP.lies {w : World} {q : Ad} {s : Ps} (h : RdP w q s) : Lies q s (fun b => b < w.heap.size) :=
  ⟨fun h0 => rd_lies h.mem (by simpa [nums] using h0), fun h0 => rd_lies h.data (by simpa [nums] using h0), fun h0 => rd_lies h.ret (by rw [ecells_len encSl_len]; omega), fun h0 => rd_lies h.ctl (by simpa [nums] using h0), fun h0 => rd_lies h.words (by rw [ecells_len encW_len]; omega), fun h0 => rd_lies h.spots (by rw [ecells_len encSp_len]; omega), fun h0 => rd_lies h.out (by simpa [nums] using h0)⟩
theorem RdP.grown {w w' : World} {q : Ad} {s : Ps} {S : Nat → Prop} {k : Nat} (h : RdP w q s) (hl : Lies q s S) (hg : w.grownBy w' (some k)) (hk : ¬ S k) : RdP w' q s :=
  ⟨rd_apart h.mem hg (fun h0 ad e1 e2 => hk (by rw [← e2]; exact hl.mem (by simpa [nums] using h0) ad e1)), h.memB,
   rd_apart h.data hg (fun h0 ad e1 e2 => hk (by rw [← e2]; exact hl.data (by simpa [nums] using h0) ad e1)),
   rd_apart h.ret hg (fun h0 ad e1 e2 => hk (by rw [← e2]; exact hl.ret (by rw [ecells_len encSl_len] at h0; omega) ad e1)),
   rd_apart h.ctl hg (fun h0 ad e1 e2 => hk (by rw [← e2]; exact hl.ctl (by simpa [nums] using h0) ad e1)),
   rd_apart h.words hg (fun h0 ad e1 e2 => hk (by rw [← e2]; exact hl.words (by rw [ecells_len encW_len] at h0; omega) ad e1)),
   rd_apart h.spots hg (fun h0 ad e1 e2 => hk (by rw [← e2]; exact hl.spots (by rw [ecells_len encSp_len] at h0; omega) ad e1)),
   rd_apart h.out hg (fun h0 ad e1 e2 => hk (by rw [← e2]; exact hl.out (by simpa [nums] using h0) ad e1)), h.outB⟩
/-- What a call that makes a state of another one leaves: the new one is read; its lists are the old one's, or new. -/
structure Res (B : Nat) (q : Ad) (s : Ps) (w' : World) (q' : Ad) (s' : Ps) : Prop where
  rd : RdP w' q' s'
  lies : ∀ S : Nat → Prop, Lies q s S → Lies q' s' (fun b => S b ∨ B ≤ b)
theorem Res.zero (B : Nat) (q : Ad) (s : Ps) (w : World) : Res B q s w nilA zeroP := ⟨RdP.zero w, fun _ _ => Lies.zero _⟩
theorem Res.mono {B B' : Nat} {q q' : Ad} {s s' : Ps} {w' : World} (h : Res B q s w' q' s') (hB : B' ≤ B) : Res B' q s w' q' s' :=
  ⟨h.rd, fun S hS => (h.lies S hS).mono (fun _ hb => hb.imp id (fun h => Nat.le_trans hB h))⟩
theorem Res.below {B : Nat} {q q' : Ad} {s s' : Ps} {w w' : World} (h : Res B q s w q' s') (hb : Below w.heap.size w w') : Res B q s w' q' s' := ⟨h.rd.below hb, h.lies⟩
/-- A block of the caller's own is turned: it lies between what was there and what is new. -/
theorem Res.grown {B k : Nat} {q q' : Ad} {s s' : Ps} {w0 w w' : World} (h : Res B q s w q' s') (h0 : RdP w0 q s) (hg : w.grownBy w' (some k)) (h1 : w0.heap.size ≤ k) (h2 : k < B) : Res B q s w' q' s' :=
  ⟨h.rd.grown (h.lies _ h0.lies) hg (by omega), h.lies⟩
theorem Res.setc {B k i : Nat} {q q' : Ad} {s s' : Ps} {w0 w : World} {v : Value} (h : Res B q s w q' s') (h0 : RdP w0 q s) (h1 : w0.heap.size ≤ k) (h2 : k < B) : Res B q s (w.setCell ⟨k, i, none⟩ v) q' s' := h.grown h0 (grown_setCell w k i v) h1 h2
theorem Res.trans {B B' : Nat} {q q1 q' : Ad} {s s1 s' : Ps} {w1 w' : World} (h : Res B q s w1 q1 s1) (k : Res B' q1 s1 w' q' s') (hB : B ≤ B') : Res B q s w' q' s' :=
  ⟨k.rd, fun S hS => (k.lies _ (h.lies S hS)).mono (fun _ hb => hb.elim (fun h => h) (fun h => .inr (Nat.le_trans hB h)))⟩
theorem Res.same {w : World} {q : Ad} {s : Ps} (B : Nat) (h : RdP w q s) : Res B q s w q s := ⟨h, fun _ hS => hS.mono (fun _ h => .inl h)⟩
theorem Res.withHere {B : Nat} {q q' : Ad} {s s' : Ps} {w' : World} (h : Res B q s w' q' s') (n : Int) : Res B q s w' q' { s' with here := n } :=
  ⟨h.rd.withHere n, fun S hS => by have := h.lies S hS; exact ⟨this.mem, this.data, this.ret, this.ctl, this.words, this.spots, this.out⟩⟩
theorem Res.withMem {B : Nat} {q q' : Ad} {s s' : Ps} {w' : World} (h : Res B q s w' q' s') {A : Option Addr} {c : Nat} {m : List Int} (hr : RdI w' .u8 A c m) (hb : isB m) (ha : 0 < m.length → ∀ ad, A = some ad → B ≤ ad.block) : Res B q s w' { q' with m := A, mc := c } { s' with mem := m } :=
  ⟨h.rd.withMem hr hb, fun S hS => by have := h.lies S hS; exact ⟨fun h0 ad e => .inr (ha h0 ad e), this.data, this.ret, this.ctl, this.words, this.spots, this.out⟩⟩
theorem Res.withSpots {B : Nat} {q q' : Ad} {s s' : Ps} {w' : World} (h : Res B q s w' q' s') {A : Option Addr} {c : Nat} {m : List (Int × Int)} (hr : RdE w' encSp 2 A c m) (ha : 0 < m.length → ∀ ad, A = some ad → B ≤ ad.block) : Res B q s w' { q' with s := A, sc := c } { s' with spots := m } :=
  ⟨h.rd.withSpots hr, fun S hS => by have := h.lies S hS; exact ⟨this.mem, this.data, this.ret, this.ctl, this.words, fun h0 ad e => .inr (ha h0 ad e), this.out⟩⟩
theorem own_block_ge {w : World} {base n size c : Nat} {e : TypeId} {A : Option Addr} {cs : List Value} (h : w.ownsRow base e size (.slice A n c) n cs) : 0 < n → ∀ ad, A = some ad → base ≤ ad.block := by
  intro h0 ad e1
  obtain ⟨g, cap, e2, h1, _⟩ := own_form h h0
  injection e2 with e2
  rw [e1] at e2
  injection e2 with e2
  rw [e2]
  exact h1
theorem Bx.st15 {w : World} {g : Nat} {t : TypeId} {q : Ad} {s : Ps} (h : Bx w g t (stL q s)) :
    w.cell? ⟨g, 0, none⟩ = some (.slice q.m s.mem.length q.mc) ∧ w.cell? ⟨g, 1, none⟩ = some (.slice q.d s.data.length q.dc) ∧ w.cell? ⟨g, 2, none⟩ = some (.slice q.r s.ret.length q.rc) ∧ w.cell? ⟨g, 3, none⟩ = some (.slice q.c s.ctl.length q.cc) ∧ w.cell? ⟨g, 4, none⟩ = some (.slice q.w s.words.length q.wc) ∧ w.cell? ⟨g, 5, none⟩ = some (.slice q.s s.spots.length q.sc) ∧ w.cell? ⟨g, 6, none⟩ = some (.slice q.o s.out.length q.oc) ∧ w.cell? ⟨g, 7, none⟩ = some (.int .i64 s.ip) ∧ w.cell? ⟨g, 8, none⟩ = some (.int .i64 s.here) ∧ w.cell? ⟨g, 9, none⟩ = some (.int .i64 s.pos) ∧ w.cell? ⟨g, 10, none⟩ = some (.int .i64 s.tok) ∧ w.cell? ⟨g, 11, none⟩ = some (.int .i64 s.inp) ∧ w.cell? ⟨g, 12, none⟩ = some (.int .i64 s.err) ∧ w.cell? ⟨g, 13, none⟩ = some (.bool s.comp) ∧ w.cell? ⟨g, 14, none⟩ = some (.bool s.halt) :=
  ⟨h.cell 0, h.cell 1, h.cell 2, h.cell 3, h.cell 4, h.cell 5, h.cell 6, h.cell 7, h.cell 8, h.cell 9, h.cell 10, h.cell 11, h.cell 12, h.cell 13, h.cell 14⟩
theorem Bx.z15 {w : World} {g : Nat} {t : TypeId} (h : Bx w g t (stL nilA zeroP)) :
    (w.cell? ⟨g, 0, none⟩ = some (.slice none 0 0) ∧ w.cell? ⟨g, 1, none⟩ = some (.slice none 0 0) ∧ w.cell? ⟨g, 2, none⟩ = some (.slice none 0 0) ∧ w.cell? ⟨g, 3, none⟩ = some (.slice none 0 0) ∧ w.cell? ⟨g, 4, none⟩ = some (.slice none 0 0) ∧ w.cell? ⟨g, 5, none⟩ = some (.slice none 0 0) ∧ w.cell? ⟨g, 6, none⟩ = some (.slice none 0 0) ∧ w.cell? ⟨g, 7, none⟩ = some (.int .i64 0) ∧ w.cell? ⟨g, 8, none⟩ = some (.int .i64 0) ∧ w.cell? ⟨g, 9, none⟩ = some (.int .i64 0) ∧ w.cell? ⟨g, 10, none⟩ = some (.int .i64 0) ∧ w.cell? ⟨g, 11, none⟩ = some (.int .i64 0) ∧ w.cell? ⟨g, 12, none⟩ = some (.int .i64 0) ∧ w.cell? ⟨g, 13, none⟩ = some (.bool false) ∧ w.cell? ⟨g, 14, none⟩ = some (.bool false)) ∧ w.frozen? ⟨g, 0, none⟩ = false ∧ w.frozen? ⟨g, 1, none⟩ = false ∧ w.frozen? ⟨g, 2, none⟩ = false ∧ w.frozen? ⟨g, 3, none⟩ = false ∧ w.frozen? ⟨g, 4, none⟩ = false ∧ w.frozen? ⟨g, 5, none⟩ = false ∧ w.frozen? ⟨g, 6, none⟩ = false ∧ w.frozen? ⟨g, 7, none⟩ = false ∧ w.frozen? ⟨g, 8, none⟩ = false ∧ w.frozen? ⟨g, 9, none⟩ = false ∧ w.frozen? ⟨g, 10, none⟩ = false ∧ w.frozen? ⟨g, 11, none⟩ = false ∧ w.frozen? ⟨g, 12, none⟩ = false ∧ w.frozen? ⟨g, 13, none⟩ = false ∧ w.frozen? ⟨g, 14, none⟩ = false :=
  ⟨⟨h.cell 0, h.cell 1, h.cell 2, h.cell 3, h.cell 4, h.cell 5, h.cell 6, h.cell 7, h.cell 8, h.cell 9, h.cell 10, h.cell 11, h.cell 12, h.cell 13, h.cell 14⟩, h.free 0, h.free 1, h.free 2, h.free 3, h.free 4, h.free 5, h.free 6, h.free 7, h.free 8, h.free 9, h.free 10, h.free 11, h.free 12, h.free 13, h.free 14⟩
theorem infoSt : (Tryz.prog.info? 28).map (·.size) = some 15 := by kernel_rfl
theorem info1i : (Tryz.prog.info? 3).map (·.size) = some 1 := by kernel_rfl
theorem info1b : (Tryz.prog.info? 4).map (·.size) = some 1 := by kernel_rfl
theorem info1m : (Tryz.prog.info? 22).map (·.size) = some 1 := by kernel_rfl
theorem info1s : (Tryz.prog.info? 26).map (·.size) = some 1 := by kernel_rfl
theorem info1c : (Tryz.prog.info? 23).map (·.size) = some 1 := by kernel_rfl
theorem info1w : (Tryz.prog.info? 25).map (·.size) = some 1 := by kernel_rfl
theorem infoSp : (Tryz.prog.info? 101).map (fun i => (i.zero, i.size, i.bytes)) = some (some (.agg #[.int .i64 0, .int .i64 0]), 2, 16) := by kernel_rfl
end Go.Proofs.YtappfhjknihboaaGreatDoor


/- What package asm makes of states: plain words. -/
namespace Go.Proofs.YtappfhjknihboaaGreatDoor
open Go.RowKit

/-- An address, or the next one that is a multiple of 8. -/
def upR (at_ : Int) : Int := wrap64 ((at_ + 7) / 8 * 8)
theorem upR_in {n : Int} (h0 : 0 ≤ n) (h1 : n ≤ 1000000) : upR n = (n + 7) / 8 * 8 := by
  unfold upR wrap64
  omega
/-- Patch: what is thrown, and the state then. -/
def patchS (s : Ps) (at_ v : Int) : Ps := if cellE s.mem.length at_ = 0 then { s with mem := setC s.mem at_ v } else zeroP
def patchE (s : Ps) (at_ : Int) : Int := cellE s.mem.length at_
def commaE (s : Ps) : Int := if (s.mem.length : Int) - 8 < s.here then -8 else cellE s.mem.length s.here
def commaS (s : Ps) (v : Int) : Ps := if commaE s = 0 then { s with mem := setC s.mem s.here v, here := s.here + 8 } else zeroP
/-- One cell emitted, where it can be. -/
def layS (s : Ps) (v : Int) : Ps := { commaS s v with spots := (s.spots.filter fun x => decide (x.1 < s.here)) ++ [(s.here, s.tok)] }
def emitS : Ps → List Int → Ps
  | s, [] => s
  | s, v :: r => if commaE s = 0 then emitS (layS s v) r else zeroP
def emitE : Ps → List Int → Int
  | _, [] => 0
  | s, v :: r => if commaE s = 0 then emitE (layS s v) r else commaE s

theorem cellE_zero {n : Nat} {i : Int} (h : cellE n i = 0) : 0 ≤ i ∧ i + 8 ≤ n ∧ i % 8 = 0 := by
  unfold cellE at h
  split at h
  · cases h
  · split at h
    · omega
    · cases h
theorem cellE_some (n : Nat) (i : Int) : cellE n i = 0 ∨ cellE n i = -9 ∨ cellE n i = -23 := by
  unfold cellE
  split
  · exact .inr (.inl rfl)
  · split
    · exact .inl rfl
    · exact .inr (.inr rfl)
theorem commaE_zero {s : Ps} (h : commaE s = 0) : cellE s.mem.length s.here = 0 := by
  unfold commaE at h
  split at h
  · cases h
  · exact h
theorem setC_len {l : List Int} {i v : Int} (h : cellE l.length i = 0) : (setC l i v).length = l.length := by
  obtain ⟨h1, h2, h3⟩ := cellE_zero h
  rw [setC, if_pos h, length_splice]
  rw [bytesOf_length]
  omega
theorem setC_isB {l : List Int} {i v : Int} (hb : isB l) : isB (setC l i v) := by
  unfold setC
  split
  · intro x hx
    unfold splice at hx
    rcases List.mem_append.1 hx with h | h
    · exact hb x (List.mem_of_mem_take h)
    · rcases List.mem_append.1 h with h | h
      · exact bytesOf_isB _ _ x h
      · exact hb x (List.mem_of_mem_drop h)
  · intro x hx
    cases hx
theorem patchS_ok {s : Ps} {i v : Int} (h : patchE s i = 0) : patchS s i v = { s with mem := setC s.mem i v } := by
  unfold patchS
  rw [if_pos (show cellE s.mem.length i = 0 from h)]
theorem patchS_no {s : Ps} {i v : Int} (h : patchE s i ≠ 0) : patchS s i v = zeroP := by
  unfold patchS
  rw [if_neg (show ¬ cellE s.mem.length i = 0 from h)]
theorem patchS_here {s : Ps} {v : Int} (h : patchE s s.here = 0) : (patchS s s.here v).here = s.here := by rw [patchS_ok h]
theorem commaS_ok {s : Ps} {v : Int} (h : commaE s = 0) : commaS s v = { patchS s s.here v with here := s.here + 8 } := by
  rw [patchS_ok (show patchE s s.here = 0 from commaE_zero h), commaS, if_pos h]
theorem commaS_no {s : Ps} {v : Int} (h : commaE s ≠ 0) : commaS s v = zeroP := by rw [commaS, if_neg h]
theorem commaS_mem {s : Ps} {v : Int} (h : commaE s = 0) : (commaS s v).mem.length = s.mem.length := by
  rw [commaS, if_pos h]
  exact setC_len (commaE_zero h)
theorem layS_mem {s : Ps} {v : Int} (h : commaE s = 0) : (layS s v).mem.length = s.mem.length := commaS_mem h
theorem layS_here {s : Ps} {v : Int} (h : commaE s = 0) : (layS s v).here = s.here + 8 := by
  unfold layS commaS
  rw [if_pos h]
/-- Of the fields that package asm leaves alone. -/
theorem layS_rest {s : Ps} {v : Int} (h : commaE s = 0) : layS s v = { s with mem := setC s.mem s.here v, here := s.here + 8, spots := (s.spots.filter fun x => decide (x.1 < s.here)) ++ [(s.here, s.tok)] } := by
  unfold layS commaS
  rw [if_pos h]
end Go.Proofs.YtappfhjknihboaaGreatDoor


/- Regions that draw their order: one obligation for each operation, whatever the order. No program in sight. -/
namespace Go.Proofs.YtappfhjknihboaaGreatDoor
open Go.RowKit

theorem wpAny_inv {P : Program} {md : Region.Mode} {ops : Array Oper} {Q : Exit → Act → World → Prop} {I : Array Bool → Act → World → Prop}
    (hsz : ∀ listed a w, I listed a w → listed.size = ops.size)
    (hstep : ∀ listed a w i, I listed a w → i ∈ Region.ready md ops listed → wpOp P ops Q i (I (listed.setIfInBounds i true)) a w)
    (hdone : ∀ listed a w, I listed a w → Region.ready md ops listed = [] → Q .normal a w) :
    ∀ (fuel : Nat) (listed : Array Bool) (a : Act) (w : World), I listed a w → listed.count false ≤ fuel → wpAny P md ops Q fuel listed a w
  | 0, listed, a, w, h, hc => by
    have hr : Region.ready md ops listed = [] := by
      refine List.eq_nil_iff_forall_not_mem.2 fun i hi => ?_
      have h0 := (mem_ready.1 hi).1
      have hlt : i < listed.size := by
        rcases Nat.lt_or_ge i listed.size with h' | h'
        · exact h'
        · simp [Array.getElem?_eq_none h'] at h0
      have hm : false ∈ listed := by
        have h1 : listed[i] = false := by simpa [hlt] using h0
        rw [← h1]
        exact Array.getElem_mem hlt
      have := Array.count_pos_iff.2 hm
      omega
    exact ⟨hr, hdone _ _ _ h hr⟩
  | fuel + 1, listed, a, w, h, hc => by
    refine ⟨fun hr => hdone _ _ _ h hr, fun i hi => ?_⟩
    have h0 := (mem_ready.1 hi).1
    have hlt : i < listed.size := by
      rcases Nat.lt_or_ge i listed.size with h' | h'
      · exact h'
      · simp [Array.getElem?_eq_none h'] at h0
    have h1 : listed[i] = false := by simpa [hlt] using h0
    have hm : false ∈ listed := by
      rw [← h1]
      exact Array.getElem_mem hlt
    have hp := Array.count_pos_iff.2 hm
    have hc' : (listed.setIfInBounds i true).count false ≤ fuel := by
      rw [Array.setIfInBounds, dif_pos hlt, Array.count_set]
      simp only [h1, beq_self_eq_true, if_true]
      simp
      omega
    exact wpOp_mono (fun a' w' h' => wpAny_inv hsz hstep hdone fuel _ a' w' h' hc') (hstep _ _ _ _ h hi)

/-- The slot of an operation. -/
def dstOf (ops : Array Oper) (i : Nat) : Option Tmp := (ops[i]?).bind (·.dst)
def putAll (ops : Array Oper) (V : Nat → Value) : List Nat → Act → Act
  | [], a => a
  | i :: r, a => putAll ops V r (a.put (dstOf ops i) (V i))
theorem putAll_defers (ops : Array Oper) (V : Nat → Value) : ∀ (l : List Nat) (a : Act), (putAll ops V l a).defers = a.defers
  | [], _ => rfl
  | i :: r, a => by
    rw [putAll, putAll_defers ops V r]
    cases dstOf ops i <;> rfl
theorem put_size (a : Act) (d : Option Tmp) (v : Value) : (a.put d v).tmps.size = a.tmps.size := by cases d <;> simp [Act.put]
theorem putAll_size (ops : Array Oper) (V : Nat → Value) : ∀ (l : List Nat) (a : Act), (putAll ops V l a).tmps.size = a.tmps.size
  | [], _ => rfl
  | i :: r, a => by rw [putAll, putAll_size ops V r, put_size]
theorem put_other {a : Act} {d : Option Tmp} {v : Value} {k : Nat} (h : d ≠ some k) : (a.put d v).tmps[k]? = a.tmps[k]? := by
  cases d with
  | none => rfl
  | some d =>
    have hne : d ≠ k := fun e => h (by rw [e])
    simp [Act.put, Array.getElem?_setIfInBounds_ne hne]
theorem put_same {a : Act} {k : Nat} {v : Value} (h : k < a.tmps.size) : (a.put (some k) v).tmps[k]? = some v := by
  simp [Act.put, h]
theorem putAll_other (ops : Array Oper) (V : Nat → Value) {k : Nat} : ∀ (l : List Nat) (a : Act), (∀ i ∈ l, dstOf ops i ≠ some k) → (putAll ops V l a).tmps[k]? = a.tmps[k]?
  | [], _, _ => rfl
  | i :: r, a, h => by
    rw [putAll, putAll_other ops V r _ (fun j hj => h j (List.mem_cons_of_mem _ hj)), put_other (h i (List.mem_cons_self ..))]
theorem putAll_at (ops : Array Oper) (V : Nat → Value) {k i : Nat} (hk : dstOf ops i = some k) : ∀ (l : List Nat) (a : Act), k < a.tmps.size → i ∈ l → (∀ j ∈ l, dstOf ops j = some k → j = i) → (putAll ops V l a).tmps[k]? = some (V i)
  | [], _, _, h, _ => by cases h
  | j :: r, a, hlt, h, hu => by
    rw [putAll]
    by_cases hr : i ∈ r
    · exact putAll_at ops V hk r _ (by rw [put_size]; exact hlt) hr (fun j hj => hu j (List.mem_cons_of_mem _ hj))
    · have hj : i = j := by
        rcases List.mem_cons.1 h with h | h
        · exact h
        · exact absurd h hr
      subst hj
      rw [putAll_other ops V r _ (fun m hm e => hr (by rw [hu m (List.mem_cons_of_mem _ hm) e] at hm; exact hm)), hk, put_same hlt]

/-- No operation is guarded; each waits for earlier ones alone; their slots are apart, and there. -/
def plainB (ops : Array Oper) (n : Nat) : Bool :=
  (List.range ops.size).all fun i => match ops[i]? with
    | none => false
    | some o => o.guard.isNone && (o.after.all fun e => !Region.binds .any e || decide (e.on < i)) && (match o.dst with
      | none => true
      | some k => decide (k < n) && (List.range ops.size).all fun j => decide (j = i) || decide (dstOf ops j ≠ some k))
def waitsB (ops : Array Oper) (deps : Nat → List Nat) : Bool :=
  (List.range ops.size).all fun i => match ops[i]? with
    | none => false
    | some o => (deps i).all fun j => o.after.any fun e => Region.binds .any e && e.on == j

section
variable {P : Program} {ops : Array Oper} {Q : Exit → Act → World → Prop} {Γ : Type} {R : Nat → Γ → Value → World → Prop} {J : Γ → World → Prop} {E : Γ → World → Γ → World → Prop} {U : Nat → Γ → Prop} {a0 : Act} {deps : Nat → List Nat}

def RInv (ops : Array Oper) (R : Nat → Γ → Value → World → Prop) (J : Γ → World → Prop) (U : Nat → Γ → Prop) (a0 : Act) (listed : Array Bool) (a : Act) (w : World) : Prop :=
  listed.size = ops.size ∧ a.defers = a0.defers ∧ a.tmps.size = a0.tmps.size ∧ (∀ k, (∀ i, listed.getD i false = true → dstOf ops i ≠ some k) → a.tmps[k]? = a0.tmps[k]?) ∧
  ∃ γ, J γ w ∧ (∀ i, listed.getD i true = false → U i γ) ∧ ∀ i, listed.getD i false = true → ∃ v, (∀ k, dstOf ops i = some k → a.tmps[k]? = some v) ∧ R i γ v w

theorem getD_false_lt {listed : Array Bool} {i : Nat} (h : listed.getD i false = true) : i < listed.size := by
  rcases Nat.lt_or_ge i listed.size with h' | h'
  · exact h'
  · simp [Array.getElem?_eq_none h'] at h

/-- A region that draws its order: each operation leaves its fact, whatever came before it but what it waits for. -/
theorem wp_region_specs {id : Nat} {w0 : World} (hm : P.follows .mixedOrders = true) (hpl : plainB ops a0.tmps.size = true) (hdp : waitsB ops deps = true) (γ0 : Γ)
    (hU : ∀ i, U i γ0)
    (hJ : J γ0 { w0 with drawn := w0.drawn + 1 })
    (hJE : ∀ γ w γ' w', J γ w → E γ w γ' w' → J γ' w')
    (hRE : ∀ i γ v w γ' w', i < ops.size → J γ w → R i γ v w → E γ w γ' w' → R i γ' v w')
    (hop : ∀ i o, ops[i]? = some o → ∀ a γ w, J γ w → U i γ → (∀ j ∈ deps i, ∃ v, (∀ k, dstOf ops j = some k → a.eval (.tmp k) = v) ∧ R j γ v w) →
      (∀ k, (∀ j, j < ops.size → dstOf ops j ≠ some k) → a.eval (.tmp k) = a0.eval (.tmp k)) →
      o.wp P a w (fun a' w' => ∃ v γ', a' = a.put o.dst v ∧ E γ w γ' w' ∧ (∀ j, j ≠ i → U j γ → U j γ') ∧ R i γ' v w') Q)
    (hfin : ∀ V γ w, J γ w → (∀ i, i < ops.size → R i γ (V i) w) → Q .normal (putAll ops V (List.range ops.size) a0) w) :
    (Code.region id ops true).wp P Q a0 w0 := by
  have hpl' : ∀ i o, ops[i]? = some o → o.guard = none ∧ (∀ e ∈ o.after, Region.binds .any e = true → e.on < i) ∧ ∀ k, o.dst = some k → k < a0.tmps.size ∧ ∀ j, j < ops.size → dstOf ops j = some k → j = i := by
    intro i o ho
    have hlt := (Array.getElem?_eq_some_iff.1 ho).1
    have h := List.all_eq_true.1 hpl i (List.mem_range.2 hlt)
    simp only [ho, Bool.and_eq_true] at h
    refine ⟨by simpa using h.1.1, fun e he hb => by have := Array.all_eq_true_iff_forall_mem.1 h.1.2 e he; simpa [hb] using this, fun k hk => ?_⟩
    have h2 := h.2
    simp only [hk, Bool.and_eq_true, decide_eq_true_eq, List.all_eq_true, List.mem_range, Bool.or_eq_true] at h2
    exact ⟨h2.1, fun j hj hd => (h2.2 j hj).resolve_right (fun h => h hd)⟩
  have hdp' : ∀ i o, ops[i]? = some o → ∀ j ∈ deps i, ∃ e ∈ o.after, Region.binds .any e = true ∧ e.on = j := by
    intro i o ho j hj
    have hlt := (Array.getElem?_eq_some_iff.1 ho).1
    have h := List.all_eq_true.1 hdp i (List.mem_range.2 hlt)
    simp only [ho] at h
    have h2 := List.all_eq_true.1 h j hj
    obtain ⟨e, he, hb⟩ := Array.any_eq_true'.1 h2
    simp only [Bool.and_eq_true, beq_iff_eq] at hb
    exact ⟨e, he, hb⟩
  refine wp_region_any hm (wpAny_inv (I := RInv ops R J U a0) (fun _ _ _ h => h.1) ?_ ?_ _ _ _ _ ?_ (by simp))
  · rintro listed a w i ⟨hs, hd, hz, hf, γ, hj, hu, hl⟩ hi
    obtain ⟨hun, o, ho, haf⟩ := mem_ready.1 hi
    have hlt := (Array.getElem?_eq_some_iff.1 ho).1
    obtain ⟨hg, _, hk⟩ := hpl' i o ho
    have hdo : dstOf ops i = o.dst := by simp [dstOf, ho]
    have hdep : ∀ j ∈ deps i, ∃ v, (∀ k, dstOf ops j = some k → a.eval (.tmp k) = v) ∧ R j γ v w := by
      intro j hj'
      obtain ⟨e, he, hb, hon⟩ := hdp' i o ho j hj'
      have hlj : listed.getD j false = true := by rw [← hon]; exact haf e he hb
      obtain ⟨v, hv, hr⟩ := hl j hlj
      exact ⟨v, fun k hk' => by simp [Act.eval, hv k hk'], hr⟩
    have hfr : ∀ k, (∀ j, j < ops.size → dstOf ops j ≠ some k) → a.eval (.tmp k) = a0.eval (.tmp k) := by
      intro k hk'
      have := hf k (fun j hj' => hk' j (by rw [← hs]; exact getD_false_lt hj'))
      simp [Act.eval, this]
    have h := hop i o ho a γ w hj (hu i hun) hdep hfr
    unfold wpOp
    simp only [ho, Region.wanted, hg, if_true]
    refine .inl (Oper.wp_mono ?_ h)
    rintro a' w' ⟨v, γ', rfl, he, huu, hr⟩
    have hun' : listed.getD i false = false := by
      cases h' : listed.getD i false with
      | false => rfl
      | true =>
        have hlt' := getD_false_lt h'
        simp [hlt'] at hun h'
        rw [hun] at h'
        cases h'
    have hset : ∀ j, (listed.setIfInBounds i true).getD j false = true ↔ (j = i ∨ listed.getD j false = true) := by
      intro j
      by_cases hji : j = i
      · subst hji
        have hlt' : j < listed.size := by rw [hs]; exact hlt
        simp [hlt']
      · rw [getD_set_ne false (fun e => hji e.symm)]
        simp [hji]
    refine ⟨by simpa using hs, ?_, by rw [put_size]; exact hz, ?_, γ', hJE _ _ _ _ hj he, ?_, ?_⟩
    · rw [← hd]
      cases o.dst <;> rfl
    · intro k hk'
      rw [put_other (by rw [← hdo]; exact hk' i ((hset i).2 (.inl rfl)))]
      exact hf k (fun j hj' => hk' j ((hset j).2 (.inr hj')))
    · intro j hj'
      have hji : j ≠ i := fun e => by
        subst e
        have hlt' : j < listed.size := by rw [hs]; exact hlt
        simp [hlt'] at hj'
      rw [getD_set_ne true (fun e => hji e.symm)] at hj'
      exact huu j hji (hu j hj')
    · intro j hj'
      rcases (hset j).1 hj' with rfl | hjl
      · refine ⟨v, fun k hk' => ?_, hr⟩
        rw [hdo] at hk'
        rw [hk']
        exact put_same (by rw [hz]; exact (hk k hk').1)
      · obtain ⟨v', hv', hr'⟩ := hl j hjl
        have hjs : j < ops.size := by rw [← hs]; exact getD_false_lt hjl
        refine ⟨v', fun k hk' => ?_, hRE _ _ _ _ _ _ hjs hj hr' he⟩
        rw [put_other ?_]
        · exact hv' k hk'
        · intro e
          have := (hk k e).2 j hjs hk'
          subst this
          rw [hun'] at hjl
          cases hjl
  · rintro listed a w ⟨hs, hd, hz, hf, γ, hj, hu, hl⟩ hr
    have hall : ∀ i, i < ops.size → listed.getD i false = true := by
      intro i
      induction i using Nat.strongRecOn with
      | ind i ih =>
        intro hi
        cases h' : listed.getD i false with
        | true => rfl
        | false =>
          exfalso
          have hm' : i ∈ Region.ready .any ops listed := by
            refine mem_ready.2 ⟨?_, ops[i], Array.getElem?_eq_getElem hi, fun e he hb => ?_⟩
            · have hlt' : i < listed.size := by rw [hs]; exact hi
              simp [hlt'] at h' ⊢
              exact h'
            · have := (hpl' i _ (Array.getElem?_eq_getElem hi)).2.1 e he hb
              exact ih _ this (by omega)
          rw [hr] at hm'
          cases hm'
    have hV : ∃ V : Nat → Value, ∀ i, i < ops.size → (∀ k, dstOf ops i = some k → a.tmps[k]? = some (V i)) ∧ R i γ (V i) w := by
      refine ⟨fun i => if h : i < ops.size then Classical.choose (hl i (hall i h)) else undef, fun i hi => ?_⟩
      simp only [dif_pos hi]
      exact Classical.choose_spec (hl i (hall i hi))
    obtain ⟨V, hV⟩ := hV
    have ha : a = putAll ops V (List.range ops.size) a0 := by
      have h1 : a.tmps = (putAll ops V (List.range ops.size) a0).tmps := by
        refine Array.ext_getElem? fun k => ?_
        by_cases hk : ∃ i, i < ops.size ∧ dstOf ops i = some k
        · obtain ⟨i, hi, hd'⟩ := hk
          have hdo : dstOf ops i = ops[i].dst := by simp [dstOf, hi]
          have hu := (hpl' i _ (Array.getElem?_eq_getElem hi)).2.2 k (by rw [← hdo]; exact hd')
          rw [(hV i hi).1 k hd', putAll_at ops V hd' _ _ hu.1 (List.mem_range.2 hi) (fun j hj' => hu.2 j (List.mem_range.1 hj'))]
        · have hk' : ∀ i, i < ops.size → dstOf ops i ≠ some k := fun i hi e => hk ⟨i, hi, e⟩
          rw [hf k (fun i hi => hk' i (by rw [← hs]; exact getD_false_lt hi)), putAll_other ops V _ _ (fun i hi => hk' i (List.mem_range.1 hi))]
      have h2 : a.defers = (putAll ops V (List.range ops.size) a0).defers := by rw [putAll_defers, hd]
      cases a
      cases h : putAll ops V (List.range ops.size) a0
      rw [h] at h1 h2
      simp only at h1 h2
      rw [h1, h2]
    rw [ha]
    exact hfin V γ w hj (fun i hi => (hV i hi).2)
  · refine ⟨by simp, rfl, rfl, fun _ _ => rfl, γ0, hJ, fun i _ => hU i, fun i hi => ?_⟩
    have := getD_false_lt hi
    simp at this
    simp [this] at hi
end
end Go.Proofs.YtappfhjknihboaaGreatDoor


/- Regions that draw their order: results in boxes of the call's own; the facts that go on. -/
namespace Go.Proofs.YtappfhjknihboaaGreatDoor
open Go.RowKit

/-- A box: not yet made, made; a mark that it is filled. -/
inductive Gh where
  | no
  | box (g : Nat)
  | set
def Gh.at : Gh → Option Nat
  | .no => none
  | .box g => some g
  | .set => none
def gset (γ : Nat → Gh) (i : Nat) (x : Gh) : Nat → Gh := fun j => if j = i then x else γ j
theorem gset_same (γ : Nat → Gh) (i : Nat) (x : Gh) : gset γ i x i = x := by simp [gset]
theorem gset_other (γ : Nat → Gh) {i j : Nat} (x : Gh) (h : j ≠ i) : gset γ i x j = γ j := by simp [gset, h]
/-- No box is block b. -/
def Free (γ : Nat → Gh) (b : Nat) : Prop := ∀ i, (γ i).at ≠ some b
structure GJ (W : World) (γ : Nat → Gh) (w : World) : Prop where
  below : Below W.heap.size W w
  lt : ∀ i g, (γ i).at = some g → W.heap.size ≤ g ∧ g < w.heap.size
  one : ∀ i j g, (γ i).at = some g → (γ j).at = some g → i = j
inductive GE (γ : Nat → Gh) (w : World) : (Nat → Gh) → World → Prop where
  | grow {w' : World} (h : Below w.heap.size w w') : GE γ w γ w'
  | box {w' : World} (i g : Nat) (h : Below w.heap.size w w') (h0 : γ i = .no) (h1 : w.heap.size ≤ g) (h2 : g < w'.heap.size) : GE γ w (gset γ i (.box g)) w'
  | set {w' : World} (i g : Nat) (h0 : γ i = .box g) (h1 : γ (i + 1) = .no) (h : w.grownBy w' (some g)) : GE γ w (gset γ (i + 1) .set) w'
theorem GJ.start (W : World) : GJ W (fun _ => .no) { W with drawn := W.drawn + 1 } :=
  ⟨(Below.refl W.heap.size W).drew, fun i g h => by simp [Gh.at] at h, fun i j g h => by simp [Gh.at] at h⟩
theorem at_set {γ : Nat → Gh} {i : Nat} (h1 : γ (i + 1) = .no) (j : Nat) : (gset γ (i + 1) .set j).at = (γ j).at := by
  by_cases hj : j = i + 1
  · subst hj
    rw [gset_same, h1]
    rfl
  · rw [gset_other _ _ hj]
theorem GJ.step {W w w' : World} {γ γ' : Nat → Gh} (h : GJ W γ w) (he : GE γ w γ' w') : GJ W γ' w' := by
  cases he with
  | grow hb => exact ⟨below_two h.below hb, fun i g e => ⟨(h.lt i g e).1, Nat.lt_of_lt_of_le (h.lt i g e).2 hb.size⟩, h.one⟩
  | box i g hb h0 h1 h2 =>
    refine ⟨below_two h.below hb, fun j k e => ?_, fun j k m e1 e2 => ?_⟩
    · by_cases hj : j = i
      · subst hj
        rw [gset_same] at e
        cases e
        exact ⟨Nat.le_trans h.below.size h1, h2⟩
      · rw [gset_other _ _ hj] at e
        exact ⟨(h.lt j k e).1, Nat.lt_of_lt_of_le (h.lt j k e).2 hb.size⟩
    · by_cases hj : j = i
      · by_cases hk : k = i
        · omega
        · subst hj
          rw [gset_same] at e1
          rw [gset_other _ _ hk] at e2
          cases e1
          have := (h.lt k g e2).2
          omega
      · by_cases hk : k = i
        · subst hk
          rw [gset_same] at e2
          rw [gset_other _ _ hj] at e1
          cases e2
          have := (h.lt j g e1).2
          omega
        · rw [gset_other _ _ hj] at e1
          rw [gset_other _ _ hk] at e2
          exact h.one j k m e1 e2
  | set i g h0 h1 hg =>
    have hi := h.lt i g (by rw [h0]; rfl)
    refine ⟨h.below.grown hg h.below.size (fun k hk => by cases hk; exact hi.1), fun j k e => ?_, fun j k m e1 e2 => ?_⟩
    · rw [at_set h1] at e
      exact ⟨(h.lt j k e).1, Nat.lt_of_lt_of_le (h.lt j k e).2 hg.size⟩
    · rw [at_set h1] at e1 e2
      exact h.one j k m e1 e2
/-- What reads in blocks that are no boxes goes on being read. -/
theorem GE.rd {γ γ' : Nat → Gh} {w w' : World} {A : Option Addr} {n c size : Nat} {cs : List Value} (he : GE γ w γ' w') (h : Rd w A n c size cs) (hf : 0 < cs.length → ∀ ad, A = some ad → Free γ ad.block) :
    Rd w' A n c size cs ∧ (0 < cs.length → ∀ ad, A = some ad → Free γ' ad.block) := by
  cases he with
  | grow hb => exact ⟨h.below hb, hf⟩
  | box i g hb h0 h1 h2 =>
    refine ⟨h.below hb, fun h0' ad e j => ?_⟩
    by_cases hj : j = i
    · subst hj
      rw [gset_same]
      intro e2
      cases e2
      have := rd_lies h h0' ad e
      omega
    · rw [gset_other _ _ hj]
      exact hf h0' ad e j
  | set i g h0 h1 hg =>
    refine ⟨rd_apart h hg (fun h0' ad e e2 => hf h0' ad e i (by rw [h0, ← e2]; rfl)), fun h0' ad e j => ?_⟩
    rw [at_set h1]
    exact hf h0' ad e j
/-- A state that reads, none of whose lists lies in a box. -/
def StR (γ : Nat → Gh) (w : World) (q : Ad) (s : Ps) : Prop := RdP w q s ∧ Lies q s (Free γ)
theorem GE.st {γ γ' : Nat → Gh} {w w' : World} {q : Ad} {s : Ps} (he : GE γ w γ' w') (h : StR γ w q s) : StR γ' w' q s := by
  obtain ⟨h, hl⟩ := h
  cases he with
  | grow hb => exact ⟨h.below hb, hl⟩
  | box i g hb h0 h1 h2 =>
    refine ⟨h.below hb, ?_⟩
    have hlt := h.lies
    have key : ∀ b, Free γ b → b < w.heap.size → Free (gset γ i (.box g)) b := by
      intro b hf hb' j
      by_cases hj : j = i
      · subst hj
        rw [gset_same]
        intro e2
        cases e2
        omega
      · rw [gset_other _ _ hj]
        exact hf j
    exact ⟨fun a b c => key _ (hl.mem a b c) (hlt.mem a b c), fun a b c => key _ (hl.data a b c) (hlt.data a b c), fun a b c => key _ (hl.ret a b c) (hlt.ret a b c), fun a b c => key _ (hl.ctl a b c) (hlt.ctl a b c),
      fun a b c => key _ (hl.words a b c) (hlt.words a b c), fun a b c => key _ (hl.spots a b c) (hlt.spots a b c), fun a b c => key _ (hl.out a b c) (hlt.out a b c)⟩
  | set i g h0 h1 hg =>
    refine ⟨h.grown hl hg (fun hf => hf i (by rw [h0]; rfl)), hl.mono (fun b hf j => ?_)⟩
    rw [at_set h1]
    exact hf j
/-- What a call makes of a state lies in no box, if the state lies in none. -/
theorem StR.of_res {W : World} {γ : Nat → Gh} {w w' : World} {q q' : Ad} {s s' : Ps} (hj : GJ W γ w) (hl : Lies q s (Free γ)) (hr : Res w.heap.size q s w' q' s') : StR γ w' q' s' :=
  ⟨hr.rd, (hr.lies _ hl).mono (fun b hb => hb.elim id (fun h j e => by have := (hj.lt j b e).2; omega))⟩
theorem GJ.free_old {W : World} {γ : Nat → Gh} {w : World} (hj : GJ W γ w) {b : Nat} (hb : b < W.heap.size) : Free γ b := fun j e => by have := (hj.lt j b e).1; omega
theorem GJ.lies_old {W : World} {γ : Nat → Gh} {w : World} {q : Ad} {s : Ps} (hj : GJ W γ w) (h : RdP W q s) : Lies q s (Free γ) := h.lies.mono (fun _ hb => hj.free_old hb)
/-- A box that is made (and not yet filled, while the mark behind it is not there). -/
def BoxR (γ : Nat → Gh) (w : World) (i : Nat) (t : TypeId) (old : List Value) (v : Value) : Prop := ∃ g, v = .pointer (some ⟨g, 0, none⟩) ∧ γ i = .box g ∧ (γ (i + 1) = .no → Bx w g t old)
theorem GE.boxed {W : World} {γ γ' : Nat → Gh} {w w' : World} {i : Nat} {t : TypeId} {old : List Value} {v : Value} (hj : GJ W γ w) (he : GE γ w γ' w') (h : BoxR γ w i t old v) : BoxR γ' w' i t old v := by
  obtain ⟨g, hv, hi, h⟩ := h
  refine ⟨g, hv, ?_⟩
  cases he with
  | grow hb => exact ⟨hi, fun hn => (h hn).below hb⟩
  | box k g2 hb h0 h1 h2 =>
    have hk : i ≠ k := fun e => by subst e; rw [h0] at hi; cases hi
    refine ⟨by rw [gset_other _ _ hk]; exact hi, fun hn => ?_⟩
    by_cases hk2 : i + 1 = k
    · subst hk2
      rw [gset_same] at hn
      cases hn
    · rw [gset_other _ _ hk2] at hn
      exact (h hn).below hb
  | set k g2 h0 h1 hg =>
    have hk : i ≠ k + 1 := fun e => by subst e; rw [h1] at hi; cases hi
    refine ⟨by rw [gset_other _ _ hk]; exact hi, fun hn => ?_⟩
    by_cases hk2 : i = k
    · subst hk2
      rw [gset_same] at hn
      cases hn
    · rw [gset_other _ _ (by omega)] at hn
      exact (h hn).grown hg (fun e => hk2 (hj.one i k g (by rw [hi]; rfl) (by rw [h0, e]; rfl)))
/-- A box that holds these cells. -/
def SetR (γ : Nat → Gh) (w : World) (i : Nat) (t : TypeId) (cs : List Value) : Prop := ∃ g, γ i = .box g ∧ γ (i + 1) = .set ∧ Bx w g t cs
theorem GE.filled {W : World} {γ γ' : Nat → Gh} {w w' : World} {i : Nat} {t : TypeId} {cs : List Value} (hj : GJ W γ w) (he : GE γ w γ' w') (h : SetR γ w i t cs) : SetR γ' w' i t cs := by
  obtain ⟨g, hv, hs, h⟩ := h
  refine ⟨g, ?_⟩
  cases he with
  | grow hb => exact ⟨hv, hs, h.below hb⟩
  | box k g2 hb h0 h1 h2 =>
    have hk : i ≠ k := fun e => by subst e; rw [h0] at hv; cases hv
    have hk2 : i + 1 ≠ k := fun e => by subst e; rw [h0] at hs; cases hs
    exact ⟨by rw [gset_other _ _ hk]; exact hv, by rw [gset_other _ _ hk2]; exact hs, h.below hb⟩
  | set k g2 h0 h1 hg =>
    have hk : i ≠ k := fun e => by subst e; rw [h1] at hs; cases hs
    have hk2 : i ≠ k + 1 := fun e => by subst e; rw [h1] at hv; cases hv
    exact ⟨by rw [gset_other _ _ hk2]; exact hv, by rw [gset_other _ _ (by omega)]; exact hs, h.grown hg (fun e => hk (hj.one i k g (by rw [hv]; rfl) (by rw [h0, e]; rfl)))⟩

section
variable {P : Program} {o : Oper} {a : Act} {w : World} {K : Act → World → Prop} {Q : Exit → Act → World → Prop}
theorem rg_extract (x : Operand) (k : Nat) (ho : o.op = .extract x k) (vs : Array Value) (hx : a.eval x = .tuple vs) (v : Value) (hv : vs[k]? = some v) (h : K (a.put o.dst v) w) : o.wp P a w K Q := by
  unfold Oper.wp execOp
  rw [ho]
  simp only [hx, Instr.extract, hv]
  exact h
theorem rg_move (x : Operand) (ho : o.op = .move x) (v : Value) (hx : a.eval x = v) (h : K (a.put o.dst v) w) : o.wp P a w K Q := by
  unfold Oper.wp execOp
  rw [ho]
  subst hx
  exact h
theorem rg_assign (x : Operand) (ho : o.op = .assign x) (v : Value) (hx : a.eval x = v) (h : K (a.put o.dst v) w) : o.wp P a w K Q := by
  unfold Oper.wp execOp
  rw [ho]
  subst hx
  exact h
theorem rg_load (ty : TypeId) (x : Operand) (ho : o.op = .load ty x)
    (g : Nat) (hx : a.eval x = .pointer (some ⟨g, 0, none⟩)) (t : TypeId) (cs : List Value) (d : TypeDesc) (hg : Bx w g t cs)
    (hu : P.underlying ty = some d) (hd : (match d with | .struct _ | .array _ _ => true | _ => false) = true) (m : Nat) (hi : (P.info? ty).map (·.size) = some m) (hm : cs.length = m)
    (h : K (a.put o.dst (.agg cs.toArray)) w) : o.wp P a w K Q :=
  wp_load_row ty x ho g hx t cs.toArray (0, 0) d hg hu hd (by rw [hi, List.size_toArray, hm]) h
theorem rg_store (ty : TypeId) (x y : Operand) (ho : o.op = .store ty x y)
    (g : Nat) (cells : List Value) (hx : a.eval x = .pointer (some ⟨g, 0, none⟩)) (hy : a.eval y = .agg cells.toArray)
    (t : TypeId) (old : List Value) (hg : Bx w g t old) (m : Nat) (hi : (P.info? ty).map (·.size) = some m) (hm : cells.length = m)
    (hold : old.length = m) (h1 : cells.all (·.oneCell') = true)
    (h : ∀ w', Bx w' g t cells → w.grownBy w' (some g) → K (a.put o.dst undef) w') : o.wp P a w K Q :=
  wp_store_row ty x y ho g cells.toArray hx hy t old.toArray hg (by rw [hi, List.size_toArray, hm]) (by simp; omega) (by simpa using h1) (h _ (setRow_heap w g _ _ t _ hg) (grown_setRow w g _))
theorem rg_alloc (ty : TypeId) (ho : o.op = .alloc ty) (cs : List Value) (z : Value) (hz : (P.info? ty).bind (·.zero) = some z) (hc : z.cells = cs.toArray) (h : ∀ w' g, Bx w' g ty cs → Below w.heap.size w w' → w.heap.size ≤ g → g < w'.heap.size → K (a.put o.dst (.pointer (some ⟨g, 0, none⟩))) w') : o.wp P a w K Q := by
  have hw := h (w.alloc (.cells cs.toArray ty)) w.heap.size (Bx.new w ty cs cs.toArray _ rfl rfl) (below_lit w _) (Nat.le_refl _) (by simp)
  obtain ⟨i, hi, hz⟩ := Option.bind_eq_some_iff.1 hz
  have hrun : (Instr.alloc ty true (.tuple #[])).run P w = .ok (.pointer (some ⟨w.heap.size, 0, none⟩)) (w.alloc (.cells cs.toArray ty)) := by
    rw [← hc]
    simp [go_sem, zeroValue, typeInfo, hi, hz]
  unfold Oper.wp execOp
  rw [ho]
  simp only [Sem.run_bind, hrun, Sem.run_pure, Result.andThen_ok]
  exact hw
theorem rg_call (f : FuncId) (args : Array Operand) (ts : Array TypeId) (ho : o.op = .call { callee := .value (.func f), args := args, argTypes := ts }) (vs : Array Value) (hv : args.map a.eval = vs) (hcf : (callFunc f vs).run P w = .ok (.enter f vs) w) (R : Ending → World → Prop) (hc : Calls P f vs w R)
    (h : ∀ e w', R e w' → ∃ v, e = .returned v ∧ K (a.put o.dst v) w') : o.wp P a w K Q := by
  have hrun : (execOp a.eval o).run P w = .ok (.enter f vs) w := by
    unfold execOp
    rw [ho]
    simp [resolve, hv, Act.eval, Deferred.ofValue, invoke, hcf]
  unfold Oper.wp
  rw [hrun]
  show Calls P f vs w _
  refine Calls.mono hc fun e w' he => ?_
  obtain ⟨v, rfl, hk⟩ := h e w' he
  exact hk
theorem rg_run (v : Value) (hrun : (execOp a.eval o).run P w = .ok (.value v) w) (h : K (a.put o.dst v) w) : o.wp P a w K Q := by
  unfold Oper.wp
  rw [hrun]
  exact h
theorem rg_runw (v : Value) (w' : World) (hrun : (execOp a.eval o).run P w = .ok (.value v) w') (h : K (a.put o.dst v) w') : o.wp P a w K Q := by
  unfold Oper.wp
  rw [hrun]
  exact h
end

/-- What an operation leaves. -/
abbrev Fact := (Nat → Gh) → Value → World → Prop
def Stable (W : World) (F : Fact) : Prop := ∀ γ v w γ' w', GJ W γ w → F γ v w → GE γ w γ' w' → F γ' v w'
def fAny : Fact := fun _ _ _ => True
/-- A value. -/
def fVal (x : Value) : Fact := fun _ v _ => v = x
/-- A row that is made. -/
def fRow (n : Nat) (k : IntKind) (l : List Int) : Fact := fun γ v w => ∃ m, v = .slice (some ⟨m, 0, none⟩) n n ∧ RdI w k (some ⟨m, 0, none⟩) n l ∧ Free γ m
/-- A state. -/
def fSt (s : Ps) : Fact := fun γ v w => ∃ q, v = stV q s ∧ StR γ w q s
/-- A state among results. -/
def fTup (s : Ps) (r : List Value) : Fact := fun γ v w => ∃ q, v = .tuple (stV q s :: r).toArray ∧ StR γ w q s
/-- A box, and a box that is filled. -/
def fBox (i : Nat) (t : TypeId) (old : List Value) : Fact := fun γ v w => BoxR γ w i t old v
def fSet (i : Nat) (t : TypeId) (s : Ps) : Fact := fun γ _ w => ∃ q, StR γ w q s ∧ SetR γ w i t (stL q s)
theorem stable_any (W : World) : Stable W fAny := fun _ _ _ _ _ _ _ _ => trivial
theorem stable_val (W : World) (x : Value) : Stable W (fVal x) := fun _ _ _ _ _ _ h _ => h
theorem stable_row (W : World) (n : Nat) (k : IntKind) (l : List Int) (hl : 0 < l.length) : Stable W (fRow n k l) := by
  rintro γ v w γ' w' hj ⟨m, hv, hr, hf⟩ he
  have h := he.rd hr (fun _ ad e => by cases e; exact hf)
  exact ⟨m, hv, h.1, h.2 (by simpa [nums] using hl) _ rfl⟩
theorem stable_st (W : World) (s : Ps) : Stable W (fSt s) := by
  rintro γ v w γ' w' hj ⟨q, hv, h⟩ he
  exact ⟨q, hv, he.st h⟩
theorem stable_tup (W : World) (s : Ps) (r : List Value) : Stable W (fTup s r) := by
  rintro γ v w γ' w' hj ⟨q, hv, h⟩ he
  exact ⟨q, hv, he.st h⟩
theorem stable_box (W : World) (i : Nat) (t : TypeId) (old : List Value) : Stable W (fBox i t old) := fun _ _ _ _ _ hj h he => he.boxed hj h
theorem stable_set (W : World) (i : Nat) (t : TypeId) (s : Ps) : Stable W (fSet i t s) := by
  rintro γ v w γ' w' hj ⟨q, h, hs⟩ he
  exact ⟨q, he.st h, he.filled hj hs⟩
inductive AllStable (W : World) : List Fact → Prop where
  | nil : AllStable W []
  | cons {F : Fact} {l : List Fact} (h : Stable W F) (r : AllStable W l) : AllStable W (F :: l)
theorem AllStable.getD {W : World} : ∀ {l : List Fact}, AllStable W l → ∀ i, Stable W (l.getD i fAny)
  | _, .nil, _ => by simpa using stable_any W
  | _, .cons h _, 0 => by simpa using h
  | _, .cons _ r, i + 1 => by simpa using AllStable.getD r i
def Hops (C : Nat → Oper → Prop) : Nat → List Oper → Prop
  | _, [] => True
  | i, o :: r => C i o ∧ Hops C (i + 1) r
theorem hops_at {C : Nat → Oper → Prop} : ∀ (l : List Oper) (k : Nat), Hops C k l → ∀ i o, l[i]? = some o → C (k + i) o
  | [], _, _, _, _, h => by simp at h
  | x :: r, k, h, 0, o, ho => by
    simp at ho
    subst ho
    exact h.1
  | x :: r, k, h, i + 1, o, ho => by
    have := hops_at r (k + 1) h.2 i o (by simpa using ho)
    rwa [show k + 1 + i = k + (i + 1) by omega] at this

/-- What an operation did: the world went on, its fact holds. -/
def Went (n : Nat) (key : Nat → Nat) (γ : Nat → Gh) (w w' : World) (i : Nat) (v : Value) (F : Fact) : Prop := ∃ γ', GE γ w γ' w' ∧ (∀ j, j ≠ i → (j < n → γ (key j) = .no) → (j < n → γ' (key j) = .no)) ∧ F γ' v w'
def keysB (n : Nat) (key : Nat → Nat) : Bool := (List.range n).all fun i => (List.range n).all fun j => decide (i = j) || decide (key i ≠ key j)
theorem keys_apart {n : Nat} {key : Nat → Nat} (h : keysB n key = true) {i j : Nat} (hi : i < n) (hj : j < n) (hne : j ≠ i) : key j ≠ key i := by
  have h1 := List.all_eq_true.1 (List.all_eq_true.1 h j (List.mem_range.2 hj)) i (List.mem_range.2 hi)
  simp only [Bool.or_eq_true, decide_eq_true_eq] at h1
  exact h1.resolve_left hne
section
variable {n : Nat} {key : Nat → Nat} {γ : Nat → Gh} {w w' : World} {i : Nat} {v : Value} {F : Fact}
theorem Went.quiet (h : F γ v w) : Went n key γ w w i v F := ⟨γ, .grow (Below.refl _ _), fun _ _ h => h, h⟩
theorem Went.grow (hb : Below w.heap.size w w') (h : F γ v w') : Went n key γ w w' i v F := ⟨γ, .grow hb, fun _ _ h => h, h⟩
theorem Went.box {g : Nat} {t : TypeId} {old : List Value} (hk : keysB n key = true) (hi : i < n) (h0 : γ (key i) = .no) (hb : Below w.heap.size w w') (h1 : w.heap.size ≤ g) (h2 : g < w'.heap.size) (hx : Bx w' g t old) : Went n key γ w w' i (.pointer (some ⟨g, 0, none⟩)) (fBox (key i) t old) :=
  ⟨gset γ (key i) (.box g), .box _ g hb h0 h1 h2, fun j hj h hjn => by rw [gset_other _ _ (keys_apart hk hi hjn hj)]; exact h hjn, g, rfl, gset_same _ _ _, fun _ => hx⟩
theorem Went.set {k g : Nat} (hk : keysB n key = true) (hi : i < n) (he : key i = k + 1) (h0 : γ k = .box g) (h1 : γ (k + 1) = .no) (hg : w.grownBy w' (some g)) (h : F (gset γ (k + 1) .set) v w') : Went n key γ w w' i v F :=
  ⟨gset γ (k + 1) .set, .set k g h0 h1 hg, fun j hj h hjn => by
    rw [gset_other _ _ (by rw [← he]; exact keys_apart hk hi hjn hj)]
    exact h hjn, h⟩
end

def putD (V : Nat → Value) : Nat → List (Option Tmp) → Act → Act
  | _, [], a => a
  | i, d :: r, a => putD V (i + 1) r (a.put d (V i))
theorem putAll_eq (l : List Oper) (V : Nat → Value) : ∀ (r : List Oper) (k : Nat) (a : Act), (∀ i, l[k + i]? = r[i]?) → putAll l.toArray V (List.range' k r.length) a = putD V k (r.map (·.dst)) a
  | [], _, _, _ => rfl
  | o :: r, k, a, h => by
    have h0 := h 0
    simp at h0
    rw [List.length_cons, List.range'_succ, putAll, List.map_cons, putD, ← putAll_eq l V r (k + 1) _ (fun i => by have := h (i + 1); rw [show k + 1 + i = k + (i + 1) by omega, this]; simp)]
    simp [dstOf, h0]

/-- A region that draws its order: by its facts. -/
theorem wp_region_facts {P : Program} {l : List Oper} {Q : Exit → Act → World → Prop} {a0 : Act} {id : Nat} {W : World} (fs : List Fact) (deps : Nat → List Nat) (key : Nat → Nat) (ds : List (Option Tmp)) (hds : l.map (·.dst) = ds)
    (hm : P.follows .mixedOrders = true) (hpl : plainB l.toArray a0.tmps.size = true) (hdp : waitsB l.toArray deps = true) (hst : AllStable W fs)
    (hop : Hops (fun i o => ∀ a γ w, GJ W γ w → γ (key i) = .no → (∀ j ∈ deps i, ∃ v, (∀ k, dstOf l.toArray j = some k → a.eval (.tmp k) = v) ∧ (fs.getD j fAny) γ v w) →
      (∀ k, (∀ j, j < l.length → dstOf l.toArray j ≠ some k) → a.eval (.tmp k) = a0.eval (.tmp k)) →
      o.wp P a w (fun a' w' => ∃ v, a' = a.put o.dst v ∧ Went l.length key γ w w' i v (fs.getD i fAny)) Q) 0 l)
    (hfin : ∀ V γ w, GJ W γ w → (∀ i, i < l.length → (fs.getD i fAny) γ (V i) w) → Q .normal (putD V 0 ds a0) w) :
    (Code.region id l.toArray true).wp P Q a0 W :=
  wp_region_specs (R := fun i => fs.getD i fAny) (J := GJ W) (E := GE) (U := fun i γ => i < l.length → γ (key i) = .no) (deps := deps) hm hpl hdp (fun _ => .no) (fun _ _ => rfl) (GJ.start W) (fun _ _ _ _ h e => h.step e)
    (fun i γ v w γ' w' _ hj h he => hst.getD i γ v w γ' w' hj h he)
    (fun i o ho a γ w hj hu hd hf => by
      have hlt := (Array.getElem?_eq_some_iff.1 ho).1
      have h := hops_at l 0 hop i o (by simpa using ho)
      rw [Nat.zero_add] at h
      refine Oper.wp_mono ?_ (h a γ w hj (hu (by simpa using hlt)) hd (fun k hk => hf k (fun j hj' => hk j (by simpa using hj'))))
      rintro a' w' ⟨v, e, γ', he, hu', hF⟩
      exact ⟨v, γ', e, he, hu', hF⟩)
    (fun V γ w hj h => by
      have := hfin V γ w hj (fun i hi => h i (by simpa using hi))
      rw [← hds, ← putAll_eq l V l 0 a0 (fun i => by rw [Nat.zero_add])] at this
      rw [List.size_toArray, List.range_eq_range']
      exact this)
end Go.Proofs.YtappfhjknihboaaGreatDoor

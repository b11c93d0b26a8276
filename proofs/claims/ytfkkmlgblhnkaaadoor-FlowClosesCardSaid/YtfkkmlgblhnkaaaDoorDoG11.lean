
/- flow.Do: all its words. -/
import Derived.Test.YtfkkmlgblhnkaaaDoorDoF11
namespace Go.Proofs.YtfkkmlgblhnkaaaDoor
open Go.RowKit

theorem Do_98 (q : Ad) (s : Ps) (w : World) (hp : RdP w q s) (hz : Sz s 100000) (_hwl : s.words.length ≤ 1000000) (ht : Tab w) :
    Calls Tryd.prog 10 #[stV q s, .int .i64 98] w fun r w' => ∃ q', r = .returned (.tuple #[stV q' (resF (forwardW (s, 0) 4 1)).1, .int .i64 (resF (forwardW (s, 0) 4 1)).2.1, .bool true]) ∧ Res w.heap.size q s w' q' (resF (forwardW (s, 0) 4 1)).1 ∧ Below w.heap.size w w' := by
  obtain ⟨s', e', hx⟩ : ∃ a b, forwardW (s, 0) 4 1 = (a, b) := ⟨_, _, rfl⟩
  rw [hx]
  exact Do_core 98 ⟨#[73, 70]⟩ 0 44 #[] q s s' e' w hp ht (by decide +kernel) (by kernel_rfl) (enters_of Tryd.func44 (by kernel_rfl) rfl) (fun W g hT hg hw => If_any g q s 0 s' e' W hx hw hz)
theorem Do_101 (q : Ad) (s : Ps) (w : World) (hp : RdP w q s) (hz : Sz s 100000) (_hwl : s.words.length ≤ 1000000) (ht : Tab w) :
    Calls Tryd.prog 10 #[stV q s, .int .i64 101] w fun r w' => ∃ q', r = .returned (.tuple #[stV q' (resF (beginW (s, 0))).1, .int .i64 (resF (beginW (s, 0))).2.1, .bool true]) ∧ Res w.heap.size q s w' q' (resF (beginW (s, 0))).1 ∧ Below w.heap.size w w' := by
  obtain ⟨s', e', hx⟩ : ∃ a b, beginW (s, 0) = (a, b) := ⟨_, _, rfl⟩
  rw [hx]
  exact Do_core 101 ⟨#[66, 69, 71, 73, 78]⟩ 1 46 #[] q s s' e' w hp ht (by decide +kernel) (by kernel_rfl) (enters_of Tryd.func46 (by kernel_rfl) rfl) (fun W g hT hg hw => Begin_any g q s 0 s' e' W hx hw hz)
theorem Do_106 (q : Ad) (s : Ps) (w : World) (hp : RdP w q s) (hz : Sz s 100000) (_hwl : s.words.length ≤ 1000000) (ht : Tab w) :
    Calls Tryd.prog 10 #[stV q s, .int .i64 106] w fun r w' => ∃ q', r = .returned (.tuple #[stV q' (resF (forwardW (s, 0) 5 3)).1, .int .i64 (resF (forwardW (s, 0) 5 3)).2.1, .bool true]) ∧ Res w.heap.size q s w' q' (resF (forwardW (s, 0) 5 3)).1 ∧ Below w.heap.size w w' := by
  obtain ⟨s', e', hx⟩ : ∃ a b, forwardW (s, 0) 5 3 = (a, b) := ⟨_, _, rfl⟩
  rw [hx]
  exact Do_core 106 ⟨#[68, 79]⟩ 2 48 #[] q s s' e' w hp ht (by decide +kernel) (by kernel_rfl) (enters_of Tryd.func48 (by kernel_rfl) rfl) (fun W g hT hg hw => Do5_any g q s 0 s' e' W hx hw hz)
theorem Do_102 (q : Ad) (s : Ps) (w : World) (hp : RdP w q s) (hz : Sz s 100000) (_hwl : s.words.length ≤ 1000000) (ht : Tab w) :
    Calls Tryd.prog 10 #[stV q s, .int .i64 102] w fun r w' => ∃ q', r = .returned (.tuple #[stV q' (resF (backW (s, 0) 3)).1, .int .i64 (resF (backW (s, 0) 3)).2.1, .bool true]) ∧ Res w.heap.size q s w' q' (resF (backW (s, 0) 3)).1 ∧ Below w.heap.size w w' := by
  obtain ⟨s', e', hx⟩ : ∃ a b, backW (s, 0) 3 = (a, b) := ⟨_, _, rfl⟩
  rw [hx]
  exact Do_core 102 ⟨#[65, 71, 65, 73, 78]⟩ 3 38 #[.pointer (some ⟨w.heap.size + 2 + 1, 0, none⟩)] q s s' e' w hp ht (by decide +kernel) (by kernel_rfl) (enters_of Tryd.func38 (by kernel_rfl) rfl) (fun W g hT hg hw => Back_any g 3 (w.heap.size + 2 + 1) q s 0 s' e' W (by omega) hT.c1 hx hw hz)
theorem Do_103 (q : Ad) (s : Ps) (w : World) (hp : RdP w q s) (hz : Sz s 100000) (_hwl : s.words.length ≤ 1000000) (ht : Tab w) :
    Calls Tryd.prog 10 #[stV q s, .int .i64 103] w fun r w' => ∃ q', r = .returned (.tuple #[stV q' (resF (backW (s, 0) 4)).1, .int .i64 (resF (backW (s, 0) 4)).2.1, .bool true]) ∧ Res w.heap.size q s w' q' (resF (backW (s, 0) 4)).1 ∧ Below w.heap.size w w' := by
  obtain ⟨s', e', hx⟩ : ∃ a b, backW (s, 0) 4 = (a, b) := ⟨_, _, rfl⟩
  rw [hx]
  exact Do_core 103 ⟨#[85, 78, 84, 73, 76]⟩ 4 38 #[.pointer (some ⟨w.heap.size + 2 + 2, 0, none⟩)] q s s' e' w hp ht (by decide +kernel) (by kernel_rfl) (enters_of Tryd.func38 (by kernel_rfl) rfl) (fun W g hT hg hw => Back_any g 4 (w.heap.size + 2 + 2) q s 0 s' e' W (by omega) hT.c2 hx hw hz)
theorem Do_107 (q : Ad) (s : Ps) (w : World) (hp : RdP w q s) (hz : Sz s 100000) (_hwl : s.words.length ≤ 1000000) (ht : Tab w) :
    Calls Tryd.prog 10 #[stV q s, .int .i64 107] w fun r w' => ∃ q', r = .returned (.tuple #[stV q' (resF (shutW (s, 0) 6)).1, .int .i64 (resF (shutW (s, 0) 6)).2.1, .bool true]) ∧ Res w.heap.size q s w' q' (resF (shutW (s, 0) 6)).1 ∧ Below w.heap.size w w' := by
  obtain ⟨s', e', hx⟩ : ∃ a b, shutW (s, 0) 6 = (a, b) := ⟨_, _, rfl⟩
  rw [hx]
  exact Do_core 107 ⟨#[76, 79, 79, 80]⟩ 5 42 #[.pointer (some ⟨w.heap.size + 2 + 3, 0, none⟩)] q s s' e' w hp ht (by decide +kernel) (by kernel_rfl) (enters_of Tryd.func42 (by kernel_rfl) rfl) (fun W g hT hg hw => Shut_any g 6 (w.heap.size + 2 + 3) q s 0 s' e' W (by omega) hT.c3 hx hw hz)
theorem Do_108 (q : Ad) (s : Ps) (w : World) (hp : RdP w q s) (hz : Sz s 100000) (_hwl : s.words.length ≤ 1000000) (ht : Tab w) :
    Calls Tryd.prog 10 #[stV q s, .int .i64 108] w fun r w' => ∃ q', r = .returned (.tuple #[stV q' (resF (shutW (s, 0) 7)).1, .int .i64 (resF (shutW (s, 0) 7)).2.1, .bool true]) ∧ Res w.heap.size q s w' q' (resF (shutW (s, 0) 7)).1 ∧ Below w.heap.size w w' := by
  obtain ⟨s', e', hx⟩ : ∃ a b, shutW (s, 0) 7 = (a, b) := ⟨_, _, rfl⟩
  rw [hx]
  exact Do_core 108 ⟨#[43, 76, 79, 79, 80]⟩ 6 42 #[.pointer (some ⟨w.heap.size + 2 + 4, 0, none⟩)] q s s' e' w hp ht (by decide +kernel) (by kernel_rfl) (enters_of Tryd.func42 (by kernel_rfl) rfl) (fun W g hT hg hw => Shut_any g 7 (w.heap.size + 2 + 4) q s 0 s' e' W (by omega) hT.c4 hx hw hz)
theorem Do_100 (q : Ad) (s : Ps) (w : World) (hp : RdP w q s) (hz : Sz s 100000) (_hwl : s.words.length ≤ 1000000) (ht : Tab w) :
    Calls Tryd.prog 10 #[stV q s, .int .i64 100] w fun r w' => ∃ q', r = .returned (.tuple #[stV q' (resF (thenW (s, 0))).1, .int .i64 (resF (thenW (s, 0))).2.1, .bool true]) ∧ Res w.heap.size q s w' q' (resF (thenW (s, 0))).1 ∧ Below w.heap.size w w' := by
  obtain ⟨s', e', hx⟩ : ∃ a b, thenW (s, 0) = (a, b) := ⟨_, _, rfl⟩
  rw [hx]
  exact Do_core 100 ⟨#[84, 72, 69, 78]⟩ 7 49 #[] q s s' e' w hp ht (by decide +kernel) (by kernel_rfl) (enters_of Tryd.func49 (by kernel_rfl) rfl) (fun W g hT hg hw => Then_any g q s 0 s' e' W hx hw hz)
theorem Do_99 (q : Ad) (s : Ps) (w : World) (hp : RdP w q s) (hz : Sz s 100000) (_hwl : s.words.length ≤ 1000000) (ht : Tab w) :
    Calls Tryd.prog 10 #[stV q s, .int .i64 99] w fun r w' => ∃ q', r = .returned (.tuple #[stV q' (resF (elseW (s, 0))).1, .int .i64 (resF (elseW (s, 0))).2.1, .bool true]) ∧ Res w.heap.size q s w' q' (resF (elseW (s, 0))).1 ∧ Below w.heap.size w w' := by
  obtain ⟨s', e', hx⟩ : ∃ a b, elseW (s, 0) = (a, b) := ⟨_, _, rfl⟩
  rw [hx]
  exact Do_core 99 ⟨#[69, 76, 83, 69]⟩ 8 50 #[] q s s' e' w hp ht (by decide +kernel) (by kernel_rfl) (enters_of Tryd.func50 (by kernel_rfl) rfl) (fun W g hT hg hw => Else_any g q s 0 s' e' W hx hw hz)
theorem Do_104 (q : Ad) (s : Ps) (w : World) (hp : RdP w q s) (hz : Sz s 100000) (_hwl : s.words.length ≤ 1000000) (ht : Tab w) :
    Calls Tryd.prog 10 #[stV q s, .int .i64 104] w fun r w' => ∃ q', r = .returned (.tuple #[stV q' (resF (whileW (s, 0))).1, .int .i64 (resF (whileW (s, 0))).2.1, .bool true]) ∧ Res w.heap.size q s w' q' (resF (whileW (s, 0))).1 ∧ Below w.heap.size w w' := by
  obtain ⟨s', e', hx⟩ : ∃ a b, whileW (s, 0) = (a, b) := ⟨_, _, rfl⟩
  rw [hx]
  exact Do_core 104 ⟨#[87, 72, 73, 76, 69]⟩ 9 53 #[] q s s' e' w hp ht (by decide +kernel) (by kernel_rfl) (enters_of Tryd.func53 (by kernel_rfl) rfl) (fun W g hT hg hw => While_any g q s 0 s' e' W hx hw hz)
theorem Do_105 (q : Ad) (s : Ps) (w : World) (hp : RdP w q s) (hz : Sz s 100000) (_hwl : s.words.length ≤ 1000000) (ht : Tab w) :
    Calls Tryd.prog 10 #[stV q s, .int .i64 105] w fun r w' => ∃ q', r = .returned (.tuple #[stV q' (resF (repeatW (s, 0))).1, .int .i64 (resF (repeatW (s, 0))).2.1, .bool true]) ∧ Res w.heap.size q s w' q' (resF (repeatW (s, 0))).1 ∧ Below w.heap.size w w' := by
  obtain ⟨s', e', hx⟩ : ∃ a b, repeatW (s, 0) = (a, b) := ⟨_, _, rfl⟩
  rw [hx]
  exact Do_core 105 ⟨#[82, 69, 80, 69, 65, 84]⟩ 10 54 #[] q s s' e' w hp ht (by decide +kernel) (by kernel_rfl) (enters_of Tryd.func54 (by kernel_rfl) rfl) (fun W g hT hg hw => Repeat_any g q s 0 s' e' W hx hw hz)
theorem Do_109 (q : Ad) (s : Ps) (w : World) (hp : RdP w q s) (hz : Sz s 100000) (hwl : s.words.length ≤ 1000000) (ht : Tab w) :
    Calls Tryd.prog 10 #[stV q s, .int .i64 109] w fun r w' => ∃ q', r = .returned (.tuple #[stV q' (resF (recurseW (s, 0))).1, .int .i64 (resF (recurseW (s, 0))).2.1, .bool true]) ∧ Res w.heap.size q s w' q' (resF (recurseW (s, 0))).1 ∧ Below w.heap.size w w' := by
  obtain ⟨s', e', hx⟩ : ∃ a b, recurseW (s, 0) = (a, b) := ⟨_, _, rfl⟩
  rw [hx]
  exact Do_core 109 ⟨#[82, 69, 67, 85, 82, 83, 69]⟩ 11 56 #[] q s s' e' w hp ht (by decide +kernel) (by kernel_rfl) (enters_of Tryd.func56 (by kernel_rfl) rfl) (fun W g hT hg hw => Recurse_any g q s 0 s' e' W hx hw rfl hz hwl)

theorem res_true (x : Ps × Int) : (resF x).2.2 = true := by
  unfold resF
  split <;> rfl
set_option maxRecDepth 100000 in
/-- What Do makes of any state, by any word. -/
theorem DoF_any (op : Int) (q : Ad) (s : Ps) (s' : Ps) (e' : Int) (b : Bool) (w : World) (hr : doF s op = (s', e', b)) (hp : RdP w q s) (hz : Sz s 100000) (hwl : s.words.length ≤ 1000000) (ht : Tab w) :
    Calls Tryd.prog 10 #[stV q s, .int .i64 op] w fun r w' => ∃ q', r = .returned (.tuple #[stV q' s', .int .i64 e', .bool b]) ∧ Res w.heap.size q s w' q' s' ∧ Below w.heap.size w w' := by
  have key : ∀ x : Ps × Int, (Calls Tryd.prog 10 #[stV q s, .int .i64 op] w fun r w' => ∃ q', r = .returned (.tuple #[stV q' (resF x).1, .int .i64 (resF x).2.1, .bool true]) ∧ Res w.heap.size q s w' q' (resF x).1 ∧ Below w.heap.size w w') → resF x = (s', e', b) → Calls Tryd.prog 10 #[stV q s, .int .i64 op] w fun r w' => ∃ q', r = .returned (.tuple #[stV q' s', .int .i64 e', .bool b]) ∧ Res w.heap.size q s w' q' s' ∧ Below w.heap.size w w' := fun x h e => by
    have hb := res_true x
    rw [e] at h hb
    simp only at h hb
    rw [hb]
    exact h
  unfold doF at hr
  by_cases h98 : op = 98
  · subst h98
    simp only [Int.reduceEq, if_true, if_false] at hr
    exact key _ (Do_98 q s w hp hz hwl ht) hr
  rw [if_neg h98] at hr
  by_cases h99 : op = 99
  · subst h99
    simp only [Int.reduceEq, if_true, if_false] at hr
    exact key _ (Do_99 q s w hp hz hwl ht) hr
  rw [if_neg h99] at hr
  by_cases h100 : op = 100
  · subst h100
    simp only [Int.reduceEq, if_true, if_false] at hr
    exact key _ (Do_100 q s w hp hz hwl ht) hr
  rw [if_neg h100] at hr
  by_cases h101 : op = 101
  · subst h101
    simp only [Int.reduceEq, if_true, if_false] at hr
    exact key _ (Do_101 q s w hp hz hwl ht) hr
  rw [if_neg h101] at hr
  by_cases h102 : op = 102
  · subst h102
    simp only [Int.reduceEq, if_true, if_false] at hr
    exact key _ (Do_102 q s w hp hz hwl ht) hr
  rw [if_neg h102] at hr
  by_cases h103 : op = 103
  · subst h103
    simp only [Int.reduceEq, if_true, if_false] at hr
    exact key _ (Do_103 q s w hp hz hwl ht) hr
  rw [if_neg h103] at hr
  by_cases h104 : op = 104
  · subst h104
    simp only [Int.reduceEq, if_true, if_false] at hr
    exact key _ (Do_104 q s w hp hz hwl ht) hr
  rw [if_neg h104] at hr
  by_cases h105 : op = 105
  · subst h105
    simp only [Int.reduceEq, if_true, if_false] at hr
    exact key _ (Do_105 q s w hp hz hwl ht) hr
  rw [if_neg h105] at hr
  by_cases h106 : op = 106
  · subst h106
    simp only [Int.reduceEq, if_true, if_false] at hr
    exact key _ (Do_106 q s w hp hz hwl ht) hr
  rw [if_neg h106] at hr
  by_cases h107 : op = 107
  · subst h107
    simp only [Int.reduceEq, if_true, if_false] at hr
    exact key _ (Do_107 q s w hp hz hwl ht) hr
  rw [if_neg h107] at hr
  by_cases h108 : op = 108
  · subst h108
    simp only [Int.reduceEq, if_true, if_false] at hr
    exact key _ (Do_108 q s w hp hz hwl ht) hr
  rw [if_neg h108] at hr
  by_cases h109 : op = 109
  · subst h109
    simp only [if_true] at hr
    exact key _ (Do_109 q s w hp hz hwl ht) hr
  rw [if_neg h109] at hr
  injection hr with h1 h2
  injection h2 with h2 h3
  subst h1 h2 h3
  refine (Do_none op q s w (by omega) ht).mono ?_
  rintro r w' ⟨rfl, hb⟩
  exact ⟨nilA, rfl, Res.zero _ _ _ _, hb⟩
end Go.Proofs.YtfkkmlgblhnkaaaDoor

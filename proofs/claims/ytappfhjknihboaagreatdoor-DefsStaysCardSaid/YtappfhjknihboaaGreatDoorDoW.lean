
/- defs.Do: all its words. -/
import Derived.Test.YtappfhjknihboaaGreatDoorMN
import Derived.Test.YtappfhjknihboaaGreatDoorML
import Derived.Test.YtappfhjknihboaaGreatDoorQuoteL
namespace Go.Proofs.YtappfhjknihboaaGreatDoor
open Go.RowKit

def doD (x : Sx) (s : Ps) (op : Int) : Ps × Int × Bool :=
  if op = 110 then resF (colonD x (s, 0)) else
  if op = 111 then resF (endD (s, 0)) else
  if op = 112 then resF (immD (s, 0)) else
  if op = 113 then resF (constD x (s, 0)) else
  if op = 114 then resF (varD x (s, 0)) else
  if op = 115 then resF (creaD x (s, 0)) else
  if op = 116 then resF (doesD (s, 0)) else
  if op = 117 then resF (markD x (s, 0)) else
  if op = 118 then resF (tickD x (s, 0)) else
  if op = 119 then resF (btickD x (s, 0)) else
  if op = 120 then resF (litD (s, 0)) else
  if op = 121 then resF (postD x (s, 0)) else
  if op = 122 then resF (compD false (s, 0)) else
  if op = 123 then resF (compD true (s, 0)) else
  if op = 125 then resF (charGD x (s, 0)) else
  if op = 126 then resF (bcharD x (s, 0)) else
  if op = 127 then resF (parD x (s, 0)) else
  if op = 128 then resF (lineD x (s, 0)) else
  if op = 129 then resF (quoteD x (s, 0)) else
  (zeroP, 0, false)
theorem DoD_110 (q : Ad) (s : Ps) (x : Sx) (w : World) (hp : RdP w q s) (hsz : x.src.size ≤ 200) (hz : SzD s) (ht : Tab w) :
    Calls Tryz.prog 10 #[stV q s, suV x, .int .i64 110] w fun r w' => ∃ q', r = .returned (.tuple #[stV q' (resF (colonD x (s, 0))).1, .int .i64 (resF (colonD x (s, 0))).2.1, .bool true]) ∧ Res w.heap.size q s w' q' (resF (colonD x (s, 0))).1 ∧ Below w.heap.size w w' := by
  obtain ⟨s', e', hx⟩ : ∃ a b, colonD x (s, 0) = (a, b) := ⟨_, _, rfl⟩
  rw [hx]
  exact DoM_core 110 ⟨#[58]⟩ 0 43 q s x s' e' w hp ht (by decide +kernel) (by kernel_rfl) (enters_of Tryz.func43 (by kernel_rfl) rfl) (fun W g hT hw => M1_go g q s x s' e' W hx hw hsz hz)
theorem DoD_111 (q : Ad) (s : Ps) (x : Sx) (w : World) (hp : RdP w q s) (_hsz : x.src.size ≤ 200) (hz : SzD s) (ht : Tab w) :
    Calls Tryz.prog 10 #[stV q s, suV x, .int .i64 111] w fun r w' => ∃ q', r = .returned (.tuple #[stV q' (resF (endD (s, 0))).1, .int .i64 (resF (endD (s, 0))).2.1, .bool true]) ∧ Res w.heap.size q s w' q' (resF (endD (s, 0))).1 ∧ Below w.heap.size w w' := by
  obtain ⟨s', e', hx⟩ : ∃ a b, endD (s, 0) = (a, b) := ⟨_, _, rfl⟩
  rw [hx]
  exact DoM_core 111 ⟨#[59]⟩ 1 45 q s x s' e' w hp ht (by decide +kernel) (by kernel_rfl) (enters_of Tryz.func45 (by kernel_rfl) rfl) (fun W g hT hw => End_go g q s x 0 s' e' W hx hw (by have := hz.mem; omega) (by have := hz.spots; omega) (by have := hz.words; omega))
theorem DoD_112 (q : Ad) (s : Ps) (x : Sx) (w : World) (hp : RdP w q s) (hsz : x.src.size ≤ 200) (hz : SzD s) (ht : Tab w) :
    Calls Tryz.prog 10 #[stV q s, suV x, .int .i64 112] w fun r w' => ∃ q', r = .returned (.tuple #[stV q' (resF (immD (s, 0))).1, .int .i64 (resF (immD (s, 0))).2.1, .bool true]) ∧ Res w.heap.size q s w' q' (resF (immD (s, 0))).1 ∧ Below w.heap.size w w' := by
  obtain ⟨s', e', hx⟩ : ∃ a b, immD (s, 0) = (a, b) := ⟨_, _, rfl⟩
  rw [hx]
  exact DoM_core 112 ⟨#[73, 77, 77, 69, 68, 73, 65, 84, 69]⟩ 7 55 q s x s' e' w hp ht (by decide +kernel) (by kernel_rfl) (enters_of Tryz.func55 (by kernel_rfl) rfl) (fun W g hT hw => M7_go g q s x s' e' W hx hw hsz hz)
theorem DoD_113 (q : Ad) (s : Ps) (x : Sx) (w : World) (hp : RdP w q s) (hsz : x.src.size ≤ 200) (hz : SzD s) (ht : Tab w) :
    Calls Tryz.prog 10 #[stV q s, suV x, .int .i64 113] w fun r w' => ∃ q', r = .returned (.tuple #[stV q' (resF (constD x (s, 0))).1, .int .i64 (resF (constD x (s, 0))).2.1, .bool true]) ∧ Res w.heap.size q s w' q' (resF (constD x (s, 0))).1 ∧ Below w.heap.size w w' := by
  obtain ⟨s', e', hx⟩ : ∃ a b, constD x (s, 0) = (a, b) := ⟨_, _, rfl⟩
  rw [hx]
  exact DoM_core 113 ⟨#[67, 79, 78, 83, 84, 65, 78, 84]⟩ 2 46 q s x s' e' w hp ht (by decide +kernel) (by kernel_rfl) (enters_of Tryz.func46 (by kernel_rfl) rfl) (fun W g hT hw => M2_go g q s x s' e' W hx hw hsz hz)
theorem DoD_114 (q : Ad) (s : Ps) (x : Sx) (w : World) (hp : RdP w q s) (hsz : x.src.size ≤ 200) (hz : SzD s) (ht : Tab w) :
    Calls Tryz.prog 10 #[stV q s, suV x, .int .i64 114] w fun r w' => ∃ q', r = .returned (.tuple #[stV q' (resF (varD x (s, 0))).1, .int .i64 (resF (varD x (s, 0))).2.1, .bool true]) ∧ Res w.heap.size q s w' q' (resF (varD x (s, 0))).1 ∧ Below w.heap.size w w' := by
  obtain ⟨s', e', hx⟩ : ∃ a b, varD x (s, 0) = (a, b) := ⟨_, _, rfl⟩
  rw [hx]
  exact DoM_core 114 ⟨#[86, 65, 82, 73, 65, 66, 76, 69]⟩ 6 52 q s x s' e' w hp ht (by decide +kernel) (by kernel_rfl) (enters_of Tryz.func52 (by kernel_rfl) rfl) (fun W g hT hw => M6_go g q s x s' e' W hx hw hsz hz)
theorem DoD_115 (q : Ad) (s : Ps) (x : Sx) (w : World) (hp : RdP w q s) (hsz : x.src.size ≤ 200) (hz : SzD s) (ht : Tab w) :
    Calls Tryz.prog 10 #[stV q s, suV x, .int .i64 115] w fun r w' => ∃ q', r = .returned (.tuple #[stV q' (resF (creaD x (s, 0))).1, .int .i64 (resF (creaD x (s, 0))).2.1, .bool true]) ∧ Res w.heap.size q s w' q' (resF (creaD x (s, 0))).1 ∧ Below w.heap.size w w' := by
  obtain ⟨s', e', hx⟩ : ∃ a b, creaD x (s, 0) = (a, b) := ⟨_, _, rfl⟩
  rw [hx]
  exact DoM_core 115 ⟨#[67, 82, 69, 65, 84, 69]⟩ 3 48 q s x s' e' w hp ht (by decide +kernel) (by kernel_rfl) (enters_of Tryz.func48 (by kernel_rfl) rfl) (fun W g hT hw => M3_go g q s x s' e' W hx hw hsz hz)
theorem DoD_116 (q : Ad) (s : Ps) (x : Sx) (w : World) (hp : RdP w q s) (hsz : x.src.size ≤ 200) (hz : SzD s) (ht : Tab w) :
    Calls Tryz.prog 10 #[stV q s, suV x, .int .i64 116] w fun r w' => ∃ q', r = .returned (.tuple #[stV q' (resF (doesD (s, 0))).1, .int .i64 (resF (doesD (s, 0))).2.1, .bool true]) ∧ Res w.heap.size q s w' q' (resF (doesD (s, 0))).1 ∧ Below w.heap.size w w' := by
  obtain ⟨s', e', hx⟩ : ∃ a b, doesD (s, 0) = (a, b) := ⟨_, _, rfl⟩
  rw [hx]
  exact DoM_core 116 ⟨#[68, 79, 69, 83, 62]⟩ 5 50 q s x s' e' w hp ht (by decide +kernel) (by kernel_rfl) (enters_of Tryz.func50 (by kernel_rfl) rfl) (fun W g hT hw => M5_go g q s x s' e' W hx hw hsz hz)
theorem DoD_117 (q : Ad) (s : Ps) (x : Sx) (w : World) (hp : RdP w q s) (hsz : x.src.size ≤ 200) (hz : SzD s) (ht : Tab w) :
    Calls Tryz.prog 10 #[stV q s, suV x, .int .i64 117] w fun r w' => ∃ q', r = .returned (.tuple #[stV q' (resF (markD x (s, 0))).1, .int .i64 (resF (markD x (s, 0))).2.1, .bool true]) ∧ Res w.heap.size q s w' q' (resF (markD x (s, 0))).1 ∧ Below w.heap.size w w' := by
  obtain ⟨s', e', hx⟩ : ∃ a b, markD x (s, 0) = (a, b) := ⟨_, _, rfl⟩
  rw [hx]
  exact DoM_core 117 ⟨#[77, 65, 82, 75, 69, 82]⟩ 4 49 q s x s' e' w hp ht (by decide +kernel) (by kernel_rfl) (enters_of Tryz.func49 (by kernel_rfl) rfl) (fun W g hT hw => M4_go g q s x s' e' W hx hw hsz hz)
theorem DoD_118 (q : Ad) (s : Ps) (x : Sx) (w : World) (hp : RdP w q s) (hsz : x.src.size ≤ 200) (hz : SzD s) (ht : Tab w) :
    Calls Tryz.prog 10 #[stV q s, suV x, .int .i64 118] w fun r w' => ∃ q', r = .returned (.tuple #[stV q' (resF (tickD x (s, 0))).1, .int .i64 (resF (tickD x (s, 0))).2.1, .bool true]) ∧ Res w.heap.size q s w' q' (resF (tickD x (s, 0))).1 ∧ Below w.heap.size w w' := by
  obtain ⟨s', e', hx⟩ : ∃ a b, tickD x (s, 0) = (a, b) := ⟨_, _, rfl⟩
  rw [hx]
  exact DoR_core 118 ⟨#[39]⟩ 0 61 q s x s' e' w hp ht (by decide +kernel) (by kernel_rfl) (by kernel_rfl) (enters_of Tryz.func61 (by kernel_rfl) rfl) (fun W g hT hw => R1_go g q s x s' e' W hx hw hsz hz hT)
theorem DoD_119 (q : Ad) (s : Ps) (x : Sx) (w : World) (hp : RdP w q s) (hsz : x.src.size ≤ 200) (hz : SzD s) (ht : Tab w) :
    Calls Tryz.prog 10 #[stV q s, suV x, .int .i64 119] w fun r w' => ∃ q', r = .returned (.tuple #[stV q' (resF (btickD x (s, 0))).1, .int .i64 (resF (btickD x (s, 0))).2.1, .bool true]) ∧ Res w.heap.size q s w' q' (resF (btickD x (s, 0))).1 ∧ Below w.heap.size w w' := by
  obtain ⟨s', e', hx⟩ : ∃ a b, btickD x (s, 0) = (a, b) := ⟨_, _, rfl⟩
  rw [hx]
  exact DoR_core 119 ⟨#[91, 39, 93]⟩ 1 64 q s x s' e' w hp ht (by decide +kernel) (by kernel_rfl) (by kernel_rfl) (enters_of Tryz.func64 (by kernel_rfl) rfl) (fun W g hT hw => R2_go g q s x s' e' W hx hw hsz hz hT)
theorem DoD_120 (q : Ad) (s : Ps) (x : Sx) (w : World) (hp : RdP w q s) (_hsz : x.src.size ≤ 200) (hz : SzD s) (ht : Tab w) :
    Calls Tryz.prog 10 #[stV q s, suV x, .int .i64 120] w fun r w' => ∃ q', r = .returned (.tuple #[stV q' (resF (litD (s, 0))).1, .int .i64 (resF (litD (s, 0))).2.1, .bool true]) ∧ Res w.heap.size q s w' q' (resF (litD (s, 0))).1 ∧ Below w.heap.size w w' := by
  obtain ⟨s', e', hx⟩ : ∃ a b, litD (s, 0) = (a, b) := ⟨_, _, rfl⟩
  rw [hx]
  exact DoR_core 120 ⟨#[76, 73, 84, 69, 82, 65, 76]⟩ 2 65 q s x s' e' w hp ht (by decide +kernel) (by kernel_rfl) (by kernel_rfl) (enters_of Tryz.func65 (by kernel_rfl) rfl) (fun W g hT hw => R3_go g q s x s' e' W hx hw hz)
theorem DoD_121 (q : Ad) (s : Ps) (x : Sx) (w : World) (hp : RdP w q s) (hsz : x.src.size ≤ 200) (hz : SzD s) (ht : Tab w) :
    Calls Tryz.prog 10 #[stV q s, suV x, .int .i64 121] w fun r w' => ∃ q', r = .returned (.tuple #[stV q' (resF (postD x (s, 0))).1, .int .i64 (resF (postD x (s, 0))).2.1, .bool true]) ∧ Res w.heap.size q s w' q' (resF (postD x (s, 0))).1 ∧ Below w.heap.size w w' := by
  obtain ⟨s', e', hx⟩ : ∃ a b, postD x (s, 0) = (a, b) := ⟨_, _, rfl⟩
  rw [hx]
  exact DoR_core 121 ⟨#[80, 79, 83, 84, 80, 79, 78, 69]⟩ 10 76 q s x s' e' w hp ht (by decide +kernel) (by kernel_rfl) (by kernel_rfl) (enters_of Tryz.func76 (by kernel_rfl) rfl) (fun W g hT hw => R10_go g q s x s' e' W hx hw hsz hz hT)
theorem DoD_122 (q : Ad) (s : Ps) (x : Sx) (w : World) (hp : RdP w q s) (_hsz : x.src.size ≤ 200) (_hz : SzD s) (ht : Tab w) :
    Calls Tryz.prog 10 #[stV q s, suV x, .int .i64 122] w fun r w' => ∃ q', r = .returned (.tuple #[stV q' (resF (compD false (s, 0))).1, .int .i64 (resF (compD false (s, 0))).2.1, .bool true]) ∧ Res w.heap.size q s w' q' (resF (compD false (s, 0))).1 ∧ Below w.heap.size w w' := by
  obtain ⟨s', e', hx⟩ : ∃ a b, compD false (s, 0) = (a, b) := ⟨_, _, rfl⟩
  rw [hx]
  exact DoR_core 122 ⟨#[91]⟩ 3 66 q s x s' e' w hp ht (by decide +kernel) (by kernel_rfl) (by kernel_rfl) (enters_of Tryz.func66 (by kernel_rfl) rfl) (fun W g hT hw => R4_go g q s x s' e' W hx hw)
theorem DoD_123 (q : Ad) (s : Ps) (x : Sx) (w : World) (hp : RdP w q s) (_hsz : x.src.size ≤ 200) (_hz : SzD s) (ht : Tab w) :
    Calls Tryz.prog 10 #[stV q s, suV x, .int .i64 123] w fun r w' => ∃ q', r = .returned (.tuple #[stV q' (resF (compD true (s, 0))).1, .int .i64 (resF (compD true (s, 0))).2.1, .bool true]) ∧ Res w.heap.size q s w' q' (resF (compD true (s, 0))).1 ∧ Below w.heap.size w w' := by
  obtain ⟨s', e', hx⟩ : ∃ a b, compD true (s, 0) = (a, b) := ⟨_, _, rfl⟩
  rw [hx]
  exact DoR_core 123 ⟨#[93]⟩ 4 67 q s x s' e' w hp ht (by decide +kernel) (by kernel_rfl) (by kernel_rfl) (enters_of Tryz.func67 (by kernel_rfl) rfl) (fun W g hT hw => R5_go g q s x s' e' W hx hw)
theorem DoD_125 (q : Ad) (s : Ps) (x : Sx) (w : World) (hp : RdP w q s) (hsz : x.src.size ≤ 200) (hz : SzD s) (ht : Tab w) :
    Calls Tryz.prog 10 #[stV q s, suV x, .int .i64 125] w fun r w' => ∃ q', r = .returned (.tuple #[stV q' (resF (charGD x (s, 0))).1, .int .i64 (resF (charGD x (s, 0))).2.1, .bool true]) ∧ Res w.heap.size q s w' q' (resF (charGD x (s, 0))).1 ∧ Below w.heap.size w w' := by
  obtain ⟨s', e', hx⟩ : ∃ a b, charGD x (s, 0) = (a, b) := ⟨_, _, rfl⟩
  rw [hx]
  exact DoR_core 125 ⟨#[67, 72, 65, 82]⟩ 5 68 q s x s' e' w hp ht (by decide +kernel) (by kernel_rfl) (by kernel_rfl) (enters_of Tryz.func68 (by kernel_rfl) rfl) (fun W g hT hw => R6_go g q s x s' e' W hx hw hsz hz)
theorem DoD_126 (q : Ad) (s : Ps) (x : Sx) (w : World) (hp : RdP w q s) (hsz : x.src.size ≤ 200) (hz : SzD s) (ht : Tab w) :
    Calls Tryz.prog 10 #[stV q s, suV x, .int .i64 126] w fun r w' => ∃ q', r = .returned (.tuple #[stV q' (resF (bcharD x (s, 0))).1, .int .i64 (resF (bcharD x (s, 0))).2.1, .bool true]) ∧ Res w.heap.size q s w' q' (resF (bcharD x (s, 0))).1 ∧ Below w.heap.size w w' := by
  obtain ⟨s', e', hx⟩ : ∃ a b, bcharD x (s, 0) = (a, b) := ⟨_, _, rfl⟩
  rw [hx]
  exact DoR_core 126 ⟨#[91, 67, 72, 65, 82, 93]⟩ 6 70 q s x s' e' w hp ht (by decide +kernel) (by kernel_rfl) (by kernel_rfl) (enters_of Tryz.func70 (by kernel_rfl) rfl) (fun W g hT hw => R7_go g q s x s' e' W hx hw hsz hz)
theorem DoD_127 (q : Ad) (s : Ps) (x : Sx) (w : World) (hp : RdP w q s) (hsz : x.src.size ≤ 200) (_hz : SzD s) (ht : Tab w) :
    Calls Tryz.prog 10 #[stV q s, suV x, .int .i64 127] w fun r w' => ∃ q', r = .returned (.tuple #[stV q' (resF (parD x (s, 0))).1, .int .i64 (resF (parD x (s, 0))).2.1, .bool true]) ∧ Res w.heap.size q s w' q' (resF (parD x (s, 0))).1 ∧ Below w.heap.size w w' := by
  obtain ⟨s', e', hx⟩ : ∃ a b, parD x (s, 0) = (a, b) := ⟨_, _, rfl⟩
  rw [hx]
  exact DoR_core 127 ⟨#[40]⟩ 7 71 q s x s' e' w hp ht (by decide +kernel) (by kernel_rfl) (by kernel_rfl) (enters_of Tryz.func71 (by kernel_rfl) rfl) (fun W g hT hw => R8_go g q s x s' e' W hx hw hsz)
theorem DoD_128 (q : Ad) (s : Ps) (x : Sx) (w : World) (hp : RdP w q s) (hsz : x.src.size ≤ 200) (_hz : SzD s) (ht : Tab w) :
    Calls Tryz.prog 10 #[stV q s, suV x, .int .i64 128] w fun r w' => ∃ q', r = .returned (.tuple #[stV q' (resF (lineD x (s, 0))).1, .int .i64 (resF (lineD x (s, 0))).2.1, .bool true]) ∧ Res w.heap.size q s w' q' (resF (lineD x (s, 0))).1 ∧ Below w.heap.size w w' := by
  obtain ⟨s', e', hx⟩ : ∃ a b, lineD x (s, 0) = (a, b) := ⟨_, _, rfl⟩
  rw [hx]
  exact DoR_core 128 ⟨#[92]⟩ 8 73 q s x s' e' w hp ht (by decide +kernel) (by kernel_rfl) (by kernel_rfl) (enters_of Tryz.func73 (by kernel_rfl) rfl) (fun W g hT hw => R9_go g q s x s' e' W hx hw hsz)
theorem DoD_129 (q : Ad) (s : Ps) (x : Sx) (w : World) (hp : RdP w q s) (hsz : x.src.size ≤ 200) (hz : SzD s) (ht : Tab w) :
    Calls Tryz.prog 10 #[stV q s, suV x, .int .i64 129] w fun r w' => ∃ q', r = .returned (.tuple #[stV q' (resF (quoteD x (s, 0))).1, .int .i64 (resF (quoteD x (s, 0))).2.1, .bool true]) ∧ Res w.heap.size q s w' q' (resF (quoteD x (s, 0))).1 ∧ Below w.heap.size w w' := by
  obtain ⟨s', e', hx⟩ : ∃ a b, quoteD x (s, 0) = (a, b) := ⟨_, _, rfl⟩
  rw [hx]
  exact DoR_core 129 ⟨#[46, 34]⟩ 9 75 q s x s' e' w hp ht (by decide +kernel) (by kernel_rfl) (by kernel_rfl) (enters_of Tryz.func75 (by kernel_rfl) rfl) (fun W g hT hw => Quote_go g q s x 0 s' e' W hx hw hsz (by have := hz.mem; omega) (by have := hz.spots; omega) hz.out)
theorem name_otherD {op : Int} (h : op ≠ 110 ∧ op ≠ 111 ∧ op ≠ 112 ∧ op ≠ 113 ∧ op ≠ 114 ∧ op ≠ 115 ∧ op ≠ 116 ∧ op ≠ 117 ∧ op ≠ 118 ∧ op ≠ 119 ∧ op ≠ 120 ∧ op ≠ 121 ∧ op ≠ 122 ∧ op ≠ 123 ∧ op ≠ 125 ∧ op ≠ 126 ∧ op ≠ 127 ∧ op ≠ 128 ∧ op ≠ 129) : (mkK.all fun k => !(nameR op == k)) = true ∧ (rdK.all fun k => !(nameR op == k)) = true := by
  unfold nameR
  split
  · rename_i h1
    obtain ⟨k, hk⟩ : ∃ k : Nat, (op - 1).toNat = k := ⟨_, rfl⟩
    have h2 : k < 137 ∧ (k ≠ 109 ∧ k ≠ 110 ∧ k ≠ 111 ∧ k ≠ 112 ∧ k ≠ 113 ∧ k ≠ 114 ∧ k ≠ 115 ∧ k ≠ 116 ∧ k ≠ 117 ∧ k ≠ 118 ∧ k ≠ 119 ∧ k ≠ 120 ∧ k ≠ 121 ∧ k ≠ 122 ∧ k ≠ 124 ∧ k ≠ 125 ∧ k ≠ 126 ∧ k ≠ 127 ∧ k ≠ 128) := by omega
    rw [hk]
    have hall : ∀ j, j < 137 → (j ≠ 109 ∧ j ≠ 110 ∧ j ≠ 111 ∧ j ≠ 112 ∧ j ≠ 113 ∧ j ≠ 114 ∧ j ≠ 115 ∧ j ≠ 116 ∧ j ≠ 117 ∧ j ≠ 118 ∧ j ≠ 119 ∧ j ≠ 120 ∧ j ≠ 121 ∧ j ≠ 122 ∧ j ≠ 124 ∧ j ≠ 125 ∧ j ≠ 126 ∧ j ≠ 127 ∧ j ≠ 128) → (mkK.all fun x => !(nm j == x)) = true ∧ (rdK.all fun x => !(nm j == x)) = true := by decide +kernel
    exact hall k h2.1 h2.2
  · decide +kernel
theorem DoD_none (op : Int) (q : Ad) (s : Ps) (x : Sx) (w : World) (h : op ≠ 110 ∧ op ≠ 111 ∧ op ≠ 112 ∧ op ≠ 113 ∧ op ≠ 114 ∧ op ≠ 115 ∧ op ≠ 116 ∧ op ≠ 117 ∧ op ≠ 118 ∧ op ≠ 119 ∧ op ≠ 120 ∧ op ≠ 121 ∧ op ≠ 122 ∧ op ≠ 123 ∧ op ≠ 125 ∧ op ≠ 126 ∧ op ≠ 127 ∧ op ≠ 128 ∧ op ≠ 129) (hp : RdP w q s) (ht : Tab w) :
    Calls Tryz.prog 10 #[stV q s, suV x, .int .i64 op] w fun r w' => r = .returned (.tuple #[stV nilA zeroP, .int .i64 0, .bool false]) ∧ Below w.heap.size w w' :=
  DoN_core op (nameR op) q s x w hp ht rfl (find_none mkE mkK 0 rfl (name_otherD h).1) (find_none rdE rdK 0 rfl (name_otherD h).2)
theorem res_true (x : Ps × Int) : (resF x).2.2 = true := by
  unfold resF
  split <;> rfl
set_option maxRecDepth 100000 in
/-- What Do makes of any state and source, by any word. -/
theorem DoD_any (op : Int) (q : Ad) (s : Ps) (x : Sx) (s' : Ps) (e' : Int) (b : Bool) (w : World) (hr : doD x s op = (s', e', b)) (hp : RdP w q s) (hsz : x.src.size ≤ 200) (hz : SzD s) (ht : Tab w) :
    Calls Tryz.prog 10 #[stV q s, suV x, .int .i64 op] w fun r w' => ∃ q', r = .returned (.tuple #[stV q' s', .int .i64 e', .bool b]) ∧ Res w.heap.size q s w' q' s' ∧ Below w.heap.size w w' := by
  have key : ∀ y : Ps × Int, (Calls Tryz.prog 10 #[stV q s, suV x, .int .i64 op] w fun r w' => ∃ q', r = .returned (.tuple #[stV q' (resF y).1, .int .i64 (resF y).2.1, .bool true]) ∧ Res w.heap.size q s w' q' (resF y).1 ∧ Below w.heap.size w w') → resF y = (s', e', b) → Calls Tryz.prog 10 #[stV q s, suV x, .int .i64 op] w fun r w' => ∃ q', r = .returned (.tuple #[stV q' s', .int .i64 e', .bool b]) ∧ Res w.heap.size q s w' q' s' ∧ Below w.heap.size w w' := fun y h e => by
    have hb := res_true y
    rw [e] at h hb
    simp only at h hb
    rw [hb]
    exact h
  unfold doD at hr
  by_cases h110 : op = 110
  · subst h110
    simp only [Int.reduceEq, if_true, if_false] at hr
    exact key _ (DoD_110 q s x w hp hsz hz ht) hr
  rw [if_neg h110] at hr
  by_cases h111 : op = 111
  · subst h111
    simp only [Int.reduceEq, if_true, if_false] at hr
    exact key _ (DoD_111 q s x w hp hsz hz ht) hr
  rw [if_neg h111] at hr
  by_cases h112 : op = 112
  · subst h112
    simp only [Int.reduceEq, if_true, if_false] at hr
    exact key _ (DoD_112 q s x w hp hsz hz ht) hr
  rw [if_neg h112] at hr
  by_cases h113 : op = 113
  · subst h113
    simp only [Int.reduceEq, if_true, if_false] at hr
    exact key _ (DoD_113 q s x w hp hsz hz ht) hr
  rw [if_neg h113] at hr
  by_cases h114 : op = 114
  · subst h114
    simp only [Int.reduceEq, if_true, if_false] at hr
    exact key _ (DoD_114 q s x w hp hsz hz ht) hr
  rw [if_neg h114] at hr
  by_cases h115 : op = 115
  · subst h115
    simp only [Int.reduceEq, if_true, if_false] at hr
    exact key _ (DoD_115 q s x w hp hsz hz ht) hr
  rw [if_neg h115] at hr
  by_cases h116 : op = 116
  · subst h116
    simp only [Int.reduceEq, if_true, if_false] at hr
    exact key _ (DoD_116 q s x w hp hsz hz ht) hr
  rw [if_neg h116] at hr
  by_cases h117 : op = 117
  · subst h117
    simp only [Int.reduceEq, if_true, if_false] at hr
    exact key _ (DoD_117 q s x w hp hsz hz ht) hr
  rw [if_neg h117] at hr
  by_cases h118 : op = 118
  · subst h118
    simp only [Int.reduceEq, if_true, if_false] at hr
    exact key _ (DoD_118 q s x w hp hsz hz ht) hr
  rw [if_neg h118] at hr
  by_cases h119 : op = 119
  · subst h119
    simp only [Int.reduceEq, if_true, if_false] at hr
    exact key _ (DoD_119 q s x w hp hsz hz ht) hr
  rw [if_neg h119] at hr
  by_cases h120 : op = 120
  · subst h120
    simp only [Int.reduceEq, if_true, if_false] at hr
    exact key _ (DoD_120 q s x w hp hsz hz ht) hr
  rw [if_neg h120] at hr
  by_cases h121 : op = 121
  · subst h121
    simp only [Int.reduceEq, if_true, if_false] at hr
    exact key _ (DoD_121 q s x w hp hsz hz ht) hr
  rw [if_neg h121] at hr
  by_cases h122 : op = 122
  · subst h122
    simp only [Int.reduceEq, if_true, if_false] at hr
    exact key _ (DoD_122 q s x w hp hsz hz ht) hr
  rw [if_neg h122] at hr
  by_cases h123 : op = 123
  · subst h123
    simp only [Int.reduceEq, if_true, if_false] at hr
    exact key _ (DoD_123 q s x w hp hsz hz ht) hr
  rw [if_neg h123] at hr
  by_cases h125 : op = 125
  · subst h125
    simp only [Int.reduceEq, if_true, if_false] at hr
    exact key _ (DoD_125 q s x w hp hsz hz ht) hr
  rw [if_neg h125] at hr
  by_cases h126 : op = 126
  · subst h126
    simp only [Int.reduceEq, if_true, if_false] at hr
    exact key _ (DoD_126 q s x w hp hsz hz ht) hr
  rw [if_neg h126] at hr
  by_cases h127 : op = 127
  · subst h127
    simp only [Int.reduceEq, if_true, if_false] at hr
    exact key _ (DoD_127 q s x w hp hsz hz ht) hr
  rw [if_neg h127] at hr
  by_cases h128 : op = 128
  · subst h128
    simp only [Int.reduceEq, if_true, if_false] at hr
    exact key _ (DoD_128 q s x w hp hsz hz ht) hr
  rw [if_neg h128] at hr
  by_cases h129 : op = 129
  · subst h129
    simp only [if_true] at hr
    exact key _ (DoD_129 q s x w hp hsz hz ht) hr
  rw [if_neg h129] at hr
  injection hr with h1 h2
  injection h2 with h2 h3
  subst h1 h2 h3
  refine (DoD_none op q s x w ⟨h110, h111, h112, h113, h114, h115, h116, h117, h118, h119, h120, h121, h122, h123, h125, h126, h127, h128, h129⟩ hp ht).mono ?_
  rintro r w' ⟨rfl, hb⟩
  exact ⟨nilA, rfl, Res.zero _ _ _ _, hb⟩
end Go.Proofs.YtappfhjknihboaaGreatDoor

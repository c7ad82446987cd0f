/- Chapter 13: what a formula says at the places of a word, in plain Lean. -/
import Derived.Test.YtpacancmcjbckaaGreatDoorUc
import Derived.Test.YtpacancmcjbckaaGreatDoorUd
section
set_option linter.unusedVariables false
set_option linter.unusedSimpArgs false
namespace Go.D
namespace Las
structure Good (F : List Nd) (i : Nat) : Prop where
  k : inR (F.getD i default).k 0 9 = true
  a : (((nA F i).length : Nat) : Int) = ar (F.getD i default).k
  s : stands F i = true
  b : bad (F.getD i default) = false
theorem chkF_ok {F : List Nd} : ∀ (d i : Nat), (chkF F d i).2 = 0 → (∀ j, i ≤ j → j < i + d → Good F j) ∧ fo F (F.length - 1) = 0
  | 0, i, h => by
    unfold chkF at h
    by_cases c : fo F (F.length - 1) = 0
    · exact ⟨fun j h1 h2 => by omega, c⟩
    · rw [if_neg c] at h
      exact absurd h (by simp)
  | d + 1, i, h => by
    unfold chkF at h
    by_cases c1 : inR (F.getD i default).k 0 9 = true
    · rw [if_pos c1] at h
      by_cases c2 : (((nA F i).length : Nat) : Int) = ar (F.getD i default).k ∧ stands F i = true
      · rw [if_pos c2] at h
        by_cases c3 : bad (F.getD i default) = true
        · rw [if_pos c3] at h
          exact absurd h (by simp)
        · rw [if_neg c3] at h
          obtain ⟨h1, h2⟩ := chkF_ok d (i + 1) h
          refine ⟨fun j j1 j2 => ?_, h2⟩
          by_cases e : j = i
          · subst e; exact ⟨c1, c2.1, c2.2, (Bool.not_eq_true _).mp c3⟩
          · exact h1 j (by omega) (by omega)
      · rw [if_neg c2] at h
        exact absurd h (by simp)
    · rw [if_neg c1] at h
      exact absurd h (by simp)
structure Ok (F : List Nd) : Prop where
  pos : 0 < F.length
  le : F.length ≤ 40
  good : ∀ j, j < F.length → Good F j
  fst : fo F (F.length - 1) = 0
theorem chk_ok {F : List Nd} (h : (chk F).2 = 0) : Ok F := by
  unfold chk at h
  by_cases c1 : F.length = 0
  · rw [if_pos c1] at h; exact absurd h (by decide)
  · rw [if_neg c1] at h
    by_cases c2 : F.length > 40
    · rw [if_pos c2] at h; exact absurd h (by decide)
    · rw [if_neg c2] at h
      obtain ⟨h1, h2⟩ := chkF_ok _ _ h
      exact ⟨by omega, by omega, fun j hj => h1 j (Nat.zero_le _) (by omega), h2⟩
theorem Good.args {F : List Nd} {i : Nat} (h : Good F i) (hne : nA F i ≠ []) : 1 ≤ i ∧ 0 ≤ (nA F i).getD 0 0 ∧ (nA F i).getD 0 0 < i ∧ (nA F i).getD ((nA F i).length - 1) 0 = (i : Int) - 1 := by
  obtain ⟨y, hy⟩ := Option.isSome_iff_exists.1 h.s
  obtain ⟨m, hm⟩ : ∃ m, (nA F i).length = m + 1 := ⟨(nA F i).length - 1, by have := List.length_pos_iff.2 hne; omega⟩
  rw [hm] at hy
  obtain ⟨a, b, _, _⟩ := stB_end m _ _ hy
  have hl : (nA F i).getD m 0 = (i : Int) - 1 := by
    unfold stB at hy
    by_cases c : (nA F i).getD m 0 = (i : Int) - 1
    · exact c
    · rw [if_neg c] at hy; exact absurd hy (by simp)
  rw [hm, Nat.add_sub_cancel]
  exact ⟨by omega, b, by omega, hl⟩
def bit (x m : Int) : Bool := decide (x.toNat / 2 ^ m.toNat % 2 = 1)
def tk (n back : Nat) (W : List Int) (k m : Int) (a b : Nat → Bool) : Nat → Bool :=
  if k = 0 then fun _ => true
  else if k = 1 then fun i => bit (W.getD i 0) m
  else if k = 2 then fun i => !a i
  else if k = 3 then fun i => a i && b i
  else if k = 4 then fun i => a i || b i
  else if k = 5 then fun i => !a i || b i
  else if k = 6 then fun i => !soP n back (fun j => !a j) i
  else if k = 7 then soP n back a
  else if k = 8 then fun i => !soP n back (fun j => !(!a j || soP n back b j)) i
  else unP n back a b
abbrev NB := Nat → Bool
def tvK (g : Int → Int → NB → NB → NB) (F : List Nd) : Nat → Nat → NB
  | 0, _ => fun _ => false
  | k + 1, r => g (F.getD r default).k (F.getD r default).n
      (if 0 ≤ (nA F r).getD 0 0 ∧ (nA F r).getD 0 0 < r then tvK g F k ((nA F r).getD 0 0).toNat else fun _ => false)
      (if 0 ≤ (nA F r).getD ((nA F r).length - 1) 0 ∧ (nA F r).getD ((nA F r).length - 1) 0 < r then tvK g F k ((nA F r).getD ((nA F r).length - 1) 0).toNat else fun _ => false)
theorem tvK_fuel (g : Int → Int → NB → NB → NB) (F : List Nd) : ∀ (k k' r : Nat), r < k → r < k' → tvK g F k r = tvK g F k' r
  | 0, _, r, h, _ => by omega
  | k + 1, 0, r, _, h => by omega
  | k + 1, k' + 1, r, h, h' => by
    unfold tvK
    have q : ∀ a : Int, (if 0 ≤ a ∧ a < r then tvK g F k a.toNat else fun _ => false) = if 0 ≤ a ∧ a < r then tvK g F k' a.toNat else fun _ => false := fun a => by
      by_cases c : 0 ≤ a ∧ a < r
      · rw [if_pos c, if_pos c, tvK_fuel g F k k' _ (by omega) (by omega)]
      · rw [if_neg c, if_neg c]
    rw [q, q]
def tv (g : Int → Int → NB → NB → NB) (F : List Nd) (r : Nat) : NB := tvK g F (r + 1) r
def opA (g : Int → Int → NB → NB → NB) (F : List Nd) (r : Nat) : NB := tv g F ((nA F r).getD 0 0).toNat
def opB (g : Int → Int → NB → NB → NB) (F : List Nd) (r : Nat) : NB := tv g F ((nA F r).getD ((nA F r).length - 1) 0).toNat
theorem tv_eq {g : Int → Int → NB → NB → NB} {F : List Nd} {r : Nat} (h : Good F r) (hne : nA F r ≠ []) : tv g F r = g (F.getD r default).k (F.getD r default).n (opA g F r) (opB g F r) := by
  obtain ⟨h1, h2, h3, h4⟩ := h.args hne
  unfold tv opA opB
  conv => lhs; unfold tvK
  rw [if_pos ⟨h2, h3⟩, if_pos (by omega)]
  unfold tv
  rw [tvK_fuel g F r _ _ (by omega) (Nat.lt_succ_self _), tvK_fuel g F r _ ((nA F r).getD ((nA F r).length - 1) 0).toNat (by omega) (Nat.lt_succ_self _)]
theorem tv_leaf {n back : Nat} {W : List Int} {F : List Nd} {r : Nat} (hk : (F.getD r default).k = 0 ∨ (F.getD r default).k = 1) (a b : NB) : tv (tk n back W) F r = tk n back W (F.getD r default).k (F.getD r default).n a b := by
  unfold tv tvK
  rcases hk with h | h
  · rw [h]; rfl
  · rw [h]; rfl
end Las
end Go.D
end
/- Chapter 13: truths of the program. -/
section
set_option linter.unusedVariables false
set_option linter.unusedSimpArgs false
set_option maxRecDepth 8000
namespace Go.D
open Las
def bvP (l : List Bool) : PV := .sl false l.length (eBools l)
theorem u162 : PP.underlying 162 = some (.slice 34) := Eq.trans (by kernel_rfl) rfl
theorem s34 : size? PP 34 = some 1 := Eq.trans (by kernel_rfl) rfl
theorem src162 : srcType PP 162 = true := Eq.trans (by kernel_rfl) rfl
theorem bytes34 : bytes? PP 34 = some 24 := Eq.trans (by kernel_rfl) rfl
theorem zero34 : zeroOf PP 34 = some [.p .nilsl] := Eq.trans (by kernel_rfl) rfl
theorem load34 (x : DV) (σ : Store) : load PP 34 x σ = load1 x σ := Eq.trans (by kernel_rfl) rfl
theorem bs162 (l : List Bool) (σ : Store) : buildSlice PP none 162 1 [(0, BV l)] σ = some (.p (.sl true 1 [bvP l]), σ) := Eq.trans (by kernel_rfl) rfl
theorem bs162_o (r v n : Nat) (cs : List PV) (σ : Store) : buildSlice PP none 162 1 [(0, .osl r v 1 n cs)] σ = some (.p (.sl true 1 [.sl false n cs]), σ) := Eq.trans (by kernel_rfl) rfl
theorem Out.push162 {σ : Store} {lo n : Nat} {cs : List PV} {v : PV} {x : DV} (ho : Out σ lo 1 n cs x) (hn : n ≤ 1000000) (hlo : lo ≤ σ.length) :
    ∃ x' σ', append PP lo false 162 162 x (.p (.sl true 1 [v])) σ = some (x', σ') ∧ Out σ' lo 1 (n + 1) (cs ++ [v]) x' ∧ Others σ σ' x ∧ σ.length ≤ σ'.length :=
  Out.push src162 u162 s34 bytes34 zero34 rfl (by decide) (by decide) (by decide) rfl ho hn hlo
theorem Out.push34 {σ : Store} {lo n : Nat} {cs : List PV} {v : PV} {x : DV} (ho : Out σ lo 1 n cs x) (hn : n ≤ 1000000) (hlo : lo ≤ σ.length) :
    ∃ x' σ', append PP lo false 34 34 x (.p (.sl true 1 [v])) σ = some (x', σ') ∧ Out σ' lo 1 (n + 1) (cs ++ [v]) x' ∧ Others σ σ' x ∧ σ.length ≤ σ'.length :=
  Out.push src34 u34 s4 bytes4 zero4 rfl (by decide) (by decide) (by decide) rfl ho hn hlo
def Away (x : DV) (r : Nat) : Prop := ∀ rr v sz n cs, x = .osl rr v sz n cs → r ≠ rr
theorem Out.push34x {σ : Store} {lo n : Nat} {cs : List PV} {v : PV} {x : DV} (ho : Out σ lo 1 n cs x) (hn : n ≤ 1000000) (hlo : lo ≤ σ.length) :
    ∃ x' σ', append PP lo false 34 34 x (.p (.sl true 1 [v])) σ = some (x', σ') ∧ Out σ' lo 1 (n + 1) (cs ++ [v]) x' ∧ Others σ σ' x ∧ σ.length ≤ σ'.length ∧ ∀ r, r < σ.length → Away x r → Away x' r := by
  obtain ⟨x', σ', p1, p2, p3, p4⟩ := Out.push34 (v := v) ho hn hlo
  refine ⟨x', σ', p1, p2, p3, p4, fun r hr ha rr v' sz n' cs' e => ?_⟩
  subst e
  obtain ⟨hc, ho⟩ := ho
  have hsrc : source σ 1 (.p (.sl true 1 [v])) = some (1, [DV.p v]) := rfl
  rcases ho with ⟨rfl, rfl⟩ | ⟨hn0, r0, ver, rfl, hr0, hl⟩
  · have q : append PP lo false 34 34 (.p .nilsl) (.p (.sl true 1 [v])) σ = some (.osl σ.length 0 1 1 [v], σ ++ [.tok 0]) := by
      simp [append, src34, u34, s4, bytes4, zero4, hsrc, appNil, pures, DV.pure?]
    rw [p1] at q
    injection q with q
    injection q with q _
    injection q with q
    omega
  · have e1 : (n + 1) * 1 ≤ 140737488355328 := by omega
    have e2 : n + 1 ≤ 140737488355328 := by omega
    have q : append PP lo false 34 34 (.osl r0 ver 1 n cs) (.p (.sl true 1 [v])) σ = some (.osl r0 (ver + 1) 1 (n + 1) (cs ++ [v]), σ.set r0 (.tok (ver + 1))) := by
      simp only [Nat.mul_one] at hc
      simp [append, src34, u34, s4, bytes4, zero4, hsrc, appTok, pures, DV.pure?, hr0, hl, hc]
      omega
    rw [p1] at q
    injection q with q
    injection q with q _
    injection q with q
    rw [q]
    exact ha _ _ _ _ _ rfl
theorem Out.idx162 {σ : Store} {lo n j : Nat} {cs : List PV} {x : DV} (ho : Out σ lo 1 n cs x) (hj : j < n) : indexAddr PP 162 x (.p (.int .i64 (j : Nat))) = some (.pptr cs j) := by
  have h2 : (0 : Int) ≤ (j : Int) ∧ (j : Int) < (n : Nat) := by omega
  rcases ho.2 with ⟨h1, rfl⟩ | ⟨h1, r, v, rfl, _, _⟩
  · omega
  · simp [indexAddr, u162, s34, h2]
theorem Out.len162 {σ : Store} {lo n : Nat} {cs : List PV} {x : DV} (ho : Out σ lo 1 n cs x) (τ : Store) : len PP 162 x τ = some (N n) := by
  rcases ho.2 with ⟨h1, rfl⟩ | ⟨h1, r, v, rfl, _, _⟩
  · simp [len, u162, N, h1]
  · simp [len, u162, N]
theorem shrN {a m : Nat} (hm : m ≤ 11) (t : TypeId) : binOp PP .shr t (.p (.int .i64 (a : Nat))) (.p (.int .i64 (m : Nat))) = some (.p (.int .i64 ((a / 2 ^ m : Nat) : Int))) := by
  have hm0 : ¬ ((m : Int) < 0) := by omega
  have e1 : min (m : Int).toNat IntKind.i64.bits = m := by
    have : IntKind.i64.bits = 64 := rfl
    rw [this]; omega
  have e : (a : Int).fdiv (2 ^ m) = ((a / 2 ^ m : Nat) : Int) := by
    rw [Int.fdiv_eq_ediv_of_nonneg _ (Int.le_of_lt (Int.pow_pos (by decide)))]
    norm_cast
  show (binShift .shr .i64 (a : Int) (m : Int)).map DV.p = _
  unfold binShift
  rw [if_neg hm0]
  simp only [e1, e, Option.map_some]
theorem andN1 (a : Nat) (ha : a ≤ 1000000) (t : TypeId) : binOp PP .and t (.p (.int .i64 (a : Nat))) (.p (.int .i64 1)) = some (.p (.int .i64 ((a % 2 : Nat) : Int))) := by
  have e : (BitVec.ofInt 64 (a : Int) &&& BitVec.ofInt 64 1).toNat = a % 2 := by
    have h1 : (BitVec.ofInt 64 (a : Int)).toNat = a := by rw [BitVec.ofInt_natCast, BitVec.toNat_ofNat]; omega
    have h2 : (BitVec.ofInt 64 1).toNat = 2 ^ 1 - 1 := by decide
    rw [BitVec.toNat_and, h1, h2, Nat.and_two_pow_sub_one_eq_mod]
  have e2 : binInt .and .i64 (a : Int) 1 = some (.int .i64 ((a % 2 : Nat) : Int)) := by
    show some (PV.int .i64 (IntKind.i64.wrap ((BitVec.ofInt 64 (a : Int) &&& BitVec.ofInt 64 1).toNat : Int))) = _
    rw [e, wrap_ok (by omega) (by omega)]
  show (if IntKind.i64 = IntKind.i64 then (binInt .and .i64 (a : Int) 1).map DV.p else none) = _
  rw [if_pos rfl, e2]
  rfl
theorem bit_dec {x m : Int} : decide (((x.toNat / 2 ^ m.toNat % 2 : Nat) : Int) = 1) = bit x m := decide_eq_decide.2 (by omega)
end Go.D
end
/- Chapter 13: truths of the program, node by node. -/
section
set_option linter.unusedVariables false
set_option linter.unusedSimpArgs false
set_option maxRecDepth 8000
namespace Go.D
open Las
theorem S84p {a b : OI} (h0 : 0 < (L a).length + (L b).length) (hl : (L a).length + (L b).length ≤ 10000) (σ : Store) : pureV CC 84 [.p (.sl true 2 [eSl a, eSl b])] σ = some (.p (eSl (some (L a ++ L b)))) := by
  have h := S84 h0 hl false 0 [] (Nat.le_refl _)
  rw [List.length_nil, List.nil_append] at h
  rw [pureV_view (args' := [.p (.sl false 2 [eSl a, eSl b])]) (by simp [view, viewCell, loosen, loosens, loosen_sl]) (by simp [view, viewCell, loosen, loosens, loosen_sl])]
  refine pureV_free (by simp [view, viewCell, loosen, loosens, loosen_sl]) rfl h ?_
  generalize L a ++ L b = W
  have hb : 0 + W.length * 1 ≤ (ints W).length := by rw [ints_len]; omega
  have ht : ((ints W).drop 0).take (W.length * 1) = ints W := by rw [List.drop_zero, Nat.mul_one, List.take_of_length_le (by rw [ints_len]; exact Nat.le_refl _)]
  have hm : ∀ (d : Nat) (l : List Int), mapO (thawP 0 [Row.mix (ints W)] d) (ints l) = some (eInts l) := by
    intro d l
    induction l with
    | nil => rfl
    | cons a l ih =>
      have : ints (a :: l) = .p (.int .i64 a) :: ints l := rfl
      rw [this]
      cases d <;> simp [mapO, thawP, loosen, ih, eInts]
  simp only [thawAll, thawPart, thaw, thaw1, thawP, Nat.le_refl, if_true, List.getElem?_cons_zero, if_pos hb, ht, hm, Option.map_some]
  rfl
theorem zero135 : zeroOf PP 135 = some [.p (pI 0), .p (pI 0)] := Eq.trans (by kernel_rfl) rfl
def rgD (n back : Nat) : List DV := [.p (pI n), .p (pI back)]
theorem b135 (n back : Nat) : build PP 135 [(0, N n), (1, N back)] = some (.agg (rgD n back)) := Eq.trans (by kernel_rfl) rfl
theorem st135 (n back : Nat) : store PP 0 135 (.ptr 0 0) (.agg (rgD n back)) [.mix [.p (pI 0), .p (pI 0)]] = some [.mix (rgD n back)] := Eq.trans (by kernel_rfl) rfl
section
variable {σ : Store} {n back : Nat} (h : σ[0]? = some (.mix (rgD n back)))
include h
theorem rr_0 : load1 (.ptr 0 0) σ = some (.p (.int .i64 (n : Nat))) := load1_ptr h rfl
theorem rr_all : (loadN σ 2 (.ptr 0 0)).map DV.agg = some (vRg n back) := by rw [loadN_ptr (vs := rgD n back) h rfl (by simp [rgD])]; rfl
end
def lvs (T : Nat → NB) (n i : Nat) : List PV := (List.range i).map fun j => bvP (tab n (T j))
theorem lvs_succ (T : Nat → NB) (n i : Nat) : lvs T n (i + 1) = lvs T n i ++ [bvP (tab n (T i))] := by simp [lvs, List.range_succ]
theorem lvs_get {T : Nat → NB} {n i j : Nat} (h : j < i) : (lvs T n i)[j]? = some (bvP (tab n (T j))) := by simp [lvs, h]
section
variable {n back : Nat} {W : List Int} (hb : back < n) (hn : n ≤ 1000) (hW : W.length = n) (hWb : ∀ j, j < n → 0 ≤ W.getD j 0 ∧ W.getD j 0 ≤ 4095)
include hb hn hW hWb
theorem L72_1 {x6 x7 x27 x28 x29 : DV} {s : Nat} {x : Nd} (hm : 0 ≤ x.n ∧ x.n ≤ 11) : ∀ (d i : Nat) (y : DV) (σ : Store), n - i = d → i ≤ n → σ[s]? = some (.mix (ndD x)) → Out σ 0 1 i (eBools ((tab n fun j => bit (W.getD j 0) x.n).take i)) y →
    ∃ y' σ', f72_L1 guardT 0 (.p (eSl (some W))) x6 x7 (.ptr s 0) y x27 x28 x29 (.p (eSl (some W))) (N n) (N i) σ = f72_L1 guardT 0 (.p (eSl (some W))) x6 x7 (.ptr s 0) y' x27 x28 x29 (.p (eSl (some W))) (N n) (N n) σ' ∧
      Out σ' 0 1 n (eBools (tab n fun j => bit (W.getD j 0) x.n)) y' ∧ ∀ (r : Nat) (row : Row), σ[r]? = some row → Away y r → σ'[r]? = some row
  | 0, i, y, σ, hd, hi, gs, ho => by
    have e : i = n := by omega
    subst e
    rw [List.take_of_length_le (by rw [tab_len]; exact Nat.le_refl _)] at ho
    exact ⟨y, σ, rfl, ho, fun r row h _ => h⟩
  | d + 1, i, y, σ, hd, hi, gs, ho => by
    have hlt : i < n := by omega
    obtain ⟨w0, w1⟩ := hWb i hlt
    have i1 := (PL.some W).idx (i := i) (by omega)
    have l1 := load1_getD (l := W) (i := i) (by omega) σ
    have gn := row_n gs
    have ew : W.getD i 0 = (((W.getD i 0).toNat : Nat) : Int) := by omega
    have em : x.n = ((x.n.toNat : Nat) : Int) := by omega
    have sh := shrN (a := (W.getD i 0).toNat) (m := x.n.toNat) (by omega) 3
    rw [← ew, ← em] at sh
    have hle : (W.getD i 0).toNat / 2 ^ x.n.toNat ≤ (W.getD i 0).toNat := Nat.div_le_self _ _
    have an := andN1 ((W.getD i 0).toNat / 2 ^ x.n.toNat) (by omega) 3
    have hbit := bit_dec (x := W.getD i 0) (m := x.n)
    obtain ⟨y1, σ1, p1, p2, p3, p4, p5⟩ := Out.push34x (v := .bool (bit (W.getD i 0) x.n)) ho (by omega) (Nat.zero_le _)
    have et : eBools ((tab n fun j => bit (W.getD j 0) x.n).take i) ++ [.bool (bit (W.getD i 0) x.n)] = eBools ((tab n fun j => bit (W.getD j 0) x.n).take (i + 1)) := by
      have hl : i < (tab n fun j => bit (W.getD j 0) x.n).length := by rw [tab_len]; exact hlt
      have hg := tab_get hlt (g := fun j => bit (W.getD j 0) x.n) false
      rw [List.getD_eq_getElem?_getD, List.getElem?_eq_getElem hl] at hg
      rw [List.take_succ_eq_append_getElem hl]
      simp only [eBools, List.map_append, List.map_cons, List.map_nil]
      congr 3
      exact hg.symm
    rw [et] at p2
    obtain ⟨y', σ', r1, r2, r3⟩ := L72_1 hm d (i + 1) y1 σ1 (by omega) (by omega) (p3.mix ho gs (fun v h => by cases h)) p2
    refine ⟨y', σ', ?_, r2, fun r row h ha => r3 r row (p3 r row h ha) (p5 r (get_lt h) ha)⟩
    rw [← r1, f72_L1_eq guardT rfl]
    simp (disch := omega) only [N, b_lss, ltT, gG, i1, load3, l1, fa67_1, shift_ptr, shift_pptr, Nat.zero_add, Nat.add_zero, pureFn_fn, List.append_nil, List.singleton_append, List.cons_append, List.nil_append, gn, sh, an, b_eql, hbit, bs34_1, p1, add1]
theorem J72 {x27 x28 y x10 x11 : DV} {s i : Nat} {x : Nd} {σ : Store} {cs : List PV} {a b : NB} (hi : i ≤ 1000) (hk : inR x.k 0 9 = true) (hbad : bad x = false) (hab : ar x.k ≠ 0 → x10 = BV (tab n a) ∧ x11 = BV (tab n b))
    (gs : σ[s]? = some (.mix (ndD x))) (g0 : σ[0]? = some (.mix (rgD n back))) (ho : Out σ 0 1 i cs y)
    (x30 x31 x32 x33 x34 x35 x36 x37 x38 x39 x40 x41 x42 x43 x44 x45 x46 x47 x48 x49 x50 x51 x52 x53 x54 : DV) :
    ∃ y' σ', f72_J0 guardT 0 (.p (eSl (some W))) (.ptr 0 0) y (.ptr s 0) x10 x11 x27 x28 (N i) x30 x31 x32 x33 x34 x35 x36 x37 x38 x39 x40 x41 x42 x43 x44 x45 x46 x47 x48 x49 x50 x51 x52 x53 x54 σ = f72_L0 guardT 0 (.p (eSl (some W))) (.ptr 0 0) y' x27 x28 (N (i + 1)) σ' ∧
      σ'[0]? = some (.mix (rgD n back)) ∧ Out σ' 0 1 (i + 1) (cs ++ [bvP (tab n (tk n back W x.k x.n a b))]) y' := by
  rw [inR_iff] at hk
  have h0 : 0 < n := by omega
  have gk := row_k gs
  have fin : ∀ l : List Bool, ∃ y' σ', (∃ z, z = l ∧ append PP 0 false 162 162 y (.p (.sl true 1 [bvP l])) σ = some (y', σ')) ∧ σ'[0]? = some (.mix (rgD n back)) ∧ Out σ' 0 1 (i + 1) (cs ++ [bvP l]) y' := fun l => by
    obtain ⟨y', σ', p1, p2, p3, _⟩ := Out.push162 (v := bvP l) ho (by omega) (Nat.zero_le _)
    exact ⟨y', σ', ⟨l, rfl, p1⟩, p3.mix ho g0 (fun v h => by cases h), p2⟩
  obtain ⟨y', σ', ⟨_, _, p1⟩, p2, p3⟩ := fin (tab n (tk n back W x.k x.n a b))
  rw [f72_J0_eq]
  have hcase : x.k = 0 ∨ x.k = 1 ∨ x.k = 2 ∨ x.k = 3 ∨ x.k = 4 ∨ x.k = 5 ∨ x.k = 6 ∨ x.k = 7 ∨ x.k = 8 ∨ x.k = 9 := by omega
  rcases hcase with e | e | e | e | e | e | e | e | e | e
  · rw [e] at p1 gk
    have et : tab n (tk n back W 0 x.n a b) = List.replicate n true := (rep_tab n true).symm
    rw [et] at p1
    refine ⟨y', σ', ?_, p2, p3⟩
    simp (disch := omega) only [fa67_0, fa135_0, shift_ptr, shift_pptr, Nat.zero_add, Nat.add_zero, pureFn_fn, List.append_nil, List.singleton_append, List.cons_append, List.nil_append, gG, load3, gk, b_eql, eqT (rfl : (0 : Int) = 0), bs34_1, rr_0 g0, S123 h0 hn, bs162, p1, N, add1]
  · rw [e] at gk
    have hm : 0 ≤ x.n ∧ x.n ≤ 11 := by
      unfold bad at hbad
      rw [if_pos e, Bool.not_eq_false', inR_iff] at hbad
      exact hbad
    obtain ⟨z, σz, q1, q2, q3⟩ := L72_1 hb hn hW hWb (x6 := .ptr 0 0) (x7 := y) (x27 := x27) (x28 := x28) (x29 := N i) hm _ 0 (.p .nilsl) σ rfl (Nat.zero_le _) gs Out.zero
    have hall : ∀ (r : Nat) (row : Row), σ[r]? = some row → σz[r]? = some row := fun r row h => q3 r row h (fun _ _ _ _ _ e => by cases e)
    have ho2 : Out σz 0 1 i cs y := ho.keep fun r v h => hall _ _ h
    have g02 := hall _ _ g0
    obtain ⟨y2, σ2, p4, p5, p6, _⟩ := Out.push162 (v := bvP (tab n (tk n back W x.k x.n a b))) ho2 (by omega) (Nat.zero_le _)
    refine ⟨y2, σ2, ?_, p6.mix ho2 g02 (fun v h => by cases h), p5⟩
    have hz : ∃ r v, z = .osl r v 1 n (eBools (tab n fun j => bit (W.getD j 0) x.n)) := by
      rcases q2.2 with ⟨h, _⟩ | ⟨_, r, v, h, _, _⟩
      · omega
      · exact ⟨r, v, h⟩
    obtain ⟨rz, vz, rfl⟩ := hz
    have et : bvP (tab n (tk n back W x.k x.n a b)) = .sl false n (eBools (tab n fun j => bit (W.getD j 0) x.n)) := by
      rw [e]
      show PV.sl false (tab n _).length _ = _
      rw [tab_len]
      rfl
    rw [et] at p4
    have hlenW : len PP 24 (.p (eSl (some W))) σ = some (N n) := by rw [(PL.some W).len, hW]; rfl
    have hq : f72_L1 guardT 0 (.p (eSl (some W))) (.ptr 0 0) y (.ptr s 0) (.osl rz vz 1 n (eBools (tab n fun j => bit (W.getD j 0) x.n))) x27 x28 (N i) (.p (eSl (some W))) (N n) (N n) σz = f72_L0 guardT 0 (.p (eSl (some W))) (.ptr 0 0) y2 x27 x28 (N (i + 1)) σ2 := by
      rw [f72_L1_eq guardT rfl]
      simp (disch := omega) only [N, b_lss, ltF, gG, bs162_o, p4, add1]
    rw [← hq, ← q1]
    simp (disch := omega) only [fa67_0, shift_ptr, shift_pptr, Nat.zero_add, Nat.add_zero, pureFn_fn, List.append_nil, List.singleton_append, List.cons_append, List.nil_append, gG, load3, gk, b_eql, Int.reduceEq, hlenW, eqT (rfl : (1 : Int) = 1)]
    rfl
  · rw [e] at p1 gk
    obtain ⟨rfl, rfl⟩ := hab (by rw [e]; decide)
    refine ⟨y', σ', ?_, p2, p3⟩
    have p1' : append PP 0 false 162 162 y (.p (.sl true 1 [bvP (tab n fun j => !a j)])) σ = some (y', σ') := p1
    simp (disch := omega) only [fa67_0, shift_ptr, shift_pptr, Nat.zero_add, Nat.add_zero, pureFn_fn, List.append_nil, List.singleton_append, List.cons_append, List.nil_append, gG, load3, gk, b_eql, Int.reduceEq, S124 h0 hn, bs162, p1', N, add1]
  · rw [e] at p1 gk
    obtain ⟨rfl, rfl⟩ := hab (by rw [e]; decide)
    refine ⟨y', σ', ?_, p2, p3⟩
    have p1' : append PP 0 false 162 162 y (.p (.sl true 1 [bvP (tab n fun j => and (a j) (b j))])) σ = some (y', σ') := p1
    simp (disch := omega) only [fa67_0, shift_ptr, shift_pptr, Nat.zero_add, Nat.add_zero, pureFn_fn, List.append_nil, List.singleton_append, List.cons_append, List.nil_append, gG, load3, gk, b_eql, Int.reduceEq, S125 fn126 h0 hn, bs162, p1', N, add1]
  · rw [e] at p1 gk
    obtain ⟨rfl, rfl⟩ := hab (by rw [e]; decide)
    refine ⟨y', σ', ?_, p2, p3⟩
    have p1' : append PP 0 false 162 162 y (.p (.sl true 1 [bvP (tab n fun j => or (a j) (b j))])) σ = some (y', σ') := p1
    simp (disch := omega) only [fa67_0, shift_ptr, shift_pptr, Nat.zero_add, Nat.add_zero, pureFn_fn, List.append_nil, List.singleton_append, List.cons_append, List.nil_append, gG, load3, gk, b_eql, Int.reduceEq, S125 fn127 h0 hn, bs162, p1', N, add1]
  · rw [e] at p1 gk
    obtain ⟨rfl, rfl⟩ := hab (by rw [e]; decide)
    refine ⟨y', σ', ?_, p2, p3⟩
    have p1' : append PP 0 false 162 162 y (.p (.sl true 1 [bvP (tab n fun j => !a j || b j)])) σ = some (y', σ') := p1
    simp (disch := omega) only [fa67_0, shift_ptr, shift_pptr, Nat.zero_add, Nat.add_zero, pureFn_fn, List.append_nil, List.singleton_append, List.cons_append, List.nil_append, gG, load3, gk, b_eql, Int.reduceEq, S125 fn128 h0 hn, bs162, p1', N, add1]
  · rw [e] at p1 gk
    obtain ⟨rfl, rfl⟩ := hab (by rw [e]; decide)
    refine ⟨y', σ', ?_, p2, p3⟩
    have p1' : append PP 0 false 162 162 y (.p (.sl true 1 [bvP (tab n fun i => !soP n back (fun j => !a j) i)])) σ = some (y', σ') := p1
    simp (disch := omega) only [fa67_0, shift_ptr, shift_pptr, Nat.zero_add, Nat.add_zero, pureFn_fn, List.append_nil, List.singleton_append, List.cons_append, List.nil_append, gG, load3, gk, b_eql, Int.reduceEq, load135, rr_all g0, T129 hb hn, bs162, p1', N, add1]
  · rw [e] at p1 gk
    obtain ⟨rfl, rfl⟩ := hab (by rw [e]; decide)
    refine ⟨y', σ', ?_, p2, p3⟩
    have p1' : append PP 0 false 162 162 y (.p (.sl true 1 [bvP (tab n (soP n back a))])) σ = some (y', σ') := p1
    simp (disch := omega) only [fa67_0, shift_ptr, shift_pptr, Nat.zero_add, Nat.add_zero, pureFn_fn, List.append_nil, List.singleton_append, List.cons_append, List.nil_append, gG, load3, gk, b_eql, Int.reduceEq, load135, rr_all g0, T130 hb hn, bs162, p1', N, add1]
  · rw [e] at p1 gk
    obtain ⟨rfl, rfl⟩ := hab (by rw [e]; decide)
    refine ⟨y', σ', ?_, p2, p3⟩
    have p1' : append PP 0 false 162 162 y (.p (.sl true 1 [bvP (tab n fun i => !soP n back (fun j => !(!a j || soP n back b j)) i)])) σ = some (y', σ') := p1
    simp (disch := omega) only [fa67_0, shift_ptr, shift_pptr, Nat.zero_add, Nat.add_zero, pureFn_fn, List.append_nil, List.singleton_append, List.cons_append, List.nil_append, gG, load3, gk, b_eql, Int.reduceEq, load135, rr_all g0, T130 hb hn, S125 fn128 h0 hn, T129 hb hn, bs162, p1', N, add1]
  · rw [e] at p1 gk
    obtain ⟨rfl, rfl⟩ := hab (by rw [e]; decide)
    refine ⟨y', σ', ?_, p2, p3⟩
    have p1' : append PP 0 false 162 162 y (.p (.sl true 1 [bvP (tab n (unP n back a b))])) σ = some (y', σ') := p1
    simp (disch := omega) only [fa67_0, shift_ptr, shift_pptr, Nat.zero_add, Nat.add_zero, pureFn_fn, List.append_nil, List.singleton_append, List.cons_append, List.nil_append, gG, load3, gk, b_eql, Int.reduceEq, load135, rr_all g0, T131 hb hn, bs162, p1', N, add1]
end
end Go.D
end
/- Chapter 13: TruthsOn and HoldsOn of the program. -/
section
set_option linter.unusedVariables false
set_option linter.unusedSimpArgs false
set_option maxRecDepth 8000
namespace Go.D
open Las
theorem oddB_ok {v : Int} (h : oddB v = false) : 0 ≤ v ∧ v ≤ 4095 := by
  unfold oddB at h
  rw [Bool.not_eq_false', inR_iff] at h
  exact h
theorem ar_zero {k : Int} (h : ar k = 0) : k = 0 ∨ k = 1 := by
  unfold ar at h
  by_cases c : k = 0 ∨ k = 1
  · exact c
  · rw [if_neg c] at h
    split at h <;> exact absurd h (by decide)
section
variable {n back : Nat} {W : List Int} (hb : back < n) (hn : n ≤ 1000) (hW : W.length = n) (hWb : ∀ j, j < n → 0 ≤ W.getD j 0 ∧ W.getD j 0 ≤ 4095) {f : Fm} (hf : FSm f) (hk : Ok (L f))
include hb hn hW hWb hf hk
theorem L72 : ∀ (d i : Nat) (y : DV) (σ : Store), (L f).length - i = d → i ≤ (L f).length → σ[0]? = some (.mix (rgD n back)) → Out σ 0 1 i (lvs (tv (tk n back W) (L f)) n i) y →
    ∃ σ', f72_L0 guardT 0 (.p (eSl (some W))) (.ptr 0 0) y (.p (eFm f)) (N (L f).length) (N i) σ = some (BV (tab n (tv (tk n back W) (L f) ((L f).length - 1))), σ')
  | 0, i, y, σ, hd, hi, g0, ho => by
    have hp := hk.pos
    have hle := hk.le
    have e : i = (L f).length := by omega
    subst e
    have i1 := ho.idx162 (j := (L f).length - 1) (by omega)
    have l1 := load1_pptr (lvs_get (T := tv (tk n back W) (L f)) (n := n) (i := (L f).length) (j := (L f).length - 1) (by omega)) σ
    have hl := ho.len162 σ
    refine ⟨σ, ?_⟩
    rw [f72_L0_eq guardT rfl]
    simp (disch := omega) only [N, b_lss, ltF, gG, hl, sub1, i1, load34, l1]
    rfl
  | d + 1, i, y, σ, hd, hi, g0, ho => by
    have hp := hk.pos
    have hle := hk.le
    have hlt : i < (L f).length := by omega
    have hg := hk.good i hlt
    have h3 := hf.2 i
    have ha : L ((L f).getD i default).a = nA (L f) i := rfl
    have hnd := nd_all hlt
    have hga := hg.a
    have hgk := hg.k
    have hgb := hg.b
    have hs0 := get_lt g0
    have key : ∀ a b : NB, tv (tk n back W) (L f) i = tk n back W ((L f).getD i default).k ((L f).getD i default).n a b →
        ∀ (y' : DV) (σ' : Store), σ'[0]? = some (.mix (rgD n back)) → Out σ' 0 1 (i + 1) (lvs (tv (tk n back W) (L f)) n i ++ [bvP (tab n (tk n back W ((L f).getD i default).k ((L f).getD i default).n a b))]) y' →
        ∃ σ'', f72_L0 guardT 0 (.p (eSl (some W))) (.ptr 0 0) y' (.p (eFm f)) (N (L f).length) (N (i + 1)) σ' = some (BV (tab n (tv (tk n back W) (L f) ((L f).length - 1))), σ'') := fun a b hab y' σ' g0' ho' => by
      rw [← hab, ← lvs_succ] at ho'
      exact L72 d (i + 1) y' σ' (by omega) (by omega) g0' ho'
    have hleaf : nA (L f) i = [] → ∀ a b : NB, tv (tk n back W) (L f) i = tk n back W ((L f).getD i default).k ((L f).getD i default).n a b := fun h0 a b => by
      rw [h0] at hga
      exact tv_leaf (ar_zero hga.symm) a b
    have hnode : nA (L f) i ≠ [] → tv (tk n back W) (L f) i = tk n back W ((L f).getD i default).k ((L f).getD i default).n (opA (tk n back W) (L f) i) (opB (tk n back W) (L f) i) := fun h0 => tv_eq hg h0
    have hargs := fun h0 => hg.args h0
    generalize hx : (L f).getD i default = x at *
    have st := st67 (σ := σ) (lo := 0) (z := [.p (pI 0), .p (pI 0), .p .nilsl]) x rfl (Nat.zero_le _)
    have g : (σ ++ [Row.mix (ndD x)])[σ.length]? = some (.mix (ndD x)) := get_snoc
    have g02 : (σ ++ [Row.mix (ndD x)])[0]? = some (.mix (rgD n back)) := get_old g0
    have ho2 : Out (σ ++ [Row.mix (ndD x)]) 0 1 i (lvs (tv (tk n back W) (L f)) n i) y := ho.keep fun r v hr => get_old hr
    by_cases h0 : nA (L f) i = []
    · have hz : ¬ (((nA (L f) i).length : Nat) : Int) > 0 := by rw [h0]; decide
      have har : ar x.k = 0 := by rw [← hga, h0]; rfl
      obtain ⟨y', σ', r1, r2, r3⟩ := J72 hb hn hW hWb (x27 := .p (eFm f)) (x28 := N (L f).length) (x10 := .p .nilsl) (x11 := .p .nilsl) (a := fun _ => false) (b := fun _ => false) (i := i) (by omega) hgk hgb (fun h => absurd har h) g g02 ho2
        (.p (.bool true)) (.pptr (eNds (L f)) (i * 3)) (.agg (ndD x)) (.ptr σ.length 2) (.p (eSl x.a)) (.p (.int .i64 ((nA (L f) i).length : Nat))) (.p (.bool false)) Z Z Z Z Z Z Z Z Z Z Z Z Z Z Z Z Z Z
      obtain ⟨σ'', r4⟩ := key _ _ (hleaf h0 _ _) y' σ' r2 r3
      refine ⟨σ'', ?_⟩
      rw [← r4, ← r1, f72_L0_eq guardT rfl]
      simp (disch := omega) only [N, b_lss, ltT, gG, idx23 hlt, load67, hnd, zero67, st, fa67_2, shift_ptr, shift_pptr, Nat.zero_add, Nat.add_zero, pureFn_fn, List.append_nil, List.singleton_append, List.cons_append, List.nil_append, load24, row_a g, (PL.sl _).len, ha, b_gtr, gtF hz]
    · obtain ⟨a1, a2, a3, a4⟩ := hargs h0
      have hpa := List.length_pos_iff.2 h0
      have hz : (((nA (L f) i).length : Nat) : Int) > 0 := by omega
      have i1 := (PL.sl x.a).idx (i := 0) (by rw [ha]; exact hpa)
      have i2 := (PL.sl x.a).idx (i := (nA (L f) i).length - 1) (by rw [ha]; omega)
      have l1 := load1_getD (l := nA (L f) i) hpa (σ ++ [Row.mix (ndD x)])
      have l2 := load1_getD (l := nA (L f) i) (i := (nA (L f) i).length - 1) (by omega) (σ ++ [Row.mix (ndD x)])
      have z0 : (.p (.int .i64 ((0 : Nat) : Int)) : DV) = .p (.int .i64 0) := rfl
      rw [z0, ha] at i1
      rw [ha] at i2
      have j1 := ho2.idx162 (j := ((nA (L f) i).getD 0 0).toNat) (by omega)
      have j2 := ho2.idx162 (j := ((nA (L f) i).getD ((nA (L f) i).length - 1) 0).toNat) (by omega)
      rw [Int.toNat_of_nonneg a2] at j1
      rw [Int.toNat_of_nonneg (by omega)] at j2
      have m1 := load1_pptr (lvs_get (T := tv (tk n back W) (L f)) (n := n) (i := i) (j := ((nA (L f) i).getD 0 0).toNat) (by omega)) (σ ++ [Row.mix (ndD x)])
      have m2 := load1_pptr (lvs_get (T := tv (tk n back W) (L f)) (n := n) (i := i) (j := ((nA (L f) i).getD ((nA (L f) i).length - 1) 0).toNat) (by omega)) (σ ++ [Row.mix (ndD x)])
      obtain ⟨y', σ', r1, r2, r3⟩ := J72 hb hn hW hWb (x27 := .p (eFm f)) (x28 := N (L f).length) (x10 := BV (tab n (opA (tk n back W) (L f) i))) (x11 := BV (tab n (opB (tk n back W) (L f) i))) (a := opA (tk n back W) (L f) i) (b := opB (tk n back W) (L f) i) (i := i) (by omega) hgk hgb (fun _ => ⟨rfl, rfl⟩) g g02 ho2
        (.p (.bool true)) (.pptr (eNds (L f)) (i * 3)) (.agg (ndD x)) (.ptr σ.length 2) (.p (eSl x.a)) (.p (.int .i64 ((nA (L f) i).length : Nat))) (.p (.bool true)) y (.ptr σ.length 2) (.p (eSl x.a)) (.pptr (eInts (nA (L f) i)) 0) (.p (.int .i64 ((nA (L f) i).getD 0 0))) (.pptr (lvs (tv (tk n back W) (L f)) n i) ((nA (L f) i).getD 0 0).toNat) (BV (tab n (opA (tk n back W) (L f) i)))
        y (.ptr σ.length 2) (.p (eSl x.a)) (.ptr σ.length 2) (.p (eSl x.a)) (.p (.int .i64 ((nA (L f) i).length : Nat))) (.p (.int .i64 (((nA (L f) i).length - 1 : Nat)))) (.pptr (eInts (nA (L f) i)) ((nA (L f) i).length - 1)) (.p (.int .i64 ((nA (L f) i).getD ((nA (L f) i).length - 1) 0))) (.pptr (lvs (tv (tk n back W) (L f)) n i) ((nA (L f) i).getD ((nA (L f) i).length - 1) 0).toNat) (BV (tab n (opB (tk n back W) (L f) i)))
      obtain ⟨σ'', r4⟩ := key _ _ (hnode h0) y' σ' r2 r3
      refine ⟨σ'', ?_⟩
      rw [← r4, ← r1, f72_L0_eq guardT rfl]
      simp (disch := omega) only [N, b_lss, ltT, gG, idx23 hlt, load67, hnd, zero67, st, fa67_2, shift_ptr, shift_pptr, Nat.zero_add, Nat.add_zero, pureFn_fn, List.append_nil, List.singleton_append, List.cons_append, List.nil_append, load24, row_a g, (PL.sl _).len, ha, b_gtr, gtT hz, i1, load3, l1, j1, load34, m1, sub1, i2, l2, j2, m2]
      rfl
end
end Go.D
end
/- Chapter 13: TruthsOn and HoldsOn of the program; the errors of both. -/
section
set_option linter.unusedVariables false
set_option linter.unusedSimpArgs false
set_option maxRecDepth 8000
namespace Go.D
open Las
theorem kx0' (a b : DV) : extractV (.tuple [a, b]) 0 = some a := rfl
theorem kx1' (a b : DV) : extractV (.tuple [a, b]) 1 = some b := rfl
structure WOk (P Q : List Int) : Prop where
  ne : 0 < Q.length
  le : P.length + Q.length ≤ 60
  rng : ∀ j, j < P.length + Q.length → 0 ≤ (P ++ Q).getD j 0 ∧ (P ++ Q).getD j 0 ≤ 4095
theorem wErr_ok {P Q : List Int} (h : wErr P Q = 0) : WOk P Q := by
  obtain ⟨h1, h2, h3, h4⟩ := wErr_zero h
  refine ⟨List.length_pos_iff.2 h1, h2, fun j hj => ?_⟩
  have hl : j < (P ++ Q).length := by rw [List.length_append]; exact hj
  have hm : (P ++ Q).getD j 0 ∈ P ++ Q := by
    rw [List.getD_eq_getElem?_getD, List.getElem?_eq_getElem hl]
    exact List.getElem_mem hl
  rcases List.mem_append.1 hm with hm | hm
  · exact oddB_ok (h3 _ hm)
  · exact oddB_ok (h4 _ hm)
def says (F : List Nd) (P Q : List Int) : List Bool := tab (P.length + Q.length) (tv (tk (P.length + Q.length) P.length (P ++ Q)) F (F.length - 1))
theorem says_len (F : List Nd) (P Q : List Int) : (says F P Q).length = P.length + Q.length := tab_len _ _
def bErr (F : List Nd) (P Q : List Int) : Int := if (chk F).2 = 0 then wErr P Q else (chk F).2
theorem bErr_or (F : List Nd) (P Q : List Int) : orL [(chk F).2, wErr P Q] = bErr F P Q := by
  unfold orL bErr
  by_cases h : (chk F).2 = 0
  · rw [if_neg (fun h' => h' h), if_pos h]
    unfold orL
    by_cases h2 : wErr P Q = 0
    · rw [if_neg (fun h' => h' h2), h2]; rfl
    · rw [if_pos h2]
  · rw [if_pos h, if_neg h]
theorem bErr_zero {F : List Nd} {P Q : List Int} (h : bErr F P Q = 0) : (chk F).2 = 0 ∧ wErr P Q = 0 := by
  unfold bErr at h
  by_cases c : (chk F).2 = 0
  · rw [if_pos c] at h; exact ⟨c, h⟩
  · rw [if_neg c] at h; exact absurd h c
section
variable {f : Fm} {w : Wd} (hf : FSm f)
include hf
theorem S72 (hk : Ok (L f)) (hw : WOk (L w.p) (L w.l)) (σ : Store) : pureV CC 72 [.p (eFm f), vWd w] σ = some (BV (says (L f) (L w.p) (L w.l))) := by
  have h1 := hw.ne
  have h2 := hw.le
  have hl : (L w.p ++ L w.l).length = (L w.p).length + (L w.l).length := List.length_append
  obtain ⟨σ', h⟩ := L72 (n := (L w.p).length + (L w.l).length) (back := (L w.p).length) (W := L w.p ++ L w.l) (by omega) (by omega) hl hw.rng hf hk _ 0 (.p .nilsl) [.mix (rgD ((L w.p).length + (L w.l).length) (L w.p).length)] rfl (Nat.zero_le _) rfl Out.zero
  refine pureV_free (by simp [wd_view, fm_view]) rfl (F72_call (r := (BV (says (L f) (L w.p) (L w.l)), σ')) ?_) (by simp [thawAll, thawPart, thaw, thaw1, thawP, BV, loosen, loosens_bools])
  have b := b135 ((L w.p).length + (L w.l).length) (L w.p).length
  have st := st135 ((L w.p).length + (L w.l).length) (L w.p).length
  have lW := (PL.some (L w.p ++ L w.l)).len []
  rw [hl] at lW
  simp only [N] at b
  rw [F72_eq]
  simp only [box_wd, gG, fa26_0, fa26_1, shift_ptr, shift_pptr, Nat.zero_add, Nat.add_zero, pureFn_fn, List.append_nil, List.singleton_append, List.cons_append, List.nil_append, load24, wd_0, wd_1, bs130_2, S84p (show 0 < (L w.p).length + (L w.l).length by omega) (show (L w.p).length + (L w.l).length ≤ 10000 by omega), lW, (PL.sl w.p).len, b, zero135, List.length_nil, st, len23]
  exact h
def tOn (F : List Nd) (P Q : List Int) : DV := if bErr F P Q = 0 then .tuple [BV (says F P Q), .p (.int .i64 0)] else .tuple [.p .nilsl, .p (.int .i64 (bErr F P Q))]
theorem S18 (hp : (L w.p).length ≤ 1000) (hl : (L w.l).length ≤ 1000) (σ : Store) : pureV CC 18 [.p (eFm f), vWd w] σ = some (tOn (L f) (L w.p) (L w.l)) := by
  have q2 : ∀ (σ : Store), pureV CC 66 [.p (.sl true 2 [pI (chk (L f)).2, pI (wErr (L w.p) (L w.l))])] σ = some (.p (.int .i64 (bErr (L f) (L w.p) (L w.l)))) := fun σ => by
    rw [← bErr_or]; exact S66 (ex := true) (l := [(chk (L f)).2, wErr (L w.p) (L w.l)]) (by simp) σ
  refine pureV_free (by simp [wd_view, fm_view]) rfl (F18_call (r := (tOn (L f) (L w.p) (L w.l), [])) ?_) ?_
  · rw [F18_eq]
    unfold tOn
    by_cases h : bErr (L f) (L w.p) (L w.l) = 0
    · obtain ⟨h1, h2⟩ := bErr_zero h
      have hw := wErr_ok h2
      have hne := hw.ne
      have hle := hw.le
      have hsl := says_len (L f) (L w.p) (L w.l)
      rw [if_pos h]
      simp only [box_wd, gG, shift_ptr, shift_pptr, Nat.zero_add, Nat.add_zero, pureFn_fn, List.append_nil, List.singleton_append, List.cons_append, List.nil_append, S70 hf, load26, wd_all, S15 hp hl, bs160_2, q2, b_neq, eqT h, S72 hf (chk_ok h1) hw, S71 (ne_len hsl (by omega)) (by rw [hsl]; omega)]
    · rw [if_neg h]
      simp only [box_wd, gG, shift_ptr, shift_pptr, Nat.zero_add, Nat.add_zero, pureFn_fn, List.append_nil, List.singleton_append, List.cons_append, List.nil_append, S70 hf, load26, wd_all, S15 hp hl, bs160_2, q2, b_neq, eqF h]
  · unfold tOn
    by_cases h : bErr (L f) (L w.p) (L w.l) = 0
    · rw [if_pos h]
      simp [thawAll, thawPart, thaw, thaw1, thawP, BV, loosen, loosens_bools, mapO]
    · rw [if_neg h]
      simp [thawAll, thawPart, thaw, thaw1, thawP, loosen, mapO]
def hOn (F : List Nd) (P Q : List Int) : DV := .tuple [.p (.bool (decide (bErr F P Q = 0) && (says F P Q).getD 0 false)), .p (.int .i64 (bErr F P Q))]
theorem S20 (hp : (L w.p).length ≤ 1000) (hl : (L w.l).length ≤ 1000) (σ : Store) : pureV CC 20 [.p (eFm f), vWd w] σ = some (hOn (L f) (L w.p) (L w.l)) := by
  have h18 := fun σ => S18 (w := w) hf hp hl σ
  unfold tOn at h18
  refine pureV_free (by simp [wd_view, fm_view]) rfl (F20_call (r := (hOn (L f) (L w.p) (L w.l), [])) ?_) rfl
  rw [F20_eq]
  unfold hOn
  by_cases h : bErr (L f) (L w.p) (L w.l) = 0
  · obtain ⟨h1, h2⟩ := bErr_zero h
    have hw := wErr_ok h2
    have hne := hw.ne
    have hsl := says_len (L f) (L w.p) (L w.l)
    have i0 := BV_idx (l := says (L f) (L w.p) (L w.l)) (i := 0) (by omega)
    have d0 := BV_ld (l := says (L f) (L w.p) (L w.l)) (i := 0) (by omega) []
    have z0 : (.p (.int .i64 ((0 : Nat) : Int)) : DV) = .p (.int .i64 0) := rfl
    rw [z0] at i0
    simp only [if_pos h] at h18
    simp only [box_wd, gG, shift_ptr, shift_pptr, Nat.zero_add, Nat.add_zero, pureFn_fn, List.append_nil, List.singleton_append, List.cons_append, List.nil_append, load26, wd_all, h18, kx0', kx1', b_eql, eqT (rfl : (0 : Int) = 0), i0, load4, d0, h, Bool.true_and]
  · simp only [if_neg h] at h18
    simp only [box_wd, gG, shift_ptr, shift_pptr, Nat.zero_add, Nat.add_zero, pureFn_fn, List.append_nil, List.singleton_append, List.cons_append, List.nil_append, load26, wd_all, h18, kx0', kx1', b_eql, eqF h, Bool.false_and]
theorem S21 (hp : (L w.p).length ≤ 1000) (hl : (L w.l).length ≤ 1000) (σ : Store) : pureV CC 21 [.p (eFm f), vWd w] σ = some (.p (.int .i64 (bErr (L f) (L w.p) (L w.l)))) := by
  refine pureV_free (by simp [wd_view, fm_view]) rfl (F21_call (r := (.p (.int .i64 (bErr (L f) (L w.p) (L w.l))), [])) ?_) rfl
  rw [F21_eq]
  unfold bErr
  by_cases h : (chk (L f)).2 = 0
  · rw [if_pos h]
    simp only [box_wd, gG, shift_ptr, shift_pptr, Nat.zero_add, Nat.add_zero, pureFn_fn, List.append_nil, List.singleton_append, List.cons_append, List.nil_append, S25 hf, b_neq, eqT h, load26, wd_all, S17 hp hl]
  · rw [if_neg h]
    simp only [box_wd, gG, shift_ptr, shift_pptr, Nat.zero_add, Nat.add_zero, pureFn_fn, List.append_nil, List.singleton_append, List.cons_append, List.nil_append, S25 hf, b_neq, eqF h]
end
end Go.D
end
/- Chapter 13: truths of the reference. -/
section
set_option linter.unusedVariables false
set_option linter.unusedSimpArgs false
set_option maxRecDepth 8000
namespace Go.D
open Las
theorem S60 {x m : Int} (hx : 0 ≤ x ∧ x ≤ 4095) (hm : 0 ≤ m ∧ m ≤ 11) (σ : Store) : pureV CC 60 [.p (.int .i64 x), .p (.int .i64 m)] σ = some (.p (.bool (bit x m))) := by
  have ex : x = ((x.toNat : Nat) : Int) := by omega
  have em : m = ((m.toNat : Nat) : Int) := by omega
  have sh := shrN (a := x.toNat) (m := m.toNat) (by omega) 3
  rw [← ex, ← em] at sh
  have rm := remN (a := x.toNat / 2 ^ m.toNat) (b := 2) (by decide)
  have e2 : (.p (.int .i64 ((2 : Nat) : Int)) : DV) = .p (.int .i64 2) := rfl
  rw [e2] at rm
  refine pureV_free rfl rfl (F60_call (r := (.p (.bool (bit x m)), [])) ?_) rfl
  rw [F60_eq]
  simp only [sh, gG, rm, b_eql, bit_dec]
theorem b_eqB (a b : Bool) : binOp PP .eql 4 (.p (.bool a)) (.p (.bool b)) = some (.p (.bool (a == b))) := Eq.trans (by kernel_rfl) rfl
theorem b_neB (a b : Bool) : binOp PP .neq 4 (.p (.bool a)) (.p (.bool b)) = some (.p (.bool (a != b))) := Eq.trans (by kernel_rfl) rfl
theorem pl_bd {n back t : Nat} (hb : back < n) : pl n back t < n := by
  by_cases h : t < n
  · rw [pl_lt h]; exact h
  · exact (pl_in hb (by omega)).2
theorem laR_congr {n back : Nat} {f g : NB} (hb : back < n) (h : ∀ j, j < n → f j = g j) : ∀ d t, laR n back f d t = laR n back g d t
  | 0, _ => rfl
  | d + 1, t => by unfold laR; rw [h _ (pl_bd hb), laR_congr hb h d]
theorem atW_app {P Q : List Int} {i : Nat} (h : i < P.length + Q.length) : atW P Q i = (P ++ Q).getD i 0 := by
  unfold atW
  by_cases h1 : i < P.length
  · rw [if_pos h1, List.getD_eq_getElem?_getD, List.getD_eq_getElem?_getD, List.getElem?_append_left h1]
  · rw [if_neg h1, Nat.mod_eq_of_lt (by omega), List.getD_eq_getElem?_getD, List.getD_eq_getElem?_getD, List.getElem?_append_right (by omega)]
section
variable {w : Wd} (hw : WOk (L w.p) (L w.l))
include hw
theorem S132 (σ : Store) : pureV CC 132 [vWd w] σ = some (N ((L w.p).length + (L w.l).length)) := by
  have hle := hw.le
  refine pureV_free (by simp [wd_view]) rfl (F132_call (r := (N ((L w.p).length + (L w.l).length), [])) ?_) rfl
  rw [F132_eq]
  simp (disch := omega) only [box_wd, gG, fa26_0, fa26_1, shift_ptr, shift_pptr, Nat.zero_add, Nat.add_zero, pureFn_fn, List.append_nil, List.singleton_append, List.cons_append, List.nil_append, load24, wd_0, wd_1, (PL.sl _).len, addN, N]
theorem S133 {t : Nat} (ht : t ≤ 1000) (σ : Store) : pureV CC 133 [vWd w, N t] σ = some (N (pl ((L w.p).length + (L w.l).length) (L w.p).length t)) := by
  have hle := hw.le
  have hne := hw.ne
  refine pureV_free (by simp only [List.map_cons, List.map_nil, wd_view]; rfl) rfl (F133_call (r := (N (pl ((L w.p).length + (L w.l).length) (L w.p).length t), [])) ?_) rfl
  rw [F133_eq]
  unfold pl
  rw [show (L w.p).length + (L w.l).length - (L w.p).length = (L w.l).length by omega]
  have hmod := Nat.mod_lt (t - (L w.p).length) hne
  by_cases h : t < (L w.p).length
  · rw [if_pos h]
    simp (disch := omega) only [box_wd, gG, fa26_0, shift_ptr, shift_pptr, Nat.zero_add, Nat.add_zero, pureFn_fn, List.append_nil, List.singleton_append, List.cons_append, List.nil_append, load24, wd_0, (PL.sl _).len, N, b_lss, ltT]
  · rw [if_neg h]
    simp (disch := omega) only [box_wd, gG, fa26_0, fa26_1, shift_ptr, shift_pptr, Nat.zero_add, Nat.add_zero, pureFn_fn, List.append_nil, List.singleton_append, List.cons_append, List.nil_append, load24, wd_0, wd_1, (PL.sl _).len, N, b_lss, ltF, subN, remN, addN]
theorem L73 {g : NB} {b : Bool} {i : Nat} (hi : i < (L w.p).length + (L w.l).length) : ∀ (d t : Nat), t + d = i + ((L w.p).length + (L w.l).length) →
    f73_L0 guardT 0 (N i) (BV (tab ((L w.p).length + (L w.l).length) g)) (.p (.bool b)) (.pptr (eWd w) 0) (N t) [] = some (.p (.bool (laR ((L w.p).length + (L w.l).length) (L w.p).length (fun j => g j == b) d t)), [])
  | 0, t, ht => by
    have hle := hw.le
    rw [f73_L0_eq guardT rfl]
    have h132 := S132 hw []
    simp only [N] at h132
    simp (disch := omega) only [N, load26, wd_all, gG, shift_ptr, shift_pptr, Nat.zero_add, Nat.add_zero, pureFn_fn, List.append_nil, List.singleton_append, List.cons_append, List.nil_append, h132, addN, b_lss, ltF, laR]
  | d + 1, t, ht => by
    have hle := hw.le
    have hne := hw.ne
    have hpl : pl ((L w.p).length + (L w.l).length) (L w.p).length t < (L w.p).length + (L w.l).length := pl_bd (by omega)
    have h132 := S132 hw []
    have h133 := S133 hw (t := t) (by omega) []
    have ix := BV_idx (l := tab ((L w.p).length + (L w.l).length) g) (i := pl ((L w.p).length + (L w.l).length) (L w.p).length t) (by rw [tab_len]; exact hpl)
    have ld := BV_ld (l := tab ((L w.p).length + (L w.l).length) g) (i := pl ((L w.p).length + (L w.l).length) (L w.p).length t) (by rw [tab_len]; exact hpl) []
    rw [tab_get hpl] at ld
    have ih := L73 (g := g) (b := b) hi d (t + 1) (by omega)
    simp only [N] at h132 h133 ih
    rw [f73_L0_eq guardT rfl]
    unfold laR
    cases hg : (g (pl ((L w.p).length + (L w.l).length) (L w.p).length t) == b) with
    | true =>
      simp (disch := omega) only [N, load26, wd_all, gG, shift_ptr, shift_pptr, Nat.zero_add, Nat.add_zero, pureFn_fn, List.append_nil, List.singleton_append, List.cons_append, List.nil_append, h132, addN, b_lss, ltT, h133, ix, load4, ld, b_eqB, hg, if_true]
    | false =>
      simp (disch := omega) only [N, load26, wd_all, gG, shift_ptr, shift_pptr, Nat.zero_add, Nat.add_zero, pureFn_fn, List.append_nil, List.singleton_append, List.cons_append, List.nil_append, h132, addN, b_lss, ltT, h133, ix, load4, ld, b_eqB, hg, add1, ih, Bool.false_eq_true, if_false]
theorem S73 {g : NB} {b : Bool} {i : Nat} (hi : i < (L w.p).length + (L w.l).length) (σ : Store) :
    pureV CC 73 [vWd w, N i, BV (tab ((L w.p).length + (L w.l).length) g), .p (.bool b)] σ = some (.p (.bool (laR ((L w.p).length + (L w.l).length) (L w.p).length (fun j => g j == b) ((L w.p).length + (L w.l).length) i))) := by
  refine pureV_free (by simp only [List.map_cons, List.map_nil, wd_view, BV_view]; rfl) rfl (F73_call (r := (.p (.bool (laR ((L w.p).length + (L w.l).length) (L w.p).length (fun j => g j == b) ((L w.p).length + (L w.l).length) i)), [])) ?_) rfl
  rw [F73_eq]
  simp only [box_wd, gG]
  exact L73 hw hi _ i rfl
end
def prP (a b : List Bool) : List PV := [bvP a, bvP b]
theorem box_pr (a b : List Bool) : boxP (.agg [BV a, BV b]) = some (.pptr (prP a b) 0) := rfl
theorem pr_view (a b : List Bool) : view (.agg [BV a, BV b]) = .agg [BV a, BV b] := by simp [BV, view, viewCell, loosen, loosens_bools]
theorem fa115_0 (x : DV) : fieldAddr PP 115 x 0 = shiftPtr x 0 := Eq.trans (by kernel_rfl) rfl
theorem fa115_1 (x : DV) : fieldAddr PP 115 x 1 = shiftPtr x 1 := Eq.trans (by kernel_rfl) rfl
theorem pr_0 (a b : List Bool) (σ : Store) : load1 (.pptr (prP a b) 0) σ = some (BV a) := load1_pptr rfl σ
theorem pr_1 (a b : List Bool) (σ : Store) : load1 (.pptr (prP a b) 1) σ = some (BV b) := load1_pptr rfl σ
theorem b115 (a b : List Bool) : build PP 115 [(0, BV a), (1, BV b)] = some (.agg [BV a, BV b]) := Eq.trans (by kernel_rfl) rfl
section
variable {w : Wd} (hw : WOk (L w.p) (L w.l)) {a b : NB} {i : Nat} (hi : i < (L w.p).length + (L w.l).length)
include hw hi
theorem L74 : ∀ (d t : Nat), t + d = i + ((L w.p).length + (L w.l).length) →
    f74_L0 guardT 0 (N i) (.pptr (eWd w) 0) (.pptr (prP (tab ((L w.p).length + (L w.l).length) a) (tab ((L w.p).length + (L w.l).length) b)) 0) (N t) [] =
      some (.p (.bool (leR ((L w.p).length + (L w.l).length) (L w.p).length a (fun j => laR ((L w.p).length + (L w.l).length) (L w.p).length (fun j => b j == true) ((L w.p).length + (L w.l).length) j) d t)), [])
  | 0, t, ht => by
    have hle := hw.le
    rw [f74_L0_eq guardT rfl]
    have h132 := S132 hw []
    simp only [N] at h132
    simp (disch := omega) only [N, load26, wd_all, gG, shift_ptr, shift_pptr, Nat.zero_add, Nat.add_zero, pureFn_fn, List.append_nil, List.singleton_append, List.cons_append, List.nil_append, h132, addN, b_lss, ltF, leR]
  | d + 1, t, ht => by
    have hle := hw.le
    have hne := hw.ne
    have hpl : pl ((L w.p).length + (L w.l).length) (L w.p).length t < (L w.p).length + (L w.l).length := pl_bd (by omega)
    have h132 := S132 hw []
    have h133 := S133 hw (t := t) (by omega) []
    have ix := BV_idx (l := tab ((L w.p).length + (L w.l).length) a) (i := pl ((L w.p).length + (L w.l).length) (L w.p).length t) (by rw [tab_len]; exact hpl)
    have ld := BV_ld (l := tab ((L w.p).length + (L w.l).length) a) (i := pl ((L w.p).length + (L w.l).length) (L w.p).length t) (by rw [tab_len]; exact hpl) []
    rw [tab_get hpl] at ld
    have h73 := S73 hw (g := b) (b := true) hpl []
    have ih := L74 d (t + 1) (by omega)
    simp only [N] at h132 h133 ih h73
    rw [f74_L0_eq guardT rfl]
    unfold leR
    cases hg : a (pl ((L w.p).length + (L w.l).length) (L w.p).length t) with
    | false =>
      rw [hg] at ld
      simp (disch := omega) only [N, load26, wd_all, gG, shift_ptr, shift_pptr, Nat.zero_add, Nat.add_zero, pureFn_fn, List.append_nil, List.singleton_append, List.cons_append, List.nil_append, h132, addN, b_lss, ltT, fa115_0, load34, pr_0, h133, ix, load4, ld, add1, ih, Bool.false_and, Bool.false_eq_true, if_false]
    | true =>
      rw [hg] at ld
      cases hq : laR ((L w.p).length + (L w.l).length) (L w.p).length (fun j => b j == true) ((L w.p).length + (L w.l).length) (pl ((L w.p).length + (L w.l).length) (L w.p).length t) with
      | true =>
        rw [hq] at h73
        simp (disch := omega) only [N, load26, wd_all, gG, shift_ptr, shift_pptr, Nat.zero_add, Nat.add_zero, pureFn_fn, List.append_nil, List.singleton_append, List.cons_append, List.nil_append, h132, addN, b_lss, ltT, fa115_0, fa115_1, load34, pr_0, pr_1, h133, ix, load4, ld, h73, add1, ih, Bool.and_false, Bool.false_eq_true, if_false]
      | false =>
        rw [hq] at h73
        simp (disch := omega) only [N, load26, wd_all, gG, shift_ptr, shift_pptr, Nat.zero_add, Nat.add_zero, pureFn_fn, List.append_nil, List.singleton_append, List.cons_append, List.nil_append, h132, addN, b_lss, ltT, fa115_0, fa115_1, load34, pr_0, pr_1, h133, ix, load4, ld, h73, Bool.and_true, if_true]
theorem S74 (σ : Store) : pureV CC 74 [vWd w, N i, .agg [BV (tab ((L w.p).length + (L w.l).length) a), BV (tab ((L w.p).length + (L w.l).length) b)]] σ =
    some (.p (.bool (leR ((L w.p).length + (L w.l).length) (L w.p).length a (fun j => laR ((L w.p).length + (L w.l).length) (L w.p).length (fun j => b j == true) ((L w.p).length + (L w.l).length) j) ((L w.p).length + (L w.l).length) i))) := by
  refine pureV_free (by simp only [List.map_cons, List.map_nil, wd_view, pr_view]; rfl) rfl (F74_call (r := (.p (.bool _), [])) ?_) rfl
  rw [F74_eq]
  simp only [box_wd, gG, box_pr]
  exact L74 hw hi _ i rfl
theorem L75 : ∀ (d t : Nat), t + d = i + ((L w.p).length + (L w.l).length) →
    f75_L0 guardT 0 (N i) (.pptr (eWd w) 0) (.pptr (prP (tab ((L w.p).length + (L w.l).length) a) (tab ((L w.p).length + (L w.l).length) b)) 0) (N t) [] =
      some (.p (.bool (untR ((L w.p).length + (L w.l).length) (L w.p).length a b d t)), [])
  | 0, t, ht => by
    have hle := hw.le
    rw [f75_L0_eq guardT rfl]
    have h132 := S132 hw []
    simp only [N] at h132
    simp (disch := omega) only [N, load26, wd_all, gG, shift_ptr, shift_pptr, Nat.zero_add, Nat.add_zero, pureFn_fn, List.append_nil, List.singleton_append, List.cons_append, List.nil_append, h132, addN, b_lss, ltF, untR]
  | d + 1, t, ht => by
    have hle := hw.le
    have hne := hw.ne
    have hpl : pl ((L w.p).length + (L w.l).length) (L w.p).length t < (L w.p).length + (L w.l).length := pl_bd (by omega)
    have h132 := S132 hw []
    have h133 := S133 hw (t := t) (by omega) []
    have ix := fun g : NB => BV_idx (l := tab ((L w.p).length + (L w.l).length) g) (i := pl ((L w.p).length + (L w.l).length) (L w.p).length t) (by rw [tab_len]; exact hpl)
    have ld := BV_ld (l := tab ((L w.p).length + (L w.l).length) a) (i := pl ((L w.p).length + (L w.l).length) (L w.p).length t) (by rw [tab_len]; exact hpl) []
    have ldb := BV_ld (l := tab ((L w.p).length + (L w.l).length) b) (i := pl ((L w.p).length + (L w.l).length) (L w.p).length t) (by rw [tab_len]; exact hpl) []
    rw [tab_get hpl] at ld ldb
    have ih := L75 d (t + 1) (by omega)
    simp only [N] at h132 h133 ih
    rw [f75_L0_eq guardT rfl]
    unfold untR
    cases hg : b (pl ((L w.p).length + (L w.l).length) (L w.p).length t) with
    | true =>
      rw [hg] at ldb
      simp (disch := omega) only [N, load26, wd_all, gG, shift_ptr, shift_pptr, Nat.zero_add, Nat.add_zero, pureFn_fn, List.append_nil, List.singleton_append, List.cons_append, List.nil_append, h132, addN, b_lss, ltT, fa115_1, load34, pr_1, h133, ix, load4, ldb, if_true]
    | false =>
      rw [hg] at ldb
      cases hq : a (pl ((L w.p).length + (L w.l).length) (L w.p).length t) with
      | true =>
        rw [hq] at ld
        simp (disch := omega) only [N, load26, wd_all, gG, shift_ptr, shift_pptr, Nat.zero_add, Nat.add_zero, pureFn_fn, List.append_nil, List.singleton_append, List.cons_append, List.nil_append, h132, addN, b_lss, ltT, fa115_0, fa115_1, load34, pr_0, pr_1, h133, ix, load4, ldb, ld, add1, ih, Bool.false_eq_true, if_false, Bool.true_eq_false]
      | false =>
        rw [hq] at ld
        simp (disch := omega) only [N, load26, wd_all, gG, shift_ptr, shift_pptr, Nat.zero_add, Nat.add_zero, pureFn_fn, List.append_nil, List.singleton_append, List.cons_append, List.nil_append, h132, addN, b_lss, ltT, fa115_0, fa115_1, load34, pr_0, pr_1, h133, ix, load4, ldb, ld, Bool.false_eq_true, if_false, if_true]
theorem S75 (σ : Store) : pureV CC 75 [vWd w, N i, .agg [BV (tab ((L w.p).length + (L w.l).length) a), BV (tab ((L w.p).length + (L w.l).length) b)]] σ =
    some (.p (.bool (untR ((L w.p).length + (L w.l).length) (L w.p).length a b ((L w.p).length + (L w.l).length) i))) := by
  refine pureV_free (by simp only [List.map_cons, List.map_nil, wd_view, pr_view]; rfl) rfl (F75_call (r := (.p (.bool _), [])) ?_) rfl
  rw [F75_eq]
  simp only [box_wd, gG, box_pr]
  exact L75 hw hi _ i rfl
end
end Go.D
end
/- Chapter 13: truths of the reference, node by node. -/
section
set_option linter.unusedVariables false
set_option linter.unusedSimpArgs false
set_option maxRecDepth 8000
namespace Go.D
open Las
theorem ba_st {σ : Store} {r i lo : Nat} {A : List Bool} {v : Bool} (h : σ[r]? = some (.arr (eBools A))) (hi : i < A.length) (hlo : lo ≤ r) : store PP lo 4 (.ptr r i) (.p (.bool v)) σ = some (σ.set r (.arr (eBools (A.set i v)))) := by
  have e : splice (eBools A) i [PV.bool v] = eBools (A.set i v) := by
    have h1 : [PV.bool v] = eBools [v] := rfl
    rw [h1, spliceB, List.length_singleton, take_set_drop hi]
  have hb : i + 1 ≤ (eBools A).length := by rw [bools_length]; omega
  simp [store, s4, DV.cells, storeN, h, e, hb, pures, DV.pure?, hlo]
theorem ba_thaw {σ : Store} {r : Nat} {A : List Bool} (h : σ[r]? = some (.arr (eBools A))) : thawAll 0 σ (.rsl r 1 0 A.length) = some (BV A) := by
  have hb2 : 0 + A.length * 1 ≤ (eBools A).length := by rw [bools_length]; omega
  have ht : ((eBools A).drop 0).take (A.length * 1) = eBools A := by rw [List.drop_zero, Nat.mul_one, List.take_of_length_le (by rw [bools_length]; exact Nat.le_refl _)]
  simp only [thawAll, thawPart, thaw, thaw1, thawP, Nat.zero_le, if_pos, h, hb2, ht, loosens_bools, Option.map_some]
  rfl
section
variable {w : Wd} (hw : WOk (L w.p) (L w.l)) {x : Nd} (hk : inR x.k 0 9 = true) (hbad : bad x = false) {a b : NB} {x10 x11 : DV}
variable (h1 : ar x.k ≠ 0 → x10 = BV (tab ((L w.p).length + (L w.l).length) a)) (h2 : ar x.k = 2 → x11 = BV (tab ((L w.p).length + (L w.l).length) b))
include hw hk hbad h1 h2
theorem step22 {i : Nat} (hi : i < (L w.p).length + (L w.l).length) {σ : Store} (gs : σ[0]? = some (.mix (ndD x))) :
    f22_L0 guardT 0 (.pptr (eWd w) 0) (.ptr 0 0) (N ((L w.p).length + (L w.l).length)) (.rsl 1 1 0 ((L w.p).length + (L w.l).length)) x10 x11 (N i) σ =
      (store PP 0 4 (.ptr 1 i) (.p (.bool (tk ((L w.p).length + (L w.l).length) (L w.p).length (L w.p ++ L w.l) x.k x.n a b i))) σ).bind fun σ' =>
        f22_L0 guardT 0 (.pptr (eWd w) 0) (.ptr 0 0) (N ((L w.p).length + (L w.l).length)) (.rsl 1 1 0 ((L w.p).length + (L w.l).length)) x10 x11 (N (i + 1)) σ' := by
  have hle := hw.le
  have hne := hw.ne
  have hb : (L w.p).length < (L w.p).length + (L w.l).length := by omega
  have hrng := hw.rng i hi
  rw [inR_iff] at hk
  have gk := row_k gs
  have gn := row_n gs
  have ix := fun g : NB => BV_idx (l := tab ((L w.p).length + (L w.l).length) g) (i := i) (by rw [tab_len]; exact hi)
  have da := BV_ld (l := tab ((L w.p).length + (L w.l).length) a) (i := i) (by rw [tab_len]; exact hi) σ
  have db := BV_ld (l := tab ((L w.p).length + (L w.l).length) b) (i := i) (by rw [tab_len]; exact hi) σ
  rw [tab_get hi] at da db
  have hal := atW_app (P := L w.p) (Q := L w.l) hi
  rw [f22_L0_eq guardT rfl]
  have hcase : x.k = 0 ∨ x.k = 1 ∨ x.k = 2 ∨ x.k = 3 ∨ x.k = 4 ∨ x.k = 5 ∨ x.k = 6 ∨ x.k = 7 ∨ x.k = 8 ∨ x.k = 9 := by omega
  generalize hv : tk ((L w.p).length + (L w.l).length) (L w.p).length (L w.p ++ L w.l) x.k x.n a b i = v
  rcases hcase with e | e | e | e | e | e | e | e | e | e
  · rw [e] at hv gk
    have hv' : v = true := hv.symm
    subst hv'
    simp (disch := omega) only [N, b_lss, ltT, gG, fa67_0, shift_ptr, shift_pptr, Nat.zero_add, Nat.add_zero, pureFn_fn, List.append_nil, List.singleton_append, List.cons_append, List.nil_append, load3, gk, b_eql, Int.reduceEq, br_idx hi, add1, eqT (rfl : (0 : Int) = 0)]
  · rw [e] at hv gk
    have hm : 0 ≤ x.n ∧ x.n ≤ 11 := by
      unfold bad at hbad
      rw [if_pos e, Bool.not_eq_false', inR_iff] at hbad
      exact hbad
    have hv' : bit (atW (L w.p) (L w.l) i) x.n = v := by rw [hal]; exact hv
    rw [← hal] at hrng
    have h69 := S69 (w := w) hi (by omega) σ
    simp (disch := omega) only [N, b_lss, ltT, gG, fa67_0, fa67_1, shift_ptr, shift_pptr, Nat.zero_add, Nat.add_zero, pureFn_fn, List.append_nil, List.singleton_append, List.cons_append, List.nil_append, load3, gk, gn, b_eql, Int.reduceEq, load26, wd_all, h69, S60 hrng hm, hv', br_idx hi, add1]
  · rw [e] at hv gk
    obtain rfl := h1 (by rw [e]; decide)
    have hv' : (!a i) = v := hv
    simp (disch := omega) only [N, b_lss, ltT, gG, fa67_0, shift_ptr, shift_pptr, Nat.zero_add, Nat.add_zero, pureFn_fn, List.append_nil, List.singleton_append, List.cons_append, List.nil_append, load3, gk, b_eql, Int.reduceEq, ix, load4, da, hv', br_idx hi, add1]
  · rw [e] at hv gk
    obtain rfl := h1 (by rw [e]; decide)
    obtain rfl := h2 (by rw [e]; decide)
    have hv' : (a i && b i) = v := hv
    cases q : a i with
    | true =>
      rw [q] at da hv'
      rw [Bool.true_and] at hv'
      simp (disch := omega) only [N, b_lss, ltT, gG, fa67_0, shift_ptr, shift_pptr, Nat.zero_add, Nat.add_zero, pureFn_fn, List.append_nil, List.singleton_append, List.cons_append, List.nil_append, load3, gk, b_eql, Int.reduceEq, ix, load4, da, db, hv', br_idx hi, add1]
    | false =>
      rw [q] at da hv'
      rw [Bool.false_and] at hv'
      simp (disch := omega) only [N, b_lss, ltT, gG, fa67_0, shift_ptr, shift_pptr, Nat.zero_add, Nat.add_zero, pureFn_fn, List.append_nil, List.singleton_append, List.cons_append, List.nil_append, load3, gk, b_eql, Int.reduceEq, ix, load4, da, db, ← hv', br_idx hi, add1]
  · rw [e] at hv gk
    obtain rfl := h1 (by rw [e]; decide)
    obtain rfl := h2 (by rw [e]; decide)
    have hv' : (a i || b i) = v := hv
    cases q : a i with
    | false =>
      rw [q] at da hv'
      rw [Bool.false_or] at hv'
      simp (disch := omega) only [N, b_lss, ltT, gG, fa67_0, shift_ptr, shift_pptr, Nat.zero_add, Nat.add_zero, pureFn_fn, List.append_nil, List.singleton_append, List.cons_append, List.nil_append, load3, gk, b_eql, Int.reduceEq, ix, load4, da, db, hv', br_idx hi, add1]
    | true =>
      rw [q] at da hv'
      rw [Bool.true_or] at hv'
      simp (disch := omega) only [N, b_lss, ltT, gG, fa67_0, shift_ptr, shift_pptr, Nat.zero_add, Nat.add_zero, pureFn_fn, List.append_nil, List.singleton_append, List.cons_append, List.nil_append, load3, gk, b_eql, Int.reduceEq, ix, load4, da, db, ← hv', br_idx hi, add1]
  · rw [e] at hv gk
    obtain rfl := h1 (by rw [e]; decide)
    obtain rfl := h2 (by rw [e]; decide)
    have hv' : (!a i || b i) = v := hv
    cases q : a i with
    | true =>
      rw [q] at da hv'
      rw [Bool.not_true, Bool.false_or] at hv'
      simp (disch := omega) only [N, b_lss, ltT, gG, fa67_0, shift_ptr, shift_pptr, Nat.zero_add, Nat.add_zero, pureFn_fn, List.append_nil, List.singleton_append, List.cons_append, List.nil_append, load3, gk, b_eql, Int.reduceEq, ix, load4, da, db, hv', br_idx hi, add1]
    | false =>
      rw [q] at da hv'
      rw [Bool.not_false, Bool.true_or] at hv'
      simp (disch := omega) only [N, b_lss, ltT, gG, fa67_0, shift_ptr, shift_pptr, Nat.zero_add, Nat.add_zero, pureFn_fn, List.append_nil, List.singleton_append, List.cons_append, List.nil_append, load3, gk, b_eql, Int.reduceEq, ix, load4, da, db, ← hv', br_idx hi, add1]
  · rw [e] at hv gk
    obtain rfl := h1 (by rw [e]; decide)
    have hv' : (!laR ((L w.p).length + (L w.l).length) (L w.p).length (fun j => a j == false) ((L w.p).length + (L w.l).length) i) = v := by
      rw [← hv]
      show _ = !soP _ _ (fun j => !a j) i
      rw [← soP_ref hb hi, laR_congr hb (f := fun j => a j == false) (g := fun j => !a j) (fun j _ => by cases a j <;> rfl)]
    have h73 := S73 hw (g := a) (b := false) hi σ
    simp only [N] at h73
    simp (disch := omega) only [N, b_lss, ltT, gG, fa67_0, shift_ptr, shift_pptr, Nat.zero_add, Nat.add_zero, pureFn_fn, List.append_nil, List.singleton_append, List.cons_append, List.nil_append, load3, gk, b_eql, Int.reduceEq, load26, wd_all, h73, hv', br_idx hi, add1]
  · rw [e] at hv gk
    obtain rfl := h1 (by rw [e]; decide)
    have hv' : laR ((L w.p).length + (L w.l).length) (L w.p).length (fun j => a j == true) ((L w.p).length + (L w.l).length) i = v := by
      rw [← hv]
      show _ = soP _ _ a i
      rw [← soP_ref hb hi, laR_congr hb (f := fun j => a j == true) (g := a) (fun j _ => by cases a j <;> rfl)]
    have h73 := S73 hw (g := a) (b := true) hi σ
    simp only [N] at h73
    simp (disch := omega) only [N, b_lss, ltT, gG, fa67_0, shift_ptr, shift_pptr, Nat.zero_add, Nat.add_zero, pureFn_fn, List.append_nil, List.singleton_append, List.cons_append, List.nil_append, load3, gk, b_eql, Int.reduceEq, load26, wd_all, h73, hv', br_idx hi, add1]
  · rw [e] at hv gk
    obtain rfl := h1 (by rw [e]; decide)
    obtain rfl := h2 (by rw [e]; decide)
    have hv' : leR ((L w.p).length + (L w.l).length) (L w.p).length a (fun j => laR ((L w.p).length + (L w.l).length) (L w.p).length (fun j => b j == true) ((L w.p).length + (L w.l).length) j) ((L w.p).length + (L w.l).length) i = v := by
      rw [← hv]
      show _ = !soP _ _ (fun j => !(!a j || soP _ _ b j)) i
      rw [leR_la, ← soP_ref hb hi]
      congr 1
      refine laR_congr hb (fun j hj => ?_) _ _
      rw [laR_congr hb (f := fun j => b j == true) (g := b) (fun j _ => by cases b j <;> rfl), soP_ref hb hj]
      cases a j <;> rfl
    have h74 := S74 hw (a := a) (b := b) hi σ
    simp only [N] at h74
    simp (disch := omega) only [N, b_lss, ltT, gG, fa67_0, shift_ptr, shift_pptr, Nat.zero_add, Nat.add_zero, pureFn_fn, List.append_nil, List.singleton_append, List.cons_append, List.nil_append, load3, gk, b_eql, Int.reduceEq, load26, wd_all, b115, h74, hv', br_idx hi, add1]
  · rw [e] at hv gk
    obtain rfl := h1 (by rw [e]; decide)
    obtain rfl := h2 (by rw [e]; decide)
    have hv' : untR ((L w.p).length + (L w.l).length) (L w.p).length a b ((L w.p).length + (L w.l).length) i = v := by
      rw [← hv]
      exact unP_ref hb hi
    have h75 := S75 hw (a := a) (b := b) hi σ
    simp only [N] at h75
    simp (disch := omega) only [N, b_lss, ltT, gG, fa67_0, shift_ptr, shift_pptr, Nat.zero_add, Nat.add_zero, pureFn_fn, List.append_nil, List.singleton_append, List.cons_append, List.nil_append, load3, gk, b_eql, Int.reduceEq, load26, wd_all, b115, h75, hv', br_idx hi, add1, eqT (rfl : (9 : Int) = 9)]
theorem L22 : ∀ (d i : Nat) (σ : Store), (L w.p).length + (L w.l).length - i = d → i ≤ (L w.p).length + (L w.l).length → σ[0]? = some (.mix (ndD x)) →
    σ[1]? = some (.arr (eBools (tab ((L w.p).length + (L w.l).length) fun j => if j < i then tk ((L w.p).length + (L w.l).length) (L w.p).length (L w.p ++ L w.l) x.k x.n a b j else false))) →
    ∃ σ', f22_L0 guardT 0 (.pptr (eWd w) 0) (.ptr 0 0) (N ((L w.p).length + (L w.l).length)) (.rsl 1 1 0 ((L w.p).length + (L w.l).length)) x10 x11 (N i) σ = some (.rsl 1 1 0 ((L w.p).length + (L w.l).length), σ') ∧
      σ'[1]? = some (.arr (eBools (tab ((L w.p).length + (L w.l).length) (tk ((L w.p).length + (L w.l).length) (L w.p).length (L w.p ++ L w.l) x.k x.n a b))))
  | 0, i, σ, hd, hi, gs, g1 => by
    have e : i = (L w.p).length + (L w.l).length := by omega
    subst e
    refine ⟨σ, ?_, ?_⟩
    · rw [f22_L0_eq guardT rfl]
      simp (disch := omega) only [N, b_lss, ltF, gG]
    · rw [g1, tab_congr (fun j hj => by rw [if_pos hj])]
  | d + 1, i, σ, hd, hi, gs, g1 => by
    have hlt : i < (L w.p).length + (L w.l).length := by omega
    have hst := ba_st (v := tk ((L w.p).length + (L w.l).length) (L w.p).length (L w.p ++ L w.l) x.k x.n a b i) g1 (i := i) (by rw [tab_len]; exact hlt) (Nat.zero_le _)
    rw [tab_set] at hst
    rw [step22 hw hk hbad h1 h2 hlt gs, hst, obind]
    refine L22 d (i + 1) _ (by omega) (by omega) (by rw [List.getElem?_set_ne (by decide)]; exact gs) ?_
    rw [List.getElem?_set_self (get_lt g1)]
    congr 3
    refine tab_congr fun j hj => ?_
    by_cases e : j = i
    · subst e; rw [if_pos rfl, if_pos (by omega)]
    · by_cases e2 : j < i
      · rw [if_neg e, if_pos e2, if_pos (by omega)]
      · rw [if_neg e, if_neg e2, if_neg (by omega)]
end
end Go.D
end
/- Equations of functions 12, printed by gen.py. -/
section
set_option linter.unusedVariables false
set_option maxRecDepth 10000
namespace Go.D
open Go.Proofs
noncomputable section
variable (G : GuardT) (lo : Nat) {σ : Store} {r : DV × Store}
open _root_.Go.D.Code (fstC sndC)
open _root_.Go.D.Ann (left right)
def lstr0 : ByteArray := ⟨#[40, 112, 48, 32, 126, 62, 32, 60, 62, 112, 49, 41]⟩
def c12_0 : Code := bodyOf Tryz.f12
def a12_0 : Ann := (pol 12).ann
def F12 (σ : Store) : RS :=
 codeF G PP (pol 12) CC lo c12_0 a12_0 (zn 80 []) σ (finR PP Tryz.f12.results.toList)
theorem F12_eq (G : GuardT) (lo : Nat) (σ : Store) : F12 G lo σ =
 (pureFn CC (DV.fn 48 []) [(DV.p (PV.str lstr0))] σ).bind fun x11 =>
 (extractV x11 0).bind fun x12 =>
 (extractV x11 1).bind fun x13 =>
 (extractV x11 2).bind fun x14 =>
 (pureFn CC (DV.fn 62 []) [I0] σ).bind fun x16 =>
 (pureFn CC (DV.fn 62 []) [I1] σ).bind fun x17 =>
 (buildSlice PP none 64 2 [(0, x16), (1, x17)] σ).bind fun r18_1 =>
 (pureFn CC (DV.fn 38 []) [(DV.p (PV.int IntKind.i64 (8))), r18_1.1] r18_1.2).bind fun x19 =>
 (buildSlice PP none 24 2 [(0, I0), (1, I1)] r18_1.2).bind fun r20_2 =>
 (buildSlice PP none 24 2 [(0, (DV.p (PV.int IntKind.i64 (2)))), (1, I0)] r20_2.2).bind fun r21_3 =>
 (build PP 26 [(0, r20_2.1), (1, r21_3.1)]).bind fun x22 =>
 (pureFn CC (DV.fn 20 []) [x19, x22] r21_3.2).bind fun x23 =>
 (extractV x23 0).bind fun x24 =>
 (extractV x23 1).bind fun x25 =>
 (buildSlice PP none 24 3 [(0, I1), (1, I1), (2, (DV.p (PV.int IntKind.i64 (2))))] r21_3.2).bind fun r27_4 =>
 (buildSlice PP none 24 3 [(0, (DV.p (PV.int IntKind.i64 (3)))), (1, (DV.p (PV.int IntKind.i64 (2)))), (2, (DV.p (PV.int IntKind.i64 (2))))] r27_4.2).bind fun r28_5 =>
 (build PP 26 [(0, r27_4.1), (1, r28_5.1)]).bind fun x29 =>
 (pureFn CC (DV.fn 32 []) [x29] r28_5.2).bind fun x30 =>
 (extractV x30 0).bind fun x31 =>
 (extractV x30 1).bind fun x32 =>
 (zeroOf PP 26).bind fun z6 =>
 (store PP lo 26 (DV.ptr (List.length r28_5.2) 0) x31 (r28_5.2 ++ [Row.mix z6])).bind fun σ6 =>
 (pureFn CC (DV.fn 63 []) [(DV.p PV.nilsl)] σ6).bind fun x34 =>
 (pureFn CC (DV.fn 62 []) [I0] σ6).bind fun x35 =>
 (buildSlice PP none 64 1 [(0, x35)] σ6).bind fun r36_7 =>
 (pureFn CC (DV.fn 38 []) [(DV.p (PV.int IntKind.i64 (7))), r36_7.1] r36_7.2).bind fun x37 =>
 (pureFn CC (DV.fn 27 []) [x34, x37, (DV.p (PV.int IntKind.i64 (2)))] r36_7.2).bind fun x38 =>
 (extractV x38 0).bind fun x39 =>
 (extractV x38 1).bind fun x40 =>
 (zeroOf PP 52).bind fun z8 =>
 (store PP lo 52 (DV.ptr (List.length r36_7.2) 0) x39 (r36_7.2 ++ [Row.mix z8])).bind fun σ8 =>
 (binOp PP .eql 30 x14 I0).bind fun x42 =>
 G _ x42 true (some (x13, σ8)) σ8 fun x44 σ9 =>
 G _ x42 true ((binOp PP .eql 3 x44 (DV.p (PV.int IntKind.i64 (12)))).bind fun v => some (v, σ9)) σ9 fun x45 σ10 =>
 (pickV x42 x45 (DV.p (PV.bool false))).bind fun x46 =>
 G _ x46 true (some (x12, σ10)) σ10 fun x48 σ11 =>
 G _ x46 true ((len PP 23 x48 σ11).bind fun v => some (v, σ11)) σ11 fun x49 σ12 =>
 G _ x46 true ((binOp PP .eql 3 x49 (DV.p (PV.int IntKind.i64 (4)))).bind fun v => some (v, σ12)) σ12 fun x50 σ13 =>
 (pickV x46 x50 (DV.p (PV.bool false))).bind fun x51 =>
 G _ x51 true (some (x25, σ13)) σ13 fun x53 σ14 =>
 G _ x51 true ((binOp PP .eql 30 x53 I0).bind fun v => some (v, σ14)) σ14 fun x54 σ15 =>
 (pickV x51 x54 (DV.p (PV.bool false))).bind fun x55 =>
 G _ x55 true (some (x24, σ15)) σ15 fun x57 σ16 =>
 (pickV x55 x57 (DV.p (PV.bool false))).bind fun x58 =>
 G _ x58 true (some (x32, σ16)) σ16 fun x60 σ17 =>
 G _ x58 true ((binOp PP .eql 30 x60 I0).bind fun v => some (v, σ17)) σ17 fun x61 σ18 =>
 (pickV x58 x61 (DV.p (PV.bool false))).bind fun x62 =>
 G _ x62 true ((load PP 26 (DV.ptr (List.length r28_5.2) 0) σ18).bind fun v => some (v, σ18)) σ18 fun x64 σ19 =>
 G _ x62 true ((buildSlice PP none 24 1 [(0, I1)] σ19).bind fun r => some (r.1, r.2)) σ19 fun x65 σ20 =>
 G _ x62 true ((buildSlice PP none 24 2 [(0, (DV.p (PV.int IntKind.i64 (2)))), (1, (DV.p (PV.int IntKind.i64 (3))))] σ20).bind fun r => some (r.1, r.2)) σ20 fun x66 σ21 =>
 G _ x62 true ((build PP 26 [(0, x65), (1, x66)]).bind fun v => some (v, σ21)) σ21 fun x67 σ22 =>
 G _ x62 true ((pureFn CC (DV.fn 33 []) [x64, x67] σ22).bind fun v => some (v, σ22)) σ22 fun x68 σ23 =>
 (pickV x62 x68 (DV.p (PV.bool false))).bind fun x69 =>
 G _ x69 true (some (x40, σ23)) σ23 fun x71 σ24 =>
 G _ x69 true ((binOp PP .eql 30 x71 I0).bind fun v => some (v, σ24)) σ24 fun x72 σ25 =>
 (pickV x69 x72 (DV.p (PV.bool false))).bind fun x73 =>
 G _ x73 true ((load PP 52 (DV.ptr (List.length r36_7.2) 0) σ25).bind fun v => some (v, σ25)) σ25 fun x75 σ26 =>
 G _ x73 true ((buildSlice PP none 24 1 [(0, I0)] σ26).bind fun r => some (r.1, r.2)) σ26 fun x76 σ27 =>
 G _ x73 true ((build PP 52 [(1, x76)]).bind fun v => some (v, σ27)) σ27 fun x77 σ28 =>
 G _ x73 true ((pureFn CC (DV.fn 29 []) [x75, x77] σ28).bind fun v => some (v, σ28)) σ28 fun x78 σ29 =>
 (pickV x73 x78 (DV.p (PV.bool false))).bind fun x79 =>
 some (x79, σ29) := by kernel_rfl
theorem F12_call {lo : Nat} (h : F12 guardT lo σ = some r) : CC lo 12 [] σ = some r :=
 callL_run Tryz.func12 (by decide +kernel) rfl (by decide +kernel) h
end
end Go.D
end

/- The bytes of any instructions, and the instructions of any bytes, are the document's, or refused: for all lists of at most 2048. -/
import Derived.Test.YtlpiknclbgogbaaXBytesx8
import Derived.Test.YtlpiknclbgogbaaExtShapesD
import Derived.OpenShut
set_option linter.unusedVariables false
set_option linter.unusedSimpArgs false
namespace Go.Proofs.Ytlpiknclbgogbaa.Pure
open Go.RowKit Go.Proofs.Ytlpiknclbgogbaa.XBytes Go.Proofs.YtlpiknclbgogbaaW.PrintWords Go.Proofs.YtlpiknclbgogbaaW.PrintMore Go.Proofs.Ytlpiknclbgogbaa.Ext

theorem LeO.le_ {α : Type} {g : Nat → Option α} (hg : ∀ k, LeO (g k) (g (k + 1))) {a b : Nat} {r : α} (h : g a = some r) (hab : a ≤ b) : g b = some r := by
  induction b with
  | zero => rw [show (0 : Nat) = a by omega]; exact h
  | succ b ih =>
    rcases Nat.lt_or_ge a (b + 1) with hlt | hge
    · exact hg b r (ih (by omega))
    · rw [show b + 1 = a by omega]; exact h
/-- May an instruction be? -/
def mayB (op a : Int) : Bool :=
  if op = 1 then decide (-32768 ≤ a ∧ a ≤ 32767) else if op = 12 ∨ op = 13 ∨ op = 16 then decide (0 ≤ a ∧ a ≤ 7) else if op = 14 ∨ op = 15 then decide (0 ≤ a ∧ a ≤ 255) else decide (0 ≤ op ∧ op ≤ 16 ∧ a = 0)
def ctakes (op a : Int) : Int := if op = 2 ∨ op = 3 ∨ op = 11 ∨ op = 13 ∨ op = 15 then 1 else if 4 ≤ op ∧ op ≤ 10 then 2 else if op = 16 then callTakes a else 0
def cgives (op : Int) : Int := if op = 3 ∨ op = 4 then 2 else if op = 1 ∨ (5 ≤ op ∧ op ≤ 12) ∨ op = 16 then 1 else 0
def clong (op : Int) : Bool := decide (op = 1 ∨ (12 ≤ op ∧ op ≤ 16))
theorem op_cases (op : Int) : op = 0 ∨ op = 1 ∨ op = 2 ∨ op = 3 ∨ op = 4 ∨ op = 5 ∨ op = 6 ∨ op = 7 ∨ op = 8 ∨ op = 9 ∨ op = 10 ∨ op = 11 ∨ op = 12 ∨ op = 13 ∨ op = 14 ∨ op = 15 ∨ op = 16 ∨ (op < 0 ∨ 16 < op) := by omega
theorem shapes_no {op : Int} (h : op < 0 ∨ 16 < op) (a : Int) : code_shapes.f op a = some (0, 0, 0, 0, false, false) := by
  unfold code_shapes.f
  repeat rw [if_neg (by omega)]
theorem mayB_no {op : Int} (h : op < 0 ∨ 16 < op) (a : Int) : mayB op a = false := by
  unfold mayB
  rw [if_neg (by omega), if_neg (by omega), if_neg (by omega)]
  exact decide_eq_false (by omega)
theorem ge_and (a lo hi : Int) : (if a ≥ lo then decide (a ≤ hi) else false) = decide (lo ≤ a ∧ a ≤ hi) := by
  by_cases h : a ≥ lo
  · rw [if_pos h]
    have : lo ≤ a := h
    simp [this]
  · rw [if_neg h]
    have : ¬ lo ≤ a := h
    simp [this]
def slo (op : Int) : Int := if op = 1 then -32768 else 0
def shi (op : Int) : Int := if op = 1 then 32767 else if op = 12 ∨ op = 13 ∨ op = 16 then 7 else if op = 14 ∨ op = 15 then 255 else 0
theorem shapes_eq {op : Int} (h : 0 ≤ op ∧ op ≤ 16) (a : Int) : code_shapes.f op a = some (ctakes op a, cgives op, slo op, shi op, clong op, true) := by
  rcases op_cases op with rfl | rfl | rfl | rfl | rfl | rfl | rfl | rfl | rfl | rfl | rfl | rfl | rfl | rfl | rfl | rfl | rfl | h
  case inr.inr.inr.inr.inr.inr.inr.inr.inr.inr.inr.inr.inr.inr.inr.inr.inr => omega
  all_goals rfl
theorem mayB_yes {op : Int} (h : 0 ≤ op ∧ op ≤ 16) (a : Int) : mayB op a = decide (slo op ≤ a ∧ a ≤ shi op) := by
  unfold mayB slo shi
  by_cases h1 : op = 1
  · simp only [if_pos h1]
  · simp only [if_neg h1]
    by_cases h2 : op = 12 ∨ op = 13 ∨ op = 16
    · simp only [if_pos h2]
    · simp only [if_neg h2]
      by_cases h3 : op = 14 ∨ op = 15
      · simp only [if_pos h3]
      · simp only [if_neg h3]
        rw [Bool.eq_iff_iff, decide_eq_true_eq, decide_eq_true_eq]
        omega
/-- What the program's look at an instruction tells. -/
theorem cmay_eq (op a : Int) : ∃ lo hi, code_may.f op a = some (if 0 ≤ op ∧ op ≤ 16 then ctakes op a else 0, if 0 ≤ op ∧ op ≤ 16 then cgives op else 0, lo, hi, clong op, mayB op a) := by
  unfold code_may.f
  by_cases h : 0 ≤ op ∧ op ≤ 16
  · rw [shapes_eq h, Option.bind_some, if_pos h, if_pos h, mayB_yes h, ← ge_and]
    refine ⟨slo op, shi op, ?_⟩
    simp only [if_true]
    split <;> rfl
  · have hn : op < 0 ∨ 16 < op := by omega
    rw [shapes_no hn, Option.bind_some]
    refine ⟨0, 0, ?_⟩
    have hc : clong op = false := decide_eq_false (by omega)
    rw [mayB_no hn, hc, if_neg h, if_neg h]
    rfl
theorem within_eq (a lo hi : Int) : bureauref21_within.f a lo hi = some (decide (lo ≤ a ∧ a ≤ hi)) := by
  unfold bureauref21_within.f
  rw [← ge_and]
  split <;> rfl
theorem rmay_eq (k : Nat) (op a : Int) : bureauref21_May.f (k + 3) op a = some (mayB op a) := by
  unfold bureauref21_May.f mayB
  by_cases h1 : op = 1
  · rw [if_pos h1, if_pos h1, within_eq]; rfl
  · rw [if_neg h1, if_neg h1]
    by_cases h2 : op = 12 ∨ op = 13 ∨ op = 16
    · rw [if_pos h2]
      rcases h2 with rfl | rfl | rfl <;> simp [bureauref21_May.j0, within_eq]
    · rw [if_neg h2, if_neg (by omega), if_neg (by omega)]
      simp only [bureauref21_May.j0]
      rw [if_neg (by simp; omega)]
      by_cases h3 : op = 14 ∨ op = 15
      · rw [if_pos h3]
        rcases h3 with rfl | rfl <;> simp [bureauref21_May.j1, within_eq]
      · rw [if_neg h3, if_neg (by omega)]
        simp only [bureauref21_May.j1]
        rw [if_neg (by simp; omega), within_eq, Option.bind_some]
        by_cases h4 : 0 ≤ op ∧ op ≤ 16
        · rw [if_pos (by simpa using h4)]
          congr 1
          rw [Bool.eq_iff_iff]
          simp [h4]
        · rw [if_neg (by simpa using h4)]
          congr 1
          symm
          apply decide_eq_false
          omega
theorem wrap_nat {n : Nat} (h : n < 4611686018427387904) : wrap64 (n : Int) = n := by
  unfold wrap64
  omega
theorem wrap_succ {i : Nat} (h : i < 4611686018427387904) : wrap64 ((i : Int) + 1) = ((i + 1 : Nat) : Int) := by
  unfold wrap64
  omega
theorem drop_cons {α : Type} {xs : List α} {i : Nat} (h : i < xs.length) : xs.drop i = xs[i] :: xs.drop (i + 1) := List.drop_eq_getElem_cons h
theorem rd36 {xs : List S36} {i : Nat} (h : i < xs.length) : rd_T36 xs (i : Int) = xs[i] := by
  unfold rd_T36
  simp [List.getD, h]
theorem rd41 {xs : List S41} {i : Nat} (h : i < xs.length) : rd_T41 xs (i : Int) = xs[i] := by
  unfold rd_T41
  simp [List.getD, h]
def to41 (x : S36) : S41 := ⟨x.f0, x.f1⟩
def to36 (x : S41) : S36 := ⟨x.f0, x.f1⟩
def mk41 (p : Int × Int) : S41 := ⟨p.1, p.2⟩
def mk36 (p : Int × Int) : S36 := ⟨p.1, p.2⟩
theorem theirs_l0 (xs : List S36) (hx : xs.length < 1000000) : ∀ (d i k : Nat) (acc : List S41), xs.length - i = d → i ≤ xs.length → d < k → acc.length + d < 1000000 → bureaulaw21_Theirs.l0 k acc xs (xs.length : Int) (i : Int) = some (acc ++ (xs.drop i).map to41) := by
  intro d
  induction d with
  | zero =>
    intro i k acc hd hi hk _
    obtain ⟨k, rfl⟩ : ∃ m, k = m + 1 := ⟨k - 1, by omega⟩
    simp only [bureaulaw21_Theirs.l0]
    rw [if_neg (by omega), List.drop_eq_nil_of_le (by omega)]
    simp
  | succ d ih =>
    intro i k acc hd hi hk ha
    obtain ⟨k, rfl⟩ : ∃ m, k = m + 1 := ⟨k - 1, by omega⟩
    have hlt : i < xs.length := by omega
    simp only [bureaulaw21_Theirs.l0]
    rw [if_pos (by omega), if_pos (by omega), if_pos (by omega), if_pos (by omega), wrap_succ (by omega), ih (i + 1) k _ (by omega) (by omega) (by omega) (by simp; omega), drop_cons hlt, rd36 hlt, List.map_cons, List.append_assoc]
    rfl
theorem Theirs_eq {xs : List S36} (hx : xs.length < 1000000) {k : Nat} (hk : xs.length < k) : bureaulaw21_Theirs.f k xs = some (xs.map to41) := by
  unfold bureaulaw21_Theirs.f
  have := theirs_l0 xs hx xs.length 0 k [] (by omega) (by omega) hk (by simp; omega)
  simpa using this

/-! ### bytes of instructions -/
def ib (op a : Int) : List Int := op % 256 :: if clong op then [a / 256 % 256, a % 256] else []
def encR (acc : List Int) (l : List (Int × Int)) : List Int × Int := if l.all (fun p => mayB p.1 p.2) then (acc ++ l.flatMap (fun p => ib p.1 p.2), 0) else ([], 2)
theorem encR_nil (acc : List Int) : encR acc [] = (acc, 0) := by simp [encR]
theorem encR_yes (acc : List Int) {p : Int × Int} (l : List (Int × Int)) (h : mayB p.1 p.2 = true) : encR acc (p :: l) = encR (acc ++ ib p.1 p.2) l := by
  unfold encR
  rw [List.all_cons, h, Bool.true_and, List.flatMap_cons, List.append_assoc]
theorem encR_no (acc : List Int) {p : Int × Int} (l : List (Int × Int)) (h : ¬ mayB p.1 p.2 = true) : encR acc (p :: l) = ([], 2) := by
  unfold encR
  rw [List.all_cons, Bool.eq_false_iff.mpr h, Bool.false_and, if_neg (by simp)]
def un41 (x : S41) : Int × Int := (x.f0, x.f1)
theorem enc_l0 (xs : List S41) (hx : xs.length < 1000) : ∀ (d i k : Nat) (acc : List Int), xs.length - i = d → i ≤ xs.length → d < k → acc.length + 3 * d < 1000000 → code_Encode.l0 k acc xs (xs.length : Int) (i : Int) = some (encR acc ((xs.drop i).map un41)) := by
  intro d
  induction d with
  | zero =>
    intro i k acc hd hi hk _
    obtain ⟨k, rfl⟩ : ∃ m, k = m + 1 := ⟨k - 1, by omega⟩
    simp only [code_Encode.l0]
    rw [if_neg (by omega), List.drop_eq_nil_of_le (by omega), List.map_nil, encR_nil]
  | succ d ih =>
    intro i k acc hd hi hk ha
    obtain ⟨k, rfl⟩ : ∃ m, k = m + 1 := ⟨k - 1, by omega⟩
    have hlt : i < xs.length := by omega
    simp only [code_Encode.l0]
    rw [if_pos (by omega), if_pos (by omega), if_pos (by omega), rd41 hlt, drop_cons hlt, List.map_cons]
    obtain ⟨lo, hi', hm⟩ := cmay_eq xs[i].f0 xs[i].f1
    rw [hm, Option.bind_some]
    simp only []
    by_cases hb : mayB xs[i].f0 xs[i].f1 = true
    · rw [if_pos hb, if_pos (by omega), Option.bind_some, encR_yes _ _ hb]
      simp only [un41]
      unfold ib
      cases hc : clong xs[i].f0
      · rw [if_neg (by simp), if_neg (by simp), wrap_succ (by omega)]
        exact ih (i + 1) k _ (by omega) (by omega) (by omega) (by simp; omega)
      · rw [if_pos rfl, if_pos rfl, Option.bind_some, if_pos (by simp; omega), wrap_succ (by omega), List.append_assoc]
        exact ih (i + 1) k _ (by omega) (by omega) (by omega) (by simp; omega)
    · rw [if_neg hb, encR_no _ _ hb]
theorem Encode_eq {xs : List S41} {k : Nat} (hk : 300 < k) : code_Encode.f k xs = some (if xs.length > 256 then ([], 3) else encR [] (xs.map un41)) := by
  unfold code_Encode.f
  by_cases h : xs.length > 256
  · rw [if_pos (by omega), if_pos h]
  · rw [if_neg (by omega), if_neg h]
    have := enc_l0 xs (by omega) xs.length 0 k [] (by omega) (by omega) (by omega) (by simp; omega)
    simpa using this

/-! ### instructions of bytes -/
/-- The number of two bytes, as instruction op has it. -/
def num2 (op y z : Int) : Int := if op = 1 then (if y * 256 + z > 32767 then y * 256 + z - 65536 else y * 256 + z) else y * 256 + z
def dec1 : List Int → Option ((Int × Int) × List Int)
  | [] => none
  | x :: r => if clong x then (match r with
    | y :: z :: r' => if mayB x (num2 x y z) then some ((x, num2 x y z), r') else none
    | _ => none) else if mayB x 0 then some ((x, 0), r) else none
theorem dec1_short {x : Int} (hc : clong x = false) (r : List Int) : dec1 (x :: r) = if mayB x 0 = true then some ((x, 0), r) else none := by
  simp only [dec1, hc, Bool.false_eq_true, if_false]
theorem dec1_long {x : Int} (hc : clong x = true) (y z : Int) (r : List Int) : dec1 (x :: y :: z :: r) = if mayB x (num2 x y z) = true then some ((x, num2 x y z), r) else none := by
  simp only [dec1, hc, if_true]
theorem dec1_long0 {x : Int} (hc : clong x = true) : dec1 [x] = none := by
  simp only [dec1, hc, if_true]
theorem dec1_long1 {x : Int} (hc : clong x = true) (y : Int) : dec1 [x, y] = none := by
  simp only [dec1, hc, if_true]
def dec : Nat → List Int → List (Int × Int) → List (Int × Int) × Int
  | 0, _, acc => (acc, 0)
  | n + 1, b, acc => if b = [] then (acc, 0) else if acc.length = 256 then ([], 3) else match dec1 b with
    | none => ([], 12)
    | some (p, r) => dec n r (acc ++ [p])
theorem dec_nil (n : Nat) (acc : List (Int × Int)) : dec (n + 1) [] acc = (acc, 0) := by simp [dec]
theorem dec_full (n : Nat) (x : Int) (r : List Int) {acc : List (Int × Int)} (h : acc.length = 256) : dec (n + 1) (x :: r) acc = ([], 3) := by simp [dec, h]
theorem dec_none (n : Nat) {x : Int} {r : List Int} {acc : List (Int × Int)} (h : ¬ acc.length = 256) (h1 : dec1 (x :: r) = none) : dec (n + 1) (x :: r) acc = ([], 12) := by simp [dec, h, h1]
theorem dec_some (n : Nat) {x : Int} {r r' : List Int} {p : Int × Int} {acc : List (Int × Int)} (h : ¬ acc.length = 256) (h1 : dec1 (x :: r) = some (p, r')) : dec (n + 1) (x :: r) acc = dec n r' (acc ++ [p]) := by simp [dec, h, h1]
def Bytes (b : List Int) : Prop := ∀ x ∈ b, 0 ≤ x ∧ x ≤ 255
theorem Bytes.suffix {c r : List Int} (h : Bytes (c ++ r)) : Bytes r := fun x hx => h x (by simp [hx])
theorem wrap_byte {x : Int} (h : 0 ≤ x ∧ x ≤ 255) : wrap64 x = x := by
  unfold wrap64
  omega
theorem or_bytes {y z : Int} (hy : 0 ≤ y ∧ y ≤ 255) (hz : 0 ≤ z ∧ z ≤ 255) : Go.bits .or .i64 (wrap64 (wrap64 y * 256)) (wrap64 z) = y * 256 + z := by
  rw [wrap_byte hy, wrap_byte hz, show wrap64 (y * 256) = y * 256 from by unfold wrap64; omega]
  refine bits_join .i64 16 (by decide) (fun n h0 h1 => ?_) 8 _ _ (by omega) (by omega) (by omega) (by omega) (by omega) (by omega)
  rw [IntKind.wrap_i64]
  omega
theorem i16_num {v : Int} (h : 0 ≤ v ∧ v ≤ 65535) : wrap64 (IntKind.i16.wrap v) = if v > 32767 then v - 65536 else v := by
  have : IntKind.i16.wrap v = if v > 32767 then v - 65536 else v := by
    simp only [IntKind.wrap, IntKind.bits, IntKind.signed]
    simp
    split <;> split <;> omega
  rw [this]
  unfold wrap64
  split <;> omega
theorem rd_zero (x : Int) (r : List Int) : rd (x :: r) 0 = x := rfl
theorem rd_one (x y : Int) (r : List Int) : rd (x :: y :: r) 1 = y := rfl
theorem shapes_long {x : Int} (a : Int) : ∃ t g lo hi ok, code_shapes.f x a = some (t, g, lo, hi, clong x, ok) ∧ (ok = false → clong x = false ∧ ∀ v, mayB x v = false) := by
  by_cases h : 0 ≤ x ∧ x ≤ 16
  · exact ⟨_, _, _, _, _, shapes_eq h a, by simp⟩
  · refine ⟨0, 0, 0, 0, false, ?_, fun _ => ⟨decide_eq_false (by omega), fun v => mayB_no (by omega) v⟩⟩
    rw [shapes_no (by omega), show clong x = false from decide_eq_false (by omega)]
theorem dec_l0 : ∀ (n : Nat) (b : List Int) (acc : List (Int × Int)) (k : Nat), b.length < n → Bytes b → acc.length ≤ 256 → 2 * n < k → code_Decode.l0 k b (acc.map mk41) = some ((dec n b acc).1.map mk41, (dec n b acc).2) := by
  intro n
  induction n with
  | zero => intro b acc k h; omega
  | succ n ih =>
    intro b acc k hn hb ha hk
    obtain ⟨k, rfl⟩ : ∃ m, k = m + 2 := ⟨k - 2, by omega⟩
    simp only [code_Decode.l0]
    match b, hn, hb with
    | [], _, _ => rw [dec_nil]; simp
    | x :: r, hn, hb =>
      have hx := hb x (by simp)
      have hlen : (x :: r).length = r.length + 1 := rfl
      rw [if_pos (by rw [hlen]; omega)]
      by_cases h256 : acc.length = 256
      · rw [if_pos (by simp [h256]), dec_full n x r h256]; rfl
      · rw [if_neg (by simp; omega), if_pos (by rw [hlen]; omega), rd_zero, wrap_byte hx]
        obtain ⟨t, g, lo, hi, ok, hs, hno⟩ := shapes_long (x := x) 0
        rw [hs, Option.bind_some, if_pos (by rw [hlen]; omega), Option.bind_some]
        simp only []
        have hlong : (if ok = true then code_Decode.j1 (k + 1) ((x :: r).drop 1) (acc.map mk41) (clong x) x 0 else code_Decode.j1 (k + 1) ((x :: r).drop 1) (acc.map mk41) false x 0) = code_Decode.j1 (k + 1) r (acc.map mk41) (clong x) x 0 := by
          cases ok
          · rw [if_neg (by simp), (hno rfl).1]; rfl
          · rw [if_pos rfl]; rfl
        rw [hlong]
        simp only [code_Decode.j1]
        have hm8 : (acc.map mk41).length < 8796093022208 := by rw [List.length_map]; omega
        cases hc : clong x
        · rw [if_neg (by simp)]
          obtain ⟨lo', hi', hm⟩ := cmay_eq x 0
          rw [hm, Option.bind_some]
          simp only []
          by_cases hv : mayB x 0 = true
          · rw [if_pos hv, if_pos hm8, dec_some n h256 (by rw [dec1_short hc, if_pos hv])]
            have := ih r (acc ++ [(x, 0)]) k (by omega) (fun y hy => hb y (by simp [hy])) (by simp; omega) (by omega)
            simpa [mk41] using this
          · rw [if_neg hv, dec_none n h256 (by rw [dec1_short hc, if_neg hv])]; rfl
        · rw [if_pos rfl]
          match r, hn, hb with
          | [], _, _ => rw [if_pos (by simp), dec_none n h256 (dec1_long0 hc)]; rfl
          | [y], _, _ => rw [if_pos (by simp), dec_none n h256 (dec1_long1 hc y)]; rfl
          | y :: z :: r', hn, hb =>
            have hy := hb y (by simp)
            have hz := hb z (by simp)
            have hl2 : (y :: z :: r').length = r'.length + 2 := rfl
            rw [if_neg (by rw [hl2]; omega), if_pos (by rw [hl2]; omega), if_pos (by rw [hl2]; omega), rd_zero, rd_one, or_bytes hy hz]
            have hrest : ∀ v, v = num2 x y z → ((code_may.f x v).bind fun bt => if bt.2.2.2.2.2 = true then (if (acc.map mk41).length < 8796093022208 then code_Decode.l0 k ((y :: z :: r').drop 2) (acc.map mk41 ++ [(⟨x, v⟩ : S41)]) else none) else some (([] : List S41), 12)) = some ((dec (n + 1) (x :: y :: z :: r') acc).1.map mk41, (dec (n + 1) (x :: y :: z :: r') acc).2) := by
              intro v hv
              obtain ⟨lo', hi', hm⟩ := cmay_eq x v
              rw [hm, Option.bind_some]
              simp only []
              by_cases hw : mayB x v = true
              · rw [if_pos hw, if_pos hm8, dec_some n h256 (by rw [dec1_long hc, ← hv, if_pos hw])]
                have := ih r' (acc ++ [(x, v)]) k (by simp at hn; omega) (fun q hq => hb q (by simp [hq])) (by simp; omega) (by omega)
                simpa [mk41] using this
              · rw [if_neg hw, dec_none n h256 (by rw [dec1_long hc, ← hv, if_neg hw])]; rfl
            by_cases h1 : x = 1
            · rw [if_pos h1, if_pos (by rw [hl2]; omega), i16_num (by omega)]
              exact hrest _ (by rw [num2, if_pos h1])
            · rw [if_neg h1, if_pos (by rw [hl2]; omega)]
              exact hrest _ (by rw [num2, if_neg h1])
theorem Decode_eq {b : List Int} (hb : Bytes b) {k : Nat} (hk : 2 * b.length + 2 < k) : code_Decode.f k b = some ((dec (b.length + 1) b []).1.map mk41, (dec (b.length + 1) b []).2) := dec_l0 (b.length + 1) b [] k (by omega) hb (by simp) (by omega)
def un36 (x : S36) : Int × Int := (x.f0, x.f1)
theorem long_eq (op : Int) : bureauref21_long.f op = some (clong op) := by
  unfold bureauref21_long.f
  by_cases h : op = 1
  · rw [if_pos h, h]; rfl
  · rw [if_neg h, within_eq, Option.bind_some]
    congr 1
    unfold clong
    rw [Bool.eq_iff_iff, decide_eq_true_eq, decide_eq_true_eq]
    omega
/-- Two bytes of an argument that may be. -/
theorem arg_bytes {op a : Int} (h : mayB op a = true) : ([(wrap64 (Int.tdiv (Int.tmod (wrap64 (a + 65536)) 65536) 256)) % 256, (Int.tmod (Int.tmod (wrap64 (a + 65536)) 65536) 256) % 256] : List Int) = [a / 256 % 256, a % 256] := by
  have hb : -32768 ≤ a ∧ a ≤ 32767 := by
    unfold mayB at h
    split at h
    · simpa using h
    · split at h
      · simp at h; omega
      · split at h
        · simp at h; omega
        · simp at h; omega
  have e1 : wrap64 (a + 65536) = a + 65536 := by unfold wrap64; omega
  rw [e1, Int.tmod_eq_emod_of_nonneg (show 0 ≤ a + 65536 by omega), Int.tdiv_eq_ediv_of_nonneg (by omega), Int.tmod_eq_emod_of_nonneg (by omega)]
  have e2 : wrap64 ((a + 65536) % 65536 / 256) = (a + 65536) % 65536 / 256 := by unfold wrap64; omega
  rw [e2, show (a + 65536) % 65536 / 256 % 256 = a / 256 % 256 by omega, show (a + 65536) % 65536 % 256 % 256 = a % 256 by omega]
theorem renc_l0 (xs : List S36) (hx : xs.length < 1000) : ∀ (d i k : Nat) (acc : List Int), xs.length - i = d → i ≤ xs.length → d + 3 < k → acc.length + 3 * d < 1000000 → bureauref21_Encode.l0 k xs acc (i : Int) = some (encR acc ((xs.drop i).map un36)) := by
  intro d
  induction d with
  | zero =>
    intro i k acc hd hi hk _
    obtain ⟨k, rfl⟩ : ∃ m, k = m + 1 := ⟨k - 1, by omega⟩
    simp only [bureauref21_Encode.l0]
    rw [if_neg (by omega), List.drop_eq_nil_of_le (by omega), List.map_nil, encR_nil]
  | succ d ih =>
    intro i k acc hd hi hk ha
    obtain ⟨k, rfl⟩ : ∃ m, k = m + 1 := ⟨k - 1, by omega⟩
    have hlt : i < xs.length := by omega
    simp only [bureauref21_Encode.l0]
    obtain ⟨k, rfl⟩ : ∃ m, k = m + 3 := ⟨k - 3, by omega⟩
    rw [if_pos (by omega), if_pos (by omega), rd36 hlt, drop_cons hlt, List.map_cons, rmay_eq, Option.bind_some]
    by_cases hb : mayB xs[i].f0 xs[i].f1 = true
    · rw [if_pos hb, if_pos (by omega), Option.bind_some, long_eq, Option.bind_some, encR_yes _ _ hb]
      simp only [un36]
      unfold ib
      cases hc : clong xs[i].f0
      · rw [if_neg (by simp), if_neg (by simp), wrap_succ (by omega)]
        exact ih (i + 1) _ _ (by omega) (by omega) (by omega) (by simp; omega)
      · rw [if_pos rfl, if_pos rfl, Option.bind_some, arg_bytes hb, if_pos (by simp; omega), wrap_succ (by omega), List.append_assoc]
        exact ih (i + 1) _ _ (by omega) (by omega) (by omega) (by simp; omega)
    · rw [if_neg hb, encR_no _ _ hb]
theorem rEncode_eq {xs : List S36} {k : Nat} (hk : 300 < k) : bureauref21_Encode.f k xs = some (if xs.length > 256 then ([], 3) else encR [] (xs.map un36)) := by
  unfold bureauref21_Encode.f
  by_cases h : xs.length > 256
  · rw [if_pos (by omega), if_pos h]
  · rw [if_neg (by omega), if_neg h]
    have := renc_l0 xs (by omega) xs.length 0 k [] (by omega) (by omega) (by omega) (by simp; omega)
    simpa using this
theorem rd_nat {xs : List Int} {i : Nat} (h : i < xs.length) : rd xs (i : Int) = xs[i] := by
  unfold rd
  simp [List.getD, h]
theorem num2_eq {x y z : Int} (hy : 0 ≤ y ∧ y ≤ 255) (hz : 0 ≤ z ∧ z ≤ 255) : wrap64 (wrap64 (wrap64 y * 256) + wrap64 z) = y * 256 + z := by
  rw [wrap_byte hy, wrap_byte hz]
  unfold wrap64
  omega
/-- The instruction at a place. -/
theorem one_eq (k : Nat) {b : List Int} (hb : Bytes b) {i : Nat} (hi : i < b.length) (hl : b.length < 1000000) :
    bureauref21_one.f (k + 4) b (i : Int) = some (match dec1 (b.drop i) with | none => (0, 0, 0) | some (p, r) => (p.1, p.2, ((b.length - i - r.length : Nat) : Int))) := by
  have hx := hb b[i] (List.getElem_mem hi)
  unfold bureauref21_one.f
  rw [if_pos (by omega), if_pos (by omega), rd_nat hi, wrap_byte hx, long_eq, Option.bind_some, drop_cons hi]
  cases hc : clong b[i]
  · rw [if_neg (by simp), rmay_eq, Option.bind_some, dec1_short hc]
    by_cases hv : mayB b[i] 0 = true
    · rw [if_pos hv, if_pos hv]
      simp only [List.length_drop, Option.some.injEq, Prod.mk.injEq, true_and]
      omega
    · rw [if_neg hv, if_neg hv]
  · rw [if_pos rfl, show ((i : Int) + 2) = ((i + 2 : Nat) : Int) by omega, show ((i : Int) + 1) = ((i + 1 : Nat) : Int) by omega, wrap_nat (by omega), wrap_nat (by omega)]
    by_cases h2 : i + 2 < b.length
    · have hy := hb b[i + 1] (List.getElem_mem (by omega))
      have hz := hb b[i + 2] (List.getElem_mem (by omega))
      rw [if_neg (by omega), if_pos (by omega), if_pos (by omega), if_pos (by omega), if_pos (by omega), rd_nat (show i + 1 < b.length by omega), rd_nat h2, num2_eq (x := b[i]) hy hz, drop_cons (show i + 1 < b.length by omega), drop_cons (show i + 1 + 1 < b.length by omega), dec1_long hc]
      have hfin : ∀ c : Bool, c = decide (b[i] = 1 ∧ b[i + 1] * 256 + b[i + 2] > 32767) → bureauref21_one.j0 (k + 4) c b[i] (b[i + 1] * 256 + b[i + 2]) = some (match (if mayB b[i] (num2 b[i] b[i + 1] b[i + 1 + 1]) = true then some ((b[i], num2 b[i] b[i + 1] b[i + 1 + 1]), b.drop (i + 1 + 1 + 1)) else none : Option ((Int × Int) × List Int)) with | none => (0, 0, 0) | some (p, r) => (p.1, p.2, ((b.length - i - r.length : Nat) : Int))) := by
        intro c hcc
        simp only [bureauref21_one.j0]
        have hend : ∀ v, v = num2 b[i] b[i + 1] b[i + 1 + 1] → ((bureauref21_May.f (k + 3) b[i] v).bind fun t => if t = true then some (b[i], v, 3) else some (0, 0, 0)) = some (match (if mayB b[i] (num2 b[i] b[i + 1] b[i + 1 + 1]) = true then some ((b[i], num2 b[i] b[i + 1] b[i + 1 + 1]), b.drop (i + 1 + 1 + 1)) else none : Option ((Int × Int) × List Int)) with | none => (0, 0, 0) | some (p, r) => (p.1, p.2, ((b.length - i - r.length : Nat) : Int))) := by
          intro v hv
          rw [rmay_eq, Option.bind_some, ← hv]
          by_cases hw : mayB b[i] v = true
          · rw [if_pos hw, if_pos hw]
            simp only [List.length_drop, Option.some.injEq, Prod.mk.injEq, true_and]
            omega
          · rw [if_neg hw, if_neg hw]
        by_cases hq : b[i] = 1 ∧ b[i + 1] * 256 + b[i + 2] > 32767
        · rw [hcc, if_pos (by simpa using hq)]
          have e : wrap64 (b[i + 1] * 256 + b[i + 2] - 65536) = b[i + 1] * 256 + b[i + 2] - 65536 := by unfold wrap64; omega
          rw [e]
          exact hend _ (by rw [num2, if_pos hq.1, if_pos hq.2])
        · rw [hcc, if_neg (by simpa using hq)]
          refine hend _ ?_
          rw [num2]
          by_cases h1 : b[i] = 1
          · rw [if_pos h1, if_neg (fun h => hq ⟨h1, h⟩)]
          · rw [if_neg h1]
      by_cases h1 : b[i] = 1
      · rw [if_pos h1]
        exact hfin _ (by simp [h1])
      · rw [if_neg h1]
        exact hfin _ (by simp [h1])
    · rw [if_pos (by omega)]
      by_cases h3 : i + 1 < b.length
      · rw [drop_cons h3, List.drop_eq_nil_of_le (by omega), dec1_long1 hc]
      · rw [List.drop_eq_nil_of_le (by omega), dec1_long0 hc]
theorem dec1_rest {b r : List Int} {p : Int × Int} (h : dec1 b = some (p, r)) : ∃ n, 0 < n ∧ n ≤ b.length ∧ r = b.drop n := by
  match b, h with
  | x :: s, h =>
    cases hc : clong x
    · rw [dec1_short hc] at h
      by_cases hv : mayB x 0 = true
      · rw [if_pos hv] at h
        simp only [Option.some.injEq, Prod.mk.injEq] at h
        exact ⟨1, by omega, by simp, h.2.symm⟩
      · rw [if_neg hv] at h; cases h
    · match s, h with
      | [], h => rw [dec1_long0 hc] at h; cases h
      | [y], h => rw [dec1_long1 hc] at h; cases h
      | y :: z :: r', h =>
        rw [dec1_long hc] at h
        by_cases hv : mayB x (num2 x y z) = true
        · rw [if_pos hv] at h
          simp only [Option.some.injEq, Prod.mk.injEq] at h
          exact ⟨3, by omega, by simp, h.2.symm⟩
        · rw [if_neg hv] at h; cases h
theorem rdec_l0 {b : List Int} (hb : Bytes b) (hl : b.length < 1000000) : ∀ (n i : Nat) (acc : List (Int × Int)) (k : Nat), b.length - i < n → i ≤ b.length → acc.length ≤ 256 → n + 5 < k → bureauref21_Decode.l0 k b (acc.map mk36) (i : Int) = some ((dec n (b.drop i) acc).1.map mk36, (dec n (b.drop i) acc).2) := by
  intro n
  induction n with
  | zero => intro i acc k h; omega
  | succ n ih =>
    intro i acc k hn hi ha hk
    obtain ⟨k, rfl⟩ : ∃ m, k = m + 1 := ⟨k - 1, by omega⟩
    simp only [bureauref21_Decode.l0]
    obtain ⟨k, rfl⟩ : ∃ m, k = m + 4 := ⟨k - 4, by omega⟩
    by_cases hlt : i < b.length
    · rw [if_pos (by omega)]
      obtain ⟨x, r, hxr⟩ : ∃ x r, b.drop i = x :: r := ⟨_, _, drop_cons hlt⟩
      by_cases h256 : acc.length = 256
      · rw [if_pos (by simp [h256]), hxr, dec_full n x r h256]; rfl
      · rw [if_neg (by simp; omega), one_eq k hb hlt hl, Option.bind_some]
        cases h1 : dec1 (b.drop i) with
        | none =>
          rw [hxr] at h1 ⊢
          rw [dec_none n h256 h1]
          rfl
        | some q =>
          obtain ⟨p, r'⟩ := q
          obtain ⟨m, hm0, hm1, hr⟩ := dec1_rest h1
          rw [List.length_drop] at hm1
          have hr' : r' = b.drop (i + m) := by rw [hr, List.drop_drop]
          have hlen : b.length - i - r'.length = m := by rw [hr', List.length_drop]; omega
          simp only [hlen]
          rw [if_neg (by omega), if_pos (by rw [List.length_map]; omega), show ((i : Int) + (m : Int)) = ((i + m : Nat) : Int) by omega, wrap_nat (by omega), hxr, dec_some n h256 (hxr ▸ h1), hr']
          have := ih (i + m) (acc ++ [p]) (k + 4) (by omega) (by omega) (by simp; omega) (by omega)
          simpa [mk36] using this
    · rw [if_neg (by omega), List.drop_eq_nil_of_le (by omega), dec_nil]
theorem rDecode_eq {b : List Int} (hb : Bytes b) (hl : b.length < 1000000) {k : Nat} (hk : b.length + 6 < k) : bureauref21_Decode.f k b = some ((dec (b.length + 1) b []).1.map mk36, (dec (b.length + 1) b []).2) := by
  unfold bureauref21_Decode.f
  have := rdec_l0 hb hl (b.length + 1) 0 [] k (by omega) (by omega) (by simp) (by omega)
  simpa using this
theorem ours_l0 (xs : List S41) (hx : xs.length < 1000000) : ∀ (d i k : Nat) (acc : List S36), xs.length - i = d → i ≤ xs.length → d < k → acc.length + d < 1000000 → bureaulaw21_ours.l0 k acc xs (xs.length : Int) (i : Int) = some (acc ++ (xs.drop i).map to36) := by
  intro d
  induction d with
  | zero =>
    intro i k acc hd hi hk _
    obtain ⟨k, rfl⟩ : ∃ m, k = m + 1 := ⟨k - 1, by omega⟩
    simp only [bureaulaw21_ours.l0]
    rw [if_neg (by omega), List.drop_eq_nil_of_le (by omega)]
    simp
  | succ d ih =>
    intro i k acc hd hi hk ha
    obtain ⟨k, rfl⟩ : ∃ m, k = m + 1 := ⟨k - 1, by omega⟩
    have hlt : i < xs.length := by omega
    simp only [bureaulaw21_ours.l0]
    rw [if_pos (by omega), if_pos (by omega), if_pos (by omega), if_pos (by omega), wrap_succ (by omega), ih (i + 1) k _ (by omega) (by omega) (by omega) (by simp; omega), drop_cons hlt, rd41 hlt, List.map_cons, List.append_assoc]
    rfl
theorem ours_eq {xs : List S41} (hx : xs.length < 1000000) {k : Nat} (hk : xs.length < k) : bureaulaw21_ours.f k xs = some (xs.map to36) := by
  unfold bureaulaw21_ours.f
  have := ours_l0 xs hx xs.length 0 k [] (by omega) (by omega) hk (by simp; omega)
  simpa using this
theorem same_l0 (xs : List S36) (hx : xs.length < 1000000) : ∀ (d i k : Nat), xs.length - i = d → i ≤ xs.length → d < k → bureauref21_Same.l0 k xs xs (i : Int) = some true := by
  intro d
  induction d with
  | zero =>
    intro i k hd hi hk
    obtain ⟨k, rfl⟩ : ∃ m, k = m + 1 := ⟨k - 1, by omega⟩
    simp only [bureauref21_Same.l0]
    rw [if_neg (by omega)]
  | succ d ih =>
    intro i k hd hi hk
    obtain ⟨k, rfl⟩ : ∃ m, k = m + 1 := ⟨k - 1, by omega⟩
    simp only [bureauref21_Same.l0]
    rw [if_pos (by omega), if_pos (by omega), if_pos (by omega), if_neg (by simp), wrap_succ (by omega), ih (i + 1) k (by omega) (by omega) (by omega)]
theorem Same_self {xs : List S36} (hx : xs.length < 1000000) {k : Nat} (hk : xs.length < k) : bureauref21_Same.f k xs xs = some true := by
  unfold bureauref21_Same.f
  rw [if_pos rfl]
  exact same_l0 xs hx xs.length 0 k (by omega) (by omega) hk
theorem dec_length : ∀ (n : Nat) (b : List Int) (acc : List (Int × Int)), acc.length ≤ 256 → (dec n b acc).1.length ≤ 256 := by
  intro n
  induction n with
  | zero => intro b acc h; exact h
  | succ n ih =>
    intro b acc h
    unfold dec
    split
    · exact h
    · split
      · simp
      · split
        · simp
        · exact ih _ _ (by simp; omega)
theorem alive_big {k : Nat} (h : 40 ≤ k) : bureaulaw21_alive.f k = some true := LeO.le_ bureaulaw21_alive.mono (by decide +kernel : bureaulaw21_alive.f 40 = some true) h
theorem CodeBytes : bureaulaw21_CodeBytes.Pure := by
  intro l b _ _ _ hb
  have hB : Bytes b := fun x hx => by
    have := bounds_u8 (hb x hx)
    exact this
  refine ⟨6001, ?_⟩
  unfold bureaulaw21_CodeBytes.f
  rw [alive_big (by omega), Option.bind_some, if_pos rfl]
  by_cases h1 : (l.length : Int) > 2048
  · rw [if_pos h1]
    simp only [bureaulaw21_CodeBytes.j0]
    simp
  · rw [if_neg h1]
    simp only [bureaulaw21_CodeBytes.j0]
    by_cases h2 : (b.length : Int) > 2048
    · rw [if_pos (by simpa using h2)]
    · rw [if_neg (by simpa using h2), Theirs_eq (by omega) (by omega), Option.bind_some, Encode_eq (by omega), Option.bind_some, rEncode_eq (by omega), Option.bind_some, Decode_eq hB (by omega), Option.bind_some, rDecode_eq hB (by omega) (by omega), Option.bind_some]
      have e1 : (l.map to41).map un41 = l.map un36 := by
        rw [List.map_map]
        rfl
      have hlen := dec_length (b.length + 1) b [] (by simp)
      have e2 : ((dec (b.length + 1) b []).1.map mk41).map to36 = (dec (b.length + 1) b []).1.map mk36 := by
        rw [List.map_map]
        rfl
      rw [List.length_map, e1, if_pos rfl, if_pos rfl]
      simp only []
      rw [ours_eq (by rw [List.length_map]; omega) (by rw [List.length_map]; omega), Option.bind_some, e2, Same_self (by rw [List.length_map]; omega) (by rw [List.length_map]; omega), Option.bind_some, if_pos rfl]
      simp

end Go.Proofs.Ytlpiknclbgogbaa.Pure

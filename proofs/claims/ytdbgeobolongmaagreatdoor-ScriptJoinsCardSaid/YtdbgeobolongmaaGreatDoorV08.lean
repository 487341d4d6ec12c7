/- Part of the proof: contracts of the functions that the statements of layer 32 reach. -/
import Derived.Lib.ItoaLen
import Derived.Test.YtdbgeobolongmaaGreatDoorV07
set_option linter.unusedVariables false
set_option linter.unusedSimpArgs false
namespace Go.Proofs.YtdbgeobolongmaaGreatDoor.Sc
open Go Go.OctetPlain Go.ColonPlain Go.PrefixPlain Go.Proofs.YtdbgeobolongmaaGreatDoor.Hp Go.Lib
theorem idx_get {w : Wd} (h : idx w < 16) : names[idx w]? = some w := by
 have hl : names.length = 16 := rfl
 have : w ∈ names := List.idxOf_lt_length_iff.1 (by rw [hl]; exact h)
 rw [List.getElem?_eq_getElem (by rw [hl]; exact h)]
 exact congrArg some (List.getElem_idxOf (by rw [hl]; exact h))
theorem parts_nodup : ∀ ps ∈ partsK, ps.Nodup ∧ (Part.H ∈ ps → ps = [.H]) := by decide
theorem parts_word {w : Wd} (h : partsOf w ≠ []) : (w = wIp ∨ w = wMpls) ∨ (w ≠ wIp ∧ w ≠ wMpls ∧ idx w < 16) := by
 by_cases h1 : w = wIp ∨ w = wMpls
 ·exact Or.inl h1
 ·refine Or.inr ⟨fun e => h1 (Or.inl e), fun e => h1 (Or.inr e), ?_⟩
  unfold partsOf at h
  rw [if_neg h1] at h
  apply Classical.byContradiction
  intro hn
  apply h
  rw [List.getD_eq_getElem?_getD, List.getElem?_eq_none (show partsK.length ≤ idx w by show 16 ≤ _; omega)]
  rfl
theorem parts_good {w : Wd} : (partsOf w).Nodup ∧ (Part.H ∈ partsOf w → partsOf w = [.H]) := by
 by_cases h1 : w = wIp ∨ w = wMpls
 ·unfold partsOf; rw [if_pos h1]; decide
 ·by_cases h0 : partsOf w = []
  ·rw [h0]; simp
  ·have := (parts_word h0).resolve_left h1
   apply parts_nodup
   unfold partsOf
   rw [if_neg h1, List.getD_eq_getElem?_getD, List.getElem?_eq_getElem (show idx w < partsK.length from this.2.2)]
   exact List.getElem_mem _
theorem word_x0 {w : Wd} (h : partsOf w ≠ []) : wordOf (x0 w) = some w := by
 rcases parts_word h with h1 | ⟨h1, h2, h3⟩
 ·rcases h1 with rfl | rfl <;> decide
 ·unfold wordOf x0
  simp only [h1, h2, decide_false, Bool.or_self, Bool.false_eq_true, if_false, if_pos h3]
  rw [if_pos ⟨by omega, by omega⟩]
  exact idx_get h3
theorem spl_no32 (s : List UInt8) : ∀ w ∈ spl s, ∀ c ∈ w, c ≠ 32 := by
 induction s with
 | nil => intro w hw; simp [spl] at hw; subst hw; simp
 | cons d r ih =>
  intro w hw c hc
  unfold spl at hw
  split at hw
  ·rcases List.mem_cons.1 hw with rfl | hw
   ·simp at hc
   ·exact ih w hw c hc
  ·rename_i hd
   cases hs : spl r with
   | nil => exact absurd hs (spl_ne r)
   | cons v vs =>
    rw [hs] at hw ih
    rcases List.mem_cons.1 hw with rfl | hw
    ·rcases List.mem_cons.1 hc with rfl | hc
     ·exact hd
     ·exact ih v List.mem_cons_self c hc
    ·exact ih w (List.mem_cons_of_mem _ hw) c hc
theorem reads_nilH {x y : Stp} {r : List Wd} : reads [.H] x [] ≠ some (y, r) := by
 have : read .H x [] = none := rfl
 unfold reads
 rw [this]
 simp
theorem oneR_some {s : List UInt8} {x : Stp} (h : oneR s = some x) : ∃ w l, spl s = w :: l ∧ partsOf w ≠ [] ∧ reads (partsOf w) (x0 w) l = some (x, []) := by
 unfold oneR oneW at h
 cases hs : spl s with
 | nil => exact absurd hs (spl_ne s)
 | cons w l =>
  rw [hs] at h
  simp only at h
  refine ⟨w, l, rfl, ?_⟩
  split at h
  ·rename_i y he
   split at h
   ·cases h
   ·rename_i hp
    injection h with h
    subst h
    exact ⟨hp, he⟩
  ·cases h
theorem one_word {s : List UInt8} {x : Stp} {w : Wd} {l : List Wd} (hs : spl s = w :: l) (hp : partsOf w ≠ []) (hr : reads (partsOf w) (x0 w) l = some (x, [])) : l = (partsOf w).flatMap (fun p => shw p x) ∧ wordOf x = some w := by
 have hl : ∀ v ∈ l, ∀ c ∈ v, c ≠ 32 := fun v hv => spl_no32 s v (by rw [hs]; exact List.mem_cons_of_mem _ hv)
 have g := @parts_good w
 obtain ⟨e, -, i, k, m⟩ := reads_some g.1 hr hl (fun hh => ⟨fun hn => by rw [g.2 hh, hn] at hr; exact reads_nilH hr, g.2 hh⟩) (fun _ => rfl) (fun _ => rfl)
 refine ⟨by simpa using e, ?_⟩
 rw [← word_x0 hp]
 unfold wordOf
 rw [i, k, m]
theorem one_text {s : List UInt8} {x : Stp} (h : oneR s = some x) : textR x = s := by
 obtain ⟨w, l, hs, hp, hr⟩ := oneR_some h
 obtain ⟨e, hw⟩ := one_word hs hp hr
 unfold textR textW
 rw [hw]
 simp only
 rw [← e, ← hs, join_spl]
theorem one_line {s : List UInt8} {x : Stp} (h : oneR s = some x) : lineR x = s := by
 unfold lineR
 rw [one_text h, if_pos h]
theorem line_one {x : Stp} (h : lineR x ≠ []) : oneR (lineR x) = some x := by
 unfold lineR at h ⊢
 split
 ·rename_i h1; exact h1
 ·rename_i h1; rw [if_neg h1] at h; exact absurd rfl h
theorem oneR_nil : oneR [] = none := by decide
structure Fits (x : Stp) : Prop where
 p16 : x.pf.addr.length = 16
 hop : x.hop = hop0 ∨ checkR x.hop = 0
 text : x.text = [] ∨ printed x.text = true
theorem parseP_16 {w : Wd} {p : Pf} (h : parseP w = some p) : p.addr.length = 16 := by
 unfold parseP at h
 cases ha : addr2 (cut w [47]).1 with
 | none => rw [ha] at h; cases h
 | some q =>
  obtain ⟨six, a⟩ := q
  rw [ha] at h
  simp only at h
  have hl : a.length = 16 := by
   unfold addr2 at ha
   cases h1 : parse (cut w [47]).1 with
   | some b => rw [h1] at ha; injection ha with ha; injection ha with h2 h3; subst h3; exact parse_length h1
   | none =>
    rw [h1] at ha
    cases h2 : dotted (cut w [47]).1 with
    | none => rw [h2] at ha; cases ha
    | some b =>
     rw [h2] at ha; injection ha with ha; injection ha with h3 h4; subst h4
     have := dotParts_length _ _ _ h2
     simp [this]
  cases hn : number (cut w [47]).2.1 128 with
  | none => rw [hn] at h; cases h
  | some n =>
   rw [hn] at h
   simp only at h
   split at h
   ·injection h with h; subst h; exact hl
   ·cases h
theorem read_fits {p : Part} {x y : Stp} {l r : List Wd} (h : read p x l = some (y, r)) (f : Fits x) : Fits y := by
 have num : ∀ {w : Wd} {l : List Wd} {f : Int → Stp}, (match num30 w with | some n => some (f n, l) | none => none) = some (y, r) → ∃ n, y = f n := by
  intro w l f h
  cases hn : num30 w with
  | none => rw [hn] at h; cases h
  | some n =>
   rw [hn] at h
   injection h with h
   injection h with h1 h2
   exact ⟨n, h1.symm⟩
 cases p with
 | A => cases l with
  | nil => cases h
  | cons w l => obtain ⟨n, rfl⟩ := num h; exact ⟨f.p16, f.hop, f.text⟩
 | N => cases l with
  | nil => cases h
  | cons w l => obtain ⟨n, rfl⟩ := num h; exact ⟨f.p16, f.hop, f.text⟩
 | O => cases l with
  | nil => cases h
  | cons w l => obtain ⟨n, rfl⟩ := num h; exact ⟨f.p16, f.hop, f.text⟩
 | Q => cases l with
  | nil => cases h
  | cons w l => obtain ⟨n, rfl⟩ := num h; exact ⟨f.p16, f.hop, f.text⟩
 | S => cases l with
  | nil => cases h
  | cons w l =>
   simp only [read] at h
   split at h
   ·injection h with h
    injection h with h1 h2
    subst h1
    exact ⟨f.p16, f.hop, f.text⟩
   ·cases h
 | W => cases l with
  | nil => cases h
  | cons w l =>
   simp only [read] at h
   split at h
   ·injection h with h
    injection h with h1 h2
    subst h1
    exact ⟨f.p16, f.hop, f.text⟩
   ·cases h
 | P => cases l with
  | nil => cases h
  | cons w l =>
   simp only [read] at h
   cases hn : parseP w with
   | none => rw [hn] at h; cases h
   | some q =>
    rw [hn] at h
    simp only at h
    split at h
    ·injection h with h
     injection h with h1 h2
     subst h1
     exact ⟨parseP_16 hn, f.hop, f.text⟩
    ·cases h
 | H =>
  have h : (match parseR (join l) with | some h => some ({ x with hop := h }, []) | none => none) = some (y, r) := by cases l <;> exact h
  cases hn : parseR (join l) with
  | none => rw [hn] at h; cases h
  | some q =>
   rw [hn] at h
   injection h with h
   injection h with h1 h2
   subst h1
   exact ⟨f.p16, Or.inr ((parseR_iff _ _).1 hn).1, f.text⟩
 | T => cases l with
  | nil => cases h
  | cons w l =>
   simp only [read] at h
   split at h
   ·rename_i hp
    injection h with h
    injection h with h1 h2
    subst h1
    exact ⟨f.p16, f.hop, Or.inr hp⟩
   ·cases h
 | B => cases l with
  | nil => cases h
  | cons w l =>
   simp only [read] at h
   split at h
   ·cases h
   ·split at h
    ·injection h with h
     injection h with h1 h2
     subst h1
     exact f
    ·split at h
     ·split at h
      ·injection h with h
       injection h with h1 h2
       subst h1
       exact ⟨f.p16, f.hop, f.text⟩
      ·cases h
     ·cases h
theorem reads_fits : ∀ {ps : List Part} {x y : Stp} {l r : List Wd}, reads ps x l = some (y, r) → Fits x → Fits y
 | [], x, y, l, r, h, f => by injection h with h; injection h with h1 h2; subst h1; exact f
 | p :: ps, x, y, l, r, h, f => by
  unfold reads at h
  cases h1 : read p x l with
  | none => rw [h1] at h; cases h
  | some q =>
   obtain ⟨v, m⟩ := q
   rw [h1] at h
   exact reads_fits h (read_fits h1 f)
theorem fits_x0 (w : Wd) : Fits (x0 w) := ⟨rfl, Or.inl rfl, Or.inl rfl⟩
theorem one_fits {s : List UInt8} {x : Stp} (h : oneR s = some x) : Fits x := by
 obtain ⟨w, l, -, -, hr⟩ := oneR_some h
 exact reads_fits hr (fits_x0 w)
def wordy (w : Wd) : Prop := ∀ c ∈ w, 33 ≤ c.toNat ∧ c.toNat ≤ 126
theorem wordy_dec (n : Nat) : wordy (decDigits n) := fun c hc => by have := decDigits_dig n c hc; omega
theorem wordy_itoa (n : Int) : wordy (itoa n) := by
 unfold itoa
 split
 ·intro c hc
  rcases List.mem_cons.1 hc with rfl | hc
  ·decide
  ·exact wordy_dec _ c hc
 ·exact wordy_dec _
theorem wordy_app {a b : Wd} (ha : wordy a) (hb : wordy b) : wordy (a ++ b) := fun c hc => (List.mem_append.1 hc).elim (ha c) (hb c)
theorem wordy_cons {d : UInt8} {b : Wd} (hd : 33 ≤ d.toNat ∧ d.toNat ≤ 126) (hb : wordy b) : wordy (d :: b) := fun c hc => (List.mem_cons.1 hc).elim (fun e => e ▸ hd) (hb c)
theorem dig_wordy {c : UInt8} (h : 0 ≤ dig c) : 33 ≤ c.toNat ∧ c.toNat ≤ 126 := by
 unfold dig at h
 split at h
 ·omega
 ·split at h
  ·omega
  ·split at h
   ·omega
   ·omega
theorem wordy_fine {w : Wd} (h : ∀ c ∈ w, Fine c) : wordy w := fun c hc => by
 rcases h c hc with rfl | rfl | h1 | h1
 ·decide
 ·decide
 ·omega
 ·exact dig_wordy h1
theorem wordy_show {a : List UInt8} (h : a.length = 16) : wordy (show_ a) := wordy_fine (parse_chars (parse_show h))
theorem wordy_showD {a : List UInt8} (h : a.length = 4) : wordy (showD a) := fun c hc => by
 rcases dotted_chars (dotted_show h) c hc with rfl | h1
 ·decide
 ·omega
theorem wordy_showP {p : Pf} (h : p.addr.length = 16) : wordy (showP p) := by
 unfold showP textP
 refine wordy_app ?_ (wordy_cons (by decide) (wordy_itoa _))
 split
 ·exact wordy_show h
 ·exact wordy_showD (by simp [h])
theorem wordy_hex : ∀ l : List UInt8, wordy (hex l)
 | [] => fun c hc => by cases hc
 | c :: r => by
  have hl : ∀ n, n < 16 → 33 ≤ (letter n).toNat ∧ (letter n).toNat ≤ 126 := fun n hn => dig_wordy (by rw [dig_letter n hn]; omega)
  have := c.toNat_lt
  exact wordy_cons (hl _ (by omega)) (wordy_cons (hl _ (by omega)) (wordy_hex r))
theorem wordy_printed {w : Wd} (h : printed w = true) : wordy w := fun c hc => by
 unfold printed at h
 have := List.all_eq_true.1 (Bool.and_eq_true_iff.1 h).2 c hc
 simpa using this
theorem wordy_opW (n : Int) : wordy (opW n) := by
 unfold opW
 split
 ·intro c hc; revert c; decide
 ·split
  ·intro c hc; revert c; decide
  ·split
   ·intro c hc; revert c; decide
   ·split
    ·intro c hc; revert c; decide
    ·intro c hc; cases hc
theorem wordy_showW (h : Hop) : ∀ w ∈ showW h, wordy w := by
 intro w hw
 unfold showW at hw
 have k1 : wordy wPort := by intro c hc; revert c; decide
 have k2 : wordy wBackup := by intro c hc; revert c; decide
 have k3 : wordy wPipe := by intro c hc; revert c; decide
 have kd : ∀ l : List Int, ∀ w ∈ l.map dec, wordy w := by
  intro l w hw
  obtain ⟨n, -, rfl⟩ := List.mem_map.1 hw
  exact wordy_dec _
 rcases List.mem_append.1 hw with hw | hw
 ·rcases List.mem_append.1 hw with hw | hw
  ·rcases List.mem_append.1 hw with hw | hw
   ·rcases List.mem_append.1 hw with hw | hw
    ·rw [List.mem_singleton.1 hw]; exact wordy_opW _
    ·exact kd _ w hw
   ·split at hw
    ·rcases List.mem_cons.1 hw with rfl | hw
     ·exact k1
     ·rw [List.mem_singleton.1 hw]; exact wordy_dec _
    ·cases hw
  ·split at hw
   ·rcases List.mem_cons.1 hw with rfl | hw
    ·exact k2
    ·rcases List.mem_cons.1 hw with rfl | hw
     ·exact wordy_dec _
     ·exact kd _ w hw
   ·cases hw
 ·split at hw
  ·rw [List.mem_singleton.1 hw]; exact k3
  ·cases hw
theorem mem_join : ∀ {ws : List Wd} {c : UInt8}, c ∈ join ws → c = 32 ∨ ∃ w ∈ ws, c ∈ w
 | [], c, h => by cases h
 | [w], c, h => Or.inr ⟨w, List.mem_cons_self, h⟩
 | w :: v :: ws, c, h => by
  rw [join] at h
  rcases List.mem_append.1 h with h | h
  ·exact Or.inr ⟨w, List.mem_cons_self, h⟩
  ·rcases List.mem_cons.1 h with h | h
   ·exact Or.inl h
   ·rcases mem_join h with h | ⟨u, hu, hc⟩
    ·exact Or.inl h
    ·exact Or.inr ⟨u, List.mem_cons_of_mem _ hu, hc⟩
theorem shw_wordy {x : Stp} (f : Fits x) (p : Part) (hH : p = .H → checkR x.hop = 0) : ∀ w ∈ shw p x, wordy w := by
 intro w hw
 cases p with
 | A => rw [List.mem_singleton.1 hw]; exact wordy_itoa _
 | N => rw [List.mem_singleton.1 hw]; exact wordy_itoa _
 | O => rw [List.mem_singleton.1 hw]; exact wordy_itoa _
 | Q => rw [List.mem_singleton.1 hw]; exact wordy_itoa _
 | S => rw [List.mem_singleton.1 hw]; exact wordy_app (wordy_itoa _) (wordy_cons (by decide) (wordy_itoa _))
 | W => obtain ⟨q, -, rfl⟩ := List.mem_map.1 hw; exact wordy_app (wordy_itoa _) (wordy_cons (by decide) (wordy_itoa _))
 | P => rw [List.mem_singleton.1 hw]; exact wordy_showP f.p16
 | H =>
  have e : spl (showR x.hop) = showW x.hop := spl_join _ (showW_ne _) (showW_no32 _)
  rw [shw, e] at hw
  exact wordy_showW _ w hw
 | T =>
  rw [List.mem_singleton.1 hw]
  rcases f.text with h | h
  ·rw [h]; intro c hc; cases hc
  ·exact wordy_printed h
 | B =>
  rw [List.mem_singleton.1 hw]
  split
  ·intro c hc; revert c; decide
  ·exact wordy_hex _
theorem names_wordy : ∀ w ∈ names, ∀ c ∈ w, 33 ≤ c.toNat ∧ c.toNat ≤ 126 := by decide
theorem word_wordy {w : Wd} (h : partsOf w ≠ []) : wordy w := by
 rcases parts_word h with h1 | ⟨-, -, h3⟩
 ·rcases h1 with rfl | rfl <;> (intro c hc; revert c; decide)
 ·exact names_wordy w (List.mem_of_getElem? (idx_get h3))
theorem one_signs {s : List UInt8} {x : Stp} (h : oneR s = some x) : ∀ c ∈ s, 32 ≤ c.toNat ∧ c.toNat ≤ 126 := by
 obtain ⟨w, l, hs, hp, hr⟩ := oneR_some h
 obtain ⟨e, hw⟩ := one_word hs hp hr
 intro c hc
 rw [← join_spl s, hs, e] at hc
 rcases mem_join hc with rfl | ⟨v, hv, hcv⟩
 ·decide
 ·have : wordy v := by
   rcases List.mem_cons.1 hv with rfl | hv
   ·exact word_wordy hp
   ·obtain ⟨p, -, hvp⟩ := List.mem_flatMap.1 hv
    by_cases hH : p = .H
    ·subst hH
     have e : spl (showR x.hop) = showW x.hop := spl_join _ (showW_ne _) (showW_no32 _)
     rw [shw, e] at hvp
     exact wordy_showW _ v hvp
    ·exact shw_wordy (one_fits h) p (fun e => absurd e hH) v hvp
  have := this c hcv
  omega
theorem one_no10 {s : List UInt8} {x : Stp} (h : oneR s = some x) : (10 : UInt8) ∉ s := fun hm => by
 have := one_signs h 10 hm
 exact absurd this.1 (by decide)
structure Scr where
 r1 : Int
 r2 : Int
 r3 : Int
 four : List UInt8
 six : List UInt8
 steps : List Stp
deriving DecidableEq
def wRooms : Wd := [114, 111, 111, 109, 115]
def wSelf : Wd := [115, 101, 108, 102]
def roomsR : List Wd → Option (Int × Int × Int)
 | [w, a, b, c] => if w = wRooms then (match num30 a, num30 b, num30 c with | some x, some y, some z => some (x, y, z) | _, _, _ => none) else none
 | _ => none
def selfR : List Wd → Option (List UInt8 × List UInt8)
 | [w, a, b] => if w = wSelf then (match dotted a, parse b with | some x, some y => if show_ y = b then some (x, y) else none | _, _ => none) else none
 | _ => none
def takeR (x : Scr) (s : List UInt8) : Option Scr := match roomsR (spl s) with
 | some r => some { x with r1 := r.1, r2 := r.2.1, r3 := r.2.2 }
 | none => match selfR (spl s) with
  | some a => some { x with four := a.1, six := a.2 }
  | none => match oneR s with
   | some t => if x.steps.length = 1000 then none else some { x with steps := x.steps ++ [t] }
   | none => none
def skipped (s : List UInt8) : Bool := decide (s = []) || decide (s.head? = some 35)
def linesR (x : Scr) (i : Nat) : List Wd → Except Nat Scr
 | [] => .ok x
 | s :: l => if skipped s = true then linesR x (i + 1) l else match takeR x s with
  | some y => linesR y (i + 1) l
  | none => .error (i + 1)
def scr0 : Scr := ⟨16, 16, 16, List.replicate 4 0, List.replicate 16 0, []⟩
def parseX (s : List UInt8) : Except (Int × Nat) Scr := if 65536 < s.length then .error (2, 0) else match linesR scr0 0 (splitC 10 s) with
 | .ok x => .ok x
 | .error i => .error (20, i)
def roomsL (x : Scr) : List UInt8 := join [wRooms, itoa x.r1, itoa x.r2, itoa x.r3]
def selfL (x : Scr) : List UInt8 := join [wSelf, showD x.four, show_ x.six]
def linesOf (x : Scr) : List Wd := roomsL x :: selfL x :: x.steps.map lineR
def body : List Wd → List UInt8
 | [] => []
 | w :: l => w ++ 10 :: body l
def showX (x : Scr) : List UInt8 := if [] ∈ x.steps.map lineR then [] else match parseX (body (linesOf x)) with
 | .ok y => if (y.r1, y.r2, y.r3) = (x.r1, x.r2, x.r3) then body (linesOf x) else []
 | .error _ => []
theorem split_body : ∀ (ls : List Wd), (∀ w ∈ ls, (10 : UInt8) ∉ w) → splitC 10 (body ls) = ls ++ [[]]
 | [], _ => rfl
 | w :: l, h => by rw [body, splitC_app _ (h w List.mem_cons_self), split_body l fun v hv => h v (List.mem_cons_of_mem _ hv)]; rfl
theorem wordy_no {w : Wd} (h : wordy w) : (∀ c ∈ w, c ≠ 32) ∧ (10 : UInt8) ∉ w := ⟨fun c hc e => by have := h c hc; subst e; exact absurd this.1 (by decide), fun hc => absurd (h 10 hc).1 (by decide)⟩
theorem join_no10 {ws : List Wd} (h : ∀ w ∈ ws, wordy w) : (10 : UInt8) ∉ join ws := fun hm => by
 rcases mem_join hm with h1 | ⟨w, hw, hc⟩
 ·exact absurd h1 (by decide)
 ·exact (wordy_no (h w hw)).2 hc
structure Sized (x : Scr) : Prop where
 four : x.four.length = 4
 six : x.six.length = 16
theorem rooms_words (x : Scr) : ∀ w ∈ [wRooms, itoa x.r1, itoa x.r2, itoa x.r3], wordy w := by
 intro w hw
 have k : wordy wRooms := by intro c hc; revert c; decide
 simp only [List.mem_cons, List.not_mem_nil, or_false] at hw
 rcases hw with rfl | rfl | rfl | rfl
 ·exact k
 ·exact wordy_itoa _
 ·exact wordy_itoa _
 ·exact wordy_itoa _
theorem self_words {x : Scr} (z : Sized x) : ∀ w ∈ [wSelf, showD x.four, show_ x.six], wordy w := by
 intro w hw
 have k : wordy wSelf := by intro c hc; revert c; decide
 simp only [List.mem_cons, List.not_mem_nil, or_false] at hw
 rcases hw with rfl | rfl | rfl
 ·exact k
 ·exact wordy_showD z.four
 ·exact wordy_show z.six
theorem spl_roomsL (x : Scr) : spl (roomsL x) = [wRooms, itoa x.r1, itoa x.r2, itoa x.r3] := spl_join _ (by simp) fun w hw => (wordy_no (rooms_words x w hw)).1
theorem spl_selfL {x : Scr} (z : Sized x) : spl (selfL x) = [wSelf, showD x.four, show_ x.six] := spl_join _ (by simp) fun w hw => (wordy_no (self_words z w hw)).1
theorem parts_no : partsOf wRooms = [] ∧ partsOf wSelf = [] := by decide
theorem word_head {w : Wd} (h : partsOf w ≠ []) : w.head? ≠ some 35 ∧ w ≠ [] ∧ w ≠ wRooms ∧ w ≠ wSelf := by
 refine ⟨fun e => ?_, fun e => h (by rw [e]; decide), fun e => h (by rw [e]; exact parts_no.1), fun e => h (by rw [e]; exact parts_no.2)⟩
 cases w with
 | nil => cases e
 | cons c r =>
  injection e with e
  have := (word_wordy h c List.mem_cons_self)
  rcases parts_word h with h1 | ⟨-, -, h3⟩
  ·rcases h1 with h1 | h1
   ·injection h1 with h1 _; rw [h1] at e; exact absurd e (by decide)
   ·injection h1 with h1 _; rw [h1] at e; exact absurd e (by decide)
  ·have hm := List.mem_of_getElem? (idx_get h3)
   have : ∀ w ∈ names, w.head? ≠ some 35 := by decide
   exact this _ hm (by rw [e]; rfl)
theorem spl_head : ∀ (c : UInt8) (r : List UInt8), c ≠ 32 → ∃ w ws, spl (c :: r) = (c :: w) :: ws := by
 intro c r h
 cases hs : spl r with
 | nil => exact absurd hs (spl_ne r)
 | cons v vs => exact ⟨v, vs, by simp [spl, h, hs]⟩
theorem one_step {s : List UInt8} {t : Stp} (h : oneR s = some t) : skipped s = false ∧ roomsR (spl s) = none ∧ selfR (spl s) = none := by
 obtain ⟨w, l, hs, hp, -⟩ := oneR_some h
 obtain ⟨h1, h2, h3, h4⟩ := word_head hp
 refine ⟨?_, ?_, ?_⟩
 ·unfold skipped
  cases s with
  | nil => rw [oneR_nil] at h; cases h
  | cons c r =>
   have : c ≠ 35 := by
    rintro rfl
    obtain ⟨v, vs, e⟩ := spl_head 35 r (by decide)
    rw [e] at hs
    injection hs with hs _
    rw [← hs] at h1
    exact h1 rfl
   simp [this]
 ·rw [hs]
  unfold roomsR
  split
  ·rename_i e; injection e with e _; rw [if_neg (by rw [← e]; exact h3)]
  ·rfl
 ·rw [hs]
  unfold selfR
  split
  ·rename_i e; injection e with e _; rw [if_neg (by rw [← e]; exact h4)]
  ·rfl
theorem take_step {x : Scr} {s : List UInt8} {t : Stp} (h : oneR s = some t) : takeR x s = if x.steps.length = 1000 then none else some { x with steps := x.steps ++ [t] } := by
 obtain ⟨-, h2, h3⟩ := one_step h
 unfold takeR
 rw [h2, h3, h]
theorem lines_app : ∀ (l m : List Wd) (x : Scr) (i : Nat), linesR x i (l ++ m) = (match linesR x i l with | .ok y => linesR y (i + l.length) m | .error k => .error k)
 | [], m, x, i => rfl
 | s :: l, m, x, i => by
  rw [List.cons_append, linesR, linesR]
  split
  ·rw [lines_app l m]; simp only [List.length_cons]; rw [show i + 1 + l.length = i + (l.length + 1) by omega]
  ·split
   ·rw [lines_app l m]; simp only [List.length_cons]; rw [show i + 1 + l.length = i + (l.length + 1) by omega]
   ·rfl
theorem lines_steps : ∀ (ts : List Stp) (x : Scr) (i : Nat), (∀ t ∈ ts, oneR (lineR t) = some t) → linesR x i (ts.map lineR) = linesR x i (ts.map lineR) → x.steps.length + ts.length ≤ 1000 → linesR x i (ts.map lineR) = .ok { x with steps := x.steps ++ ts }
 | [], x, i, _, _, _ => by simp [linesR]
 | t :: ts, x, i, h, _, hl => by
  have h1 := h t List.mem_cons_self
  simp only [List.length_cons] at hl
  rw [List.map_cons, linesR, (one_step h1).1, if_neg (by simp), take_step h1, if_neg (by omega)]
  simp only
  rw [lines_steps ts _ _ (fun u hu => h u (List.mem_cons_of_mem _ hu)) rfl (by simp; omega)]
  simp
theorem skip_rooms (x : Scr) : skipped (roomsL x) = false := by
 unfold skipped roomsL
 simp [join, wRooms]
theorem skip_self (x : Scr) : skipped (selfL x) = false := by
 unfold skipped selfL
 simp [join, wSelf]
theorem rooms_take (x y : Scr) : takeR y (roomsL x) = (match num30 (itoa x.r1), num30 (itoa x.r2), num30 (itoa x.r3) with | some a, some b, some c => some { y with r1 := a, r2 := b, r3 := c } | _, _, _ => none) := by
 have ho : oneR (roomsL x) = none := by
  unfold oneR
  rw [spl_roomsL, oneW, parts_no.1]
  simp [reads]
 unfold takeR
 rw [spl_roomsL, ho]
 simp only [roomsR, selfR, if_true]
 cases num30 (itoa x.r1) with
 | none => rfl
 | some a => cases num30 (itoa x.r2) with
  | none => rfl
  | some b => cases num30 (itoa x.r3) with
   | none => rfl
   | some c => rfl
theorem self_take {x : Scr} (z : Sized x) (y : Scr) : takeR y (selfL x) = some { y with four := x.four, six := x.six } := by
 unfold takeR
 rw [spl_selfL z]
 simp only [roomsR, selfR, if_true]
 rw [dotted_show z.four, parse_show z.six]
 simp
theorem body_no10 {x : Scr} (z : Sized x) (h : [] ∉ x.steps.map lineR) : ∀ w ∈ linesOf x, (10 : UInt8) ∉ w := by
 intro w hw
 rcases List.mem_cons.1 hw with rfl | hw
 ·exact join_no10 (rooms_words x)
 ·rcases List.mem_cons.1 hw with rfl | hw
  ·exact join_no10 (self_words z)
  ·obtain ⟨t, ht, rfl⟩ := List.mem_map.1 hw
   exact one_no10 (line_one fun e => h (by rw [← e]; exact List.mem_map_of_mem ht))
end Go.Proofs.YtdbgeobolongmaaGreatDoor.Sc

/- Plain law of layer 15: the document's parse. -/
import Derived.Test.YtilahcnpjbnjiaaDoorHopPlain
namespace Go.Proofs.YtilahcnpjbnjiaaDoor.Hp
open Go Go.OctetPlain
set_option linter.unusedVariables false
set_option linter.unusedSimpArgs false

/-- what the words told so far, and which part is on -/
structure St where
  h : Hop
  part : Int
def wd (s : St) (w : Wd) : St :=
  if w = wPort then { s with part := 1 } else if w = wBackup then { s with part := 2 } else if w = wPipe then { s with h := { s.h with pipe := true } }
  else match number w 1048575 with
    | none => s
    | some n => if s.part = 0 then { s with h := { s.h with labels := s.h.labels ++ [n] } } else if s.part = 1 then { s with h := { s.h with port := n } }
      else if s.part = 2 then ⟨{ s.h with backup := n }, 3⟩ else { s with h := { s.h with repair := s.h.repair ++ [n] } }
def opV (w : Wd) : Int := match opOf w with | some n => n | none => -1
def st0 (w : Wd) : St := ⟨⟨opV w, [], 0, -1, [], false⟩, 0⟩
def interp : List Wd → Hop
  | [] => ⟨-1, [], 0, -1, [], false⟩
  | w :: ws => ((ws.take 59).foldl wd (st0 w)).h
def refParse (s : List UInt8) : Option Hop := if checkR (interp (spl s)) = 0 ∧ showR (interp (spl s)) = s then some (interp (spl s)) else none
theorem dec_ne_w {n : Int} {w : Wd} (hw : number w 1048575 = none) (h0 : 0 ≤ n) (h1 : n ≤ 1048575) : dec n ≠ w := fun e => by
  have := number_dec h0 h1
  rw [e, hw] at this
  cases this
theorem wd_dec {s : St} {n : Int} (h0 : 0 ≤ n) (h1 : n ≤ 1048575) : wd s (dec n) = if s.part = 0 then { s with h := { s.h with labels := s.h.labels ++ [n] } } else if s.part = 1 then { s with h := { s.h with port := n } }
      else if s.part = 2 then ⟨{ s.h with backup := n }, 3⟩ else { s with h := { s.h with repair := s.h.repair ++ [n] } } := by
  unfold wd
  rw [if_neg (dec_ne_w num_wPort h0 h1), if_neg (dec_ne_w num_wBackup h0 h1), if_neg (dec_ne_w num_wPipe h0 h1), number_dec h0 h1]
theorem run_labels : ∀ (L : List Int) (h : Hop), (∀ n ∈ L, 0 ≤ n ∧ n ≤ 1048575) → (L.map dec).foldl wd ⟨h, 0⟩ = ⟨{ h with labels := h.labels ++ L }, 0⟩
  | [], h, _ => by simp
  | n :: L, h, hl => by
    have hn := hl n List.mem_cons_self
    rw [List.map_cons, List.foldl_cons, wd_dec hn.1 hn.2, if_pos rfl, run_labels L _ fun k hk => hl k (List.mem_cons_of_mem _ hk)]
    simp
theorem run_repair : ∀ (L : List Int) (h : Hop), (∀ n ∈ L, 0 ≤ n ∧ n ≤ 1048575) → (L.map dec).foldl wd ⟨h, 3⟩ = ⟨{ h with repair := h.repair ++ L }, 3⟩
  | [], h, _ => by simp
  | n :: L, h, hl => by
    have hn := hl n List.mem_cons_self
    rw [List.map_cons, List.foldl_cons, wd_dec hn.1 hn.2, if_neg (show ¬ (3 : Int) = 0 by decide), if_neg (show ¬ (3 : Int) = 1 by decide), if_neg (show ¬ (3 : Int) = 2 by decide), run_repair L _ fun k hk => hl k (List.mem_cons_of_mem _ hk)]
    simp
theorem interp_show {h : Hop} (v : Valid h) : interp (showW h) = h := by
  obtain ⟨op, L, P, B, R, C⟩ := h
  obtain ⟨o0, o3, l1, l2, n1, n2, p1, p2, q0, q1, q3, b0, b1, b3, b4, b5⟩ := v
  simp only at *
  have hs : showW ⟨op, L, P, B, R, C⟩ = opW op :: (L.map dec ++ ((if op ≠ 3 then [wPort, dec P] else []) ++ ((if B ≠ -1 then wBackup :: dec B :: R.map dec else []) ++ (if C = true then [wPipe] else [])))) := by unfold showW; simp
  have hlen : (L.map dec ++ ((if op ≠ 3 then [wPort, dec P] else []) ++ ((if B ≠ -1 then wBackup :: dec B :: R.map dec else []) ++ (if C = true then [wPipe] else [])))).length ≤ 59 := by
    simp only [List.length_append, List.length_map]
    split <;> split <;> split <;> simp <;> omega
  rw [hs, interp, List.take_of_length_le hlen, List.foldl_append, List.foldl_append, List.foldl_append]
  have hop : opV (opW op) = op := by unfold opV; rw [opOf_opW o0 o3]
  rw [st0, hop, run_labels L _ fun n hn => pushed_bd (p1 n hn)]
  simp only [List.nil_append]
  have h1 : ∃ pt, (if op ≠ 3 then [wPort, dec P] else []).foldl wd ⟨⟨op, L, 0, -1, [], false⟩, 0⟩ = ⟨⟨op, L, P, -1, [], false⟩, pt⟩ := by
    by_cases ho : op = 3
    · rw [if_neg (by simpa using ho), q3 ho]; exact ⟨0, rfl⟩
    · rw [if_pos ho]
      refine ⟨1, ?_⟩
      rw [List.foldl_cons, List.foldl_cons, List.foldl_nil]
      have : wd ⟨⟨op, L, 0, -1, [], false⟩, 0⟩ wPort = ⟨⟨op, L, 0, -1, [], false⟩, 1⟩ := by unfold wd; rw [if_pos rfl]
      rw [this, wd_dec q0 (by omega), if_neg (show ¬ (1 : Int) = 0 by decide), if_pos rfl]
  obtain ⟨pt, h1⟩ := h1
  rw [h1]
  have h2 : ∃ pt', (if B ≠ -1 then wBackup :: dec B :: R.map dec else []).foldl wd ⟨⟨op, L, P, -1, [], false⟩, pt⟩ = ⟨⟨op, L, P, B, R, false⟩, pt'⟩ := by
    by_cases hb : B = -1
    · rw [if_neg (by simpa using hb), b4 hb, hb]; exact ⟨pt, rfl⟩
    · rw [if_pos hb]
      refine ⟨3, ?_⟩
      rw [List.foldl_cons, List.foldl_cons]
      have : wd ⟨⟨op, L, P, -1, [], false⟩, pt⟩ wBackup = ⟨⟨op, L, P, -1, [], false⟩, 2⟩ := by unfold wd; rw [if_neg (by decide), if_pos rfl]
      rw [this, wd_dec (by omega) (by omega), if_neg (show ¬ (2 : Int) = 0 by decide), if_neg (show ¬ (2 : Int) = 1 by decide), if_pos rfl, run_repair R _ fun n hn => pushed_bd (p2 n hn)]
      simp
  obtain ⟨pt', h2⟩ := h2
  rw [h2]
  cases C
  · rfl
  · simp only [if_true, List.foldl_cons, List.foldl_nil]
    unfold wd
    rw [if_neg (by decide), if_neg (by decide), if_pos rfl]
/-- both parses are one -/
theorem refParse_eq (s : List UInt8) : refParse s = parseR s := by
  have key : ∀ h, refParse s = some h ↔ parseR s = some h := fun h => by
    rw [parseR_iff]
    unfold refParse
    constructor
    · intro hr
      split at hr
      · cases hr; assumption
      · cases hr
    · rintro ⟨h1, h2⟩
      have hi : interp (spl s) = h := by
        rw [← h2, showR, spl_join _ (showW_ne h) (showW_no32 h)]
        exact interp_show ((check_iff h).1 h1)
      rw [hi, if_pos ⟨h1, h2⟩]
  cases hp : parseR s with
  | some h => exact (key h).2 hp
  | none =>
    cases hr : refParse s with
    | none => rfl
    | some h => rw [(key h).1 hr] at hp; cases hp
/-- a hop with another backup -/
def guarded (h : Hop) (by_ : Int) (rep : List Int) : Hop := { h with backup := by_, repair := rep }
theorem guard_ok {h : Hop} (v : Valid h) (h3 : h.op ≠ 3) {b : Int} (b0 : 0 ≤ b) (b1 : b ≤ 63) {l : List Int} (hl : l.length ≤ 16) (hp : ∀ n ∈ l, 16 ≤ n ∧ n ≤ 65551) :
    (b = h.port → checkR (guarded h b l) = 54) ∧ (b ≠ h.port → Valid (guarded h b l) ∧ Valid (guarded (guarded h b l) (-1) [])) := by
  have hpu : ∀ n ∈ l, pushed n = true := fun n hn => by
    have := hp n hn
    unfold pushed
    simp only [Bool.or_eq_true, Bool.and_eq_true, decide_eq_true_eq]
    omega
  obtain ⟨o0, o3, l1, l2, n1, n2, p1, p2, q0, q1, q3, b0', b1', b3, b4, b5⟩ := v
  constructor
  · intro hb
    unfold checkR guarded
    simp only
    rw [if_neg, if_neg (by omega), if_neg, if_neg (by omega), if_pos (Or.inr (Or.inr hb))]
    · simp only [Bool.not_eq_false, Bool.and_eq_true, List.all_eq_true]
      exact ⟨p1, hpu⟩
    · rintro (h1 | h1 | ⟨h1, h2⟩ | ⟨h1, h2⟩)
      · omega
      · omega
      · exact l1 h1 h2
      · exact h2 (l2 h1)
  · intro hb
    exact ⟨⟨o0, o3, l1, l2, n1, hl, p1, hpu, q0, q1, q3, by simp only [guarded]; omega, b1, fun e => absurd e h3, fun e => by simp only [guarded] at e; omega, hb⟩,
      ⟨o0, o3, l1, l2, n1, by simp [guarded], p1, by simp [guarded], q0, q1, q3, by simp [guarded], by simp [guarded], fun e => absurd e h3, fun _ => rfl, by simp only [guarded]; omega⟩⟩
end Go.Proofs.YtilahcnpjbnjiaaDoor.Hp

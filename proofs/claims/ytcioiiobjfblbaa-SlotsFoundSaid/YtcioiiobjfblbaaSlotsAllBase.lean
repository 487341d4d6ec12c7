/- Items of slots in memory. -/
import Derived.Test.YtcioiiobjfblbaaBase
import Derived.Test.YtcioiiobjfblbaaSlotsPlain2
namespace Go.Proofs.Ytcioiiobjfblbaa
set_option linter.unusedVariables false
set_option linter.unusedSimpArgs false
open Go.RowKit

theorem wpList_appB {P : Program} {w : World} {ops : Array Oper} {rest : List Oper} {o : Oper} {a : Act} {Q : Exit → Act → World → Prop} {t e : TypeId} {size bytes : Nat} (hE : ElemOk P t e size bytes) (hgd : o.guard = none) (s x : Operand)
    (ho : o.op = .call { callee := .builtin .append, args := #[s, x], argTypes := #[t, t] })
    (base : Nat) (v : Value) (n : Nat) (xs : List Value) (hs : a.eval s = v) (hown : w.ownsRow base e size v n xs)
    (m c B : Nat) (hBe : B = w.heap.size) (news : List Value) (hx : a.eval x = .slice (some ⟨B, 0, none⟩) m c) (hl : news.length = m * size) (h1 : ∀ u ∈ news, u.oneCell' = true)
    (hsm : n + m ≤ 1099511627776) (hbase : base ≤ w.heap.size)
    (h : ∀ v' w', w'.ownsRow base e size v' (n + m) (xs ++ news) → w.grownBy w' v.ownBlock → (v'.ownBlock = v.ownBlock ∨ v'.ownBlock = some (w.heap.size + 1)) → Below base w w' → wpList P ops Q rest (a.put o.dst v') w') :
    wpList P ops Q (o :: rest) a (w.alloc (.cells news.toArray e)) := by
  subst hBe
  exact wpList_app hE hgd s x ho base v n xs hs hown m c news hx hl h1 hsm hbase h

def encIt (s : Sl.It) : List Value := [.int .i64 s.1, .int .i64 s.2]
theorem encIt_len (s : Sl.It) : (encIt s).length = 2 := rfl
theorem encIt_one (s : Sl.It) : ∀ u ∈ encIt s, u.oneCell' = true := by intro u hu; simp [encIt] at hu; rcases hu with rfl | rfl <;> rfl
theorem elemIt : ElemOk Try.prog 54 57 2 16 := .mk Try.underlying54 (z := .agg #[.int .i64 0, .int .i64 0]) (by kernel_rfl) (by omega) (by omega) rfl
theorem owns_it {w : World} {B : Nat} {o : Value} {m : List Sl.It} (h : w.ownsRow B 57 2 o m.length (flat encIt m)) : ∃ p cap, o = .slice p m.length cap ∧ m.length ≤ cap ∧ cap ≤ 9223372036854775807 ∧ RdP w 2 encIt p m := SlR.of_owns encIt_len h
end Go.Proofs.Ytcioiiobjfblbaa

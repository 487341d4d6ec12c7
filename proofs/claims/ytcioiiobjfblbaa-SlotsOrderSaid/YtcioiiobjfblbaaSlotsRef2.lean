/- footplateref13: Put and Delete. -/
import Derived.Test.YtcioiiobjfblbaaSlotsRef
import Derived.Test.YtcioiiobjfblbaaSlotsFns
namespace Go.Proofs.Ytcioiiobjfblbaa
set_option linter.unusedVariables false
set_option linter.unusedSimpArgs false
open Go.RowKit Go.Shelf Go.Proofs

theorem elemI : ElemOk Try.prog 38 58 2 16 := .mk Try.underlying38 (z := .agg #[.int .i64 0, .int .i64 0]) (by kernel_rfl) (by omega) (by omega) rfl
theorem wpList_app_sl' {α : Type} {P : Program} {w : World} {ops : Array Oper} {rest : List Oper} {o : Oper} {a : Act} {Q : Exit → Act → World → Prop} {t e : TypeId} {size bytes : Nat} (hE : ElemOk P t e size bytes) (hgd : o.guard = none) (s x : Operand)
    (ho : o.op = .call { callee := .builtin .append, args := #[s, x], argTypes := #[t, t] })
    (base : Nat) (v : Value) (n : Nat) (xs : List Value) (hs : a.eval s = v) (hown : w.ownsRow base e size v n xs)
    (enc : α → List Value) (hk : ∀ x, (enc x).length = size) (p : Option Addr) (c m : Nat) (ys : List α) (hm : m = ys.length) (hx : a.eval x = .slice p m c) (hr : RdP w size enc p ys) (h1 : ∀ y, ∀ u ∈ enc y, u.oneCell' = true)
    (hsm : n + ys.length ≤ 1099511627776) (hbase : base ≤ w.heap.size)
    (h : ∀ v' w', w'.ownsRow base e size v' (n + ys.length) (xs ++ flat enc ys) → w.grownBy w' v.ownBlock → (v'.ownBlock = v.ownBlock ∨ v'.ownBlock = some w.heap.size) → Below base w w' → wpList P ops Q rest (a.put o.dst v') w') :
    wpList P ops Q (o :: rest) a w := by
  subst hm
  exact wpList_app_sl hE hgd s x ho base v n xs hs hown enc hk p c ys hx hr h1 hsm hbase h

theorem RdP.take {α : Type} {w : World} {k : Nat} {enc : α → List Value} {p : Option Addr} {xs : List α} (h : RdP w k enc p xs) (j : Nat) : RdP w k enc p (xs.take j) := by
  refine ⟨fun e => by rw [List.length_take, h.1 e]; omega, fun a ha => ?_⟩
  obtain ⟨h6, h7, h8⟩ := h.2 a ha
  refine ⟨h6, h7, fun i x hx j' u hu => h8 i x ?_ j' u hu⟩
  rw [List.getElem?_take] at hx
  split at hx
  · exact hx
  · cases hx
theorem RdP.drop {α : Type} {w : World} {k : Nat} {enc : α → List Value} {b off : Nat} {xs : List α} (h : RdP w k enc (some ⟨b, off, none⟩) xs) (j : Nat) : RdP w k enc (some ⟨b, off + j * k, none⟩) (xs.drop j) := by
  obtain ⟨h6, h7, h8⟩ := h.2 _ rfl
  refine ⟨fun e => (by cases e), fun a ha => ?_⟩
  cases ha
  refine ⟨rfl, h7, fun i x hx j' u hu => ?_⟩
  rw [List.getElem?_drop] at hx
  have := h8 _ x hx j' u hu
  rw [← this]
  congr 2
  simp only [Nat.add_mul]
  omega

/-- a row's block is one of labels' -/
def TyI (w : World) (v : Value) : Prop := ∀ a n c, v = .slice (some a) n c → ∃ cs f, w.heap[a.block]? = some (.cells cs 58 f)
theorem TyI.below {w w' : World} {v : Value} (h : TyI w v) {B : Nat} (hb : Below B w w') (hB : w.heap.size ≤ B) : TyI w' v := fun a n c e => by
  obtain ⟨cs, f, h1⟩ := h a n c e
  exact ⟨cs, f, (hb.block _ (Nat.lt_of_lt_of_le (Array.getElem?_eq_some_iff.1 h1).1 hB)).trans h1⟩
theorem TyI.set {w : World} {v : Value} (h : TyI w v) (x : Addr) (u : Value) : TyI (w.setCell x u) v := fun a n c e => by
  obtain ⟨cs, f, h1⟩ := h a n c e
  by_cases hx : a.block = x.block
  · obtain ⟨hlt, hk⟩ := Array.getElem?_eq_some_iff.1 h1
    obtain ⟨xb, xo, xs⟩ := x
    simp only at hx
    subst hx
    have h2 : (w.setCell ⟨a.block, xo, xs⟩ u).heap[a.block]? = some (.cells (if xs.isSome = true then cs else cs.setIfInBounds xo u) 58 f) := by
      show (w.heap.modify a.block _)[a.block]? = _
      rw [Array.getElem?_eq_getElem (by rw [Array.size_modify]; exact hlt), Array.getElem_modify_self, hk]
    exact ⟨_, _, h2⟩
  · exact ⟨cs, f, (Below.heap_setCell _ _ _ _ hx).trans h1⟩
theorem TyI.sets : ∀ {w : World} {v : Value} (h : TyI w v) (ws : List (Addr × Value)), TyI (ws.foldl (fun W x => W.setCell x.1 x.2) w) v
  | _, _, h, [] => h
  | _, _, h, x :: r => (h.set x.1 x.2).sets r
theorem TyI.owns {w : World} {B : Nat} {v : Value} {n : Nat} {xs : List Value} (h : w.ownsRow B 58 2 v n xs) : TyI w v := fun a m c e => by
  rcases h.2 with ⟨rfl, _⟩ | ⟨g, cap, cur, rfl, _, hg, _⟩
  · cases e
  · cases e; exact ⟨_, _, hg⟩
def RetTE (is : Bool) (room : Int) (code : Int) (L : List Sl.It) (w : World) (e : Ending) (w' : World) : Prop :=
  ∃ v, e = .returned (.tuple #[.agg #[.bool is, .int .i64 room, v], .int .i64 code]) ∧ SlR w' 2 encIt v L ∧ TyI w' v ∧ Below w.heap.size w w'

/-- cells written in blocks below a row's -/
theorem slr_sets {e : TypeId} : ∀ {w5 : World} {B : Nat} {v : Value} {L' : List Sl.It} (h : w5.ownsRow B e 2 v L'.length (flat encIt L')) (ws : List (Addr × Value)) (hlt : ∀ x ∈ ws, x.1.block < B), SlR (ws.foldl (fun W x => W.setCell x.1 x.2) w5) 2 encIt v L' := by
  intro w5 B v L' h ws hlt
  obtain ⟨p, c, rfl, h1, h2, hR⟩ := SlR.of_owns encIt_len h
  refine ⟨p, c, rfl, h1, h2, ?_⟩
  have hg : ∀ a, p = some a → B ≤ a.block := fun a ha => by subst ha; exact (h.lt a.block rfl).1
  clear h
  induction ws generalizing w5 with
  | nil => exact hR
  | cons x r ih =>
    refine ih (fun y hy => hlt y (List.mem_cons_of_mem _ hy)) (w5 := w5.setCell x.1 x.2) ?_
    have hx := hlt x List.mem_cons_self
    refine ⟨hR.1, fun a ha => ?_⟩
    obtain ⟨h6, h7, h8⟩ := hR.2 a ha
    have := hg a ha
    refine ⟨h6, by simpa [World.setCell] using h7, fun i z hz j u hu => ?_⟩
    rw [World.cell?_setCell_other _ _ _ _ (by intro e; have e2 := congrArg Addr.block e; simp only at e2; omega)]
    exact h8 i z hz j u hu
theorem below_sets {B : Nat} {w : World} : ∀ {W : World} (h : Below B w W) (ws : List (Addr × Value)) (hlt : ∀ x ∈ ws, B ≤ x.1.block), Below B w (ws.foldl (fun W x => W.setCell x.1 x.2) W)
  | W, h, [], _ => h
  | W, h, x :: r, hlt => below_sets (h.setCell (hlt x List.mem_cons_self) _) r fun y hy => hlt y (List.mem_cons_of_mem _ hy)

set_option maxRecDepth 100000 in
set_option maxHeartbeats 4000000 in
theorem ref13_Put_ok (room : Int) (L : List Sl.It) (hl : L.length ≤ 536870912) (lab x : Int) (v : Value) (w : World) (hv : SlR w 2 encIt v L) (h0 : 0 ≤ lab) (h1 : lab ≤ 1048575) (hfit : Sl.hasB L lab = true ∨ (L.length : Int) ≠ room) :
    Calls Try.prog 34 #[.agg #[.bool true, .int .i64 room, v], .int .i64 lab, .int .i64 x] w (RetTE true room 0 (Sl.put L lab x) w) := by
  have hba : Below w.heap.size w ((w.alloc (.cells #[.bool true, .int .i64 room, v] 40)).alloc (.cells #[.bool false, .int .i64 0, .slice none 0 0] 40)) := ((Below.refl _ _).alloc (Nat.le_refl _) _).alloc (by simp) _
  have HF := Lib.hid (ref13_find L (by omega) lab v _ (hv.below hba (Nat.le_refl _)))
  have hv' := hv
  obtain ⟨p, cap, rfl, hc1, hc2, hR⟩ := hv'
  have HBA := Lib.hid hba
  have hple := Sl.pos_le L lab
  have HPut : Hid (Sl.put L lab x = L.take (Sl.pos L lab) ++ (lab, x) :: L.drop (Sl.pos L lab + if Sl.hasB L lab = true then 1 else 0)) := Lib.hid rfl
  have hhlt : Sl.hasB L lab = true → Sl.pos L lab < L.length := fun h => (gotten L lab h).1
  have HRd := Lib.hid hR
  unfold FindIs at HF
  generalize Sl.pos L lab = k at HF HPut hple hhlt
  generalize Sl.put L lab x = L' at HPut
  cases hh : Sl.hasB L lab
  · rw [hh] at HF HPut hfit hhlt
    have ef : ((L.length : Int) == room) = false := by simpa using hfit
    simp only [Bool.false_eq_true, if_false, Nat.add_zero] at HPut
    clear hh hba hv hR hfit hhlt
    go_enter Try.func34, Try.ntmps34
    go_wp2_with fail
    refine HF.out.mono ?_
    rintro e w2 ⟨rfl, hb2⟩
    have B2 : Blk w2 w.heap.size 40 #[.bool true, .int .i64 room, .slice p L.length cap] := (hb2.block _ (by simp; omega)).trans ((Blk.new w 40 _).alloc _)
    have R2 : Blk w2 (w.heap.size + 1) 40 #[.bool false, .int .i64 0, .slice none 0 0] := (hb2.block _ (by simp)).trans (by have := Blk.new (w.alloc (.cells #[.bool true, .int .i64 room, .slice p L.length cap] 40)) 40 #[.bool false, .int .i64 0, .slice none 0 0]; rw [World.size_alloc] at this; exact this)
    have b1 := B2.cell 1
    have b2 := B2.cell 2
    simp at b1 b2
    have HB2 := Lib.hid B2
    have HR2 := Lib.hid R2
    have HBw : Hid (Below w.heap.size w w2) := Lib.hid (HBA.out.trans (hb2.mono (by simp; omega)))
    have hsz : w.heap.size < w2.heap.size := B2.lt
    have hsz2 : w.heap.size + 1 < w2.heap.size := R2.lt
    clear B2 R2 hb2
    have HTk := Lib.hid (show k = (L.take k).length by rw [List.length_take]; omega)
    have HDk := Lib.hid (show L.length - (k) = (L.drop (k)).length by rw [List.length_drop])
    have HE1 := Lib.hid (show L'.length = 0 + (L.take k).length + 1 + (L.drop (k)).length by rw [HPut.out]; simp; omega)
    have HE2 := Lib.hid (show flat encIt L' = [] ++ flat encIt (L.take k) ++ [.int .i64 lab, .int .i64 x] ++ flat encIt (L.drop (k)) by rw [HPut.out]; simp [flat, encIt])
    have HT := Lib.hid ((HRd.out.below HBw.out (Nat.le_refl _)).take k)
    cases p with
    | none =>
      have hL : L.length = 0 := HRd.out.1 rfl
      obtain rfl : L = [] := List.eq_nil_of_length_eq_zero hL
      obtain rfl : k = 0 := by simpa using hple
      have HD : Hid (RdP w2 2 encIt none (([] : List Sl.It).drop 0)) := Lib.hid (HRd.out.below HBw.out (Nat.le_refl _))
      go_wp2_with (first
        | (at_builtin; refine wpList_app_sl' elemI rfl (.tmp 40) (.tmp 44) rfl w2.heap.size (.slice none 0 0) 0 [] rfl (World.ownsRow_nil _ _ _ _) encIt encIt_len none _ _ (([] : List Sl.It).take 0) HTk.out rfl HT.out encIt_one (by rw [← HTk.out]; omega) (Nat.le_refl _) ?_; intro v3 w3 hown3 _ _ hb3)
        | (at_builtin; refine wpList_app elemI rfl (.tmp 46) (.tmp 50) rfl w2.heap.size v3 _ _ rfl hown3 1 1 [.int .i64 lab, .int .i64 x] rfl rfl (by simp [Value.oneCell']) (by rw [← HTk.out]; omega) hb3.size ?_; intro v4 w4 hown4 _ _ hb4; have hb24 := hb3.trans hb4; have q4 : Blk w4 _ _ _ := (hb24.block _ HB2.out.lt).trans HB2.out; have q42 := q4.cell 2; simp at q42)
        | (at_builtin; refine wpList_app_sl' elemI rfl (.tmp 55) (.tmp 59) rfl w2.heap.size v4 _ _ rfl hown4 encIt encIt_len _ _ _ (([] : List Sl.It).drop 0) HDk.out rfl (HD.out.below hb24 (Nat.le_refl _)) encIt_one (by rw [← HTk.out, ← HDk.out]; omega) hb24.size ?_; intro v5 w5 hown5 _ _ hb5; rw [← HE1.out, ← HE2.out] at hown5; obtain ⟨p5, c5, rfl, hd1, hd2, hR5⟩ := SlR.of_owns encIt_len hown5; have HO5 := Lib.hid hown5; clear hown5 hR5 hd1 hd2; have hb5w : Below w2.heap.size w2 w5 := hb24.trans hb5; have Q5 : Blk w5 _ _ _ := (hb5w.block _ HB2.out.lt).trans HB2.out; have P5 : Blk w5 _ _ _ := (hb5w.block _ HR2.out.lt).trans HR2.out; have s0 := Q5.cell 0; have s1 := Q5.cell 1; have s2 := Q5.cell 2; have t0 := P5.cell 0; have t1 := P5.cell 1; have t2 := P5.cell 2; have f2 := Q5.frozen' 2; have g0 := P5.frozen' 0; have g1 := P5.frozen' 1; have g2 := P5.frozen' 2; simp at s0 s1 s2 t0 t1 t2))
      refine bodyPost_ret (v := .tuple #[.agg #[.bool true, .int .i64 room, .slice p5 L'.length c5], .int .i64 0]) (by simp [results, Try.results34, go_sem, t0, t1, t2]) rfl ⟨_, rfl, ?_, (TyI.owns HO5.out).sets [(⟨w.heap.size, 2, none⟩, _), (⟨w.heap.size + 1, 0, none⟩, _), (⟨w.heap.size + 1, 1, none⟩, _), (⟨w.heap.size + 1, 2, none⟩, _)], ?_⟩
      · exact slr_sets HO5.out [(⟨w.heap.size, 2, none⟩, _), (⟨w.heap.size + 1, 0, none⟩, _), (⟨w.heap.size + 1, 1, none⟩, _), (⟨w.heap.size + 1, 2, none⟩, _)] (by simp; omega)
      · exact below_sets (HBw.out.trans (hb5w.mono (by omega))) [(⟨w.heap.size, 2, none⟩, _), (⟨w.heap.size + 1, 0, none⟩, _), (⟨w.heap.size + 1, 1, none⟩, _), (⟨w.heap.size + 1, 2, none⟩, _)] (by simp)
    | some ad =>
      obtain ⟨b, off, spot⟩ := ad
      obtain rfl : spot = none := (HRd.out.2 _ rfl).1
      by_cases hck : cap = k
      · have HD : Hid (RdP w2 2 encIt (some ⟨b, off, none⟩) (L.drop (k))) := Lib.hid (by rw [show L.drop (k) = L.take 0 by rw [List.drop_of_length_le (by omega)]; rfl]; exact (HRd.out.below HBw.out (Nat.le_refl _)).take 0)
        have HDk := Lib.hid (show 0 = (L.drop (k)).length by rw [List.length_drop]; omega)
        subst hck
        go_wp2_with (first
          | (at_builtin; refine wpList_app_sl' elemI rfl (.tmp 40) (.tmp 44) rfl w2.heap.size (.slice none 0 0) 0 [] rfl (World.ownsRow_nil _ _ _ _) encIt encIt_len (some ⟨b, off, none⟩) _ _ (L.take cap) HTk.out rfl HT.out encIt_one (by rw [← HTk.out]; omega) (Nat.le_refl _) ?_; intro v3 w3 hown3 _ _ hb3)
          | (at_builtin; refine wpList_app elemI rfl (.tmp 46) (.tmp 50) rfl w2.heap.size v3 _ _ rfl hown3 1 1 [.int .i64 lab, .int .i64 x] rfl rfl (by simp [Value.oneCell']) (by rw [← HTk.out]; omega) hb3.size ?_; intro v4 w4 hown4 _ _ hb4; have hb24 := hb3.trans hb4; have q4 : Blk w4 _ _ _ := (hb24.block _ HB2.out.lt).trans HB2.out; have q42 := q4.cell 2; simp at q42)
          | (at_builtin; refine wpList_app_sl' elemI rfl (.tmp 55) (.tmp 59) rfl w2.heap.size v4 _ _ rfl hown4 encIt encIt_len _ _ _ (L.drop (cap)) HDk.out rfl (HD.out.below hb24 (Nat.le_refl _)) encIt_one (by rw [← HTk.out, ← HDk.out]; omega) hb24.size ?_; intro v5 w5 hown5 _ _ hb5; rw [← HE1.out, ← HE2.out] at hown5; obtain ⟨p5, c5, rfl, hd1, hd2, hR5⟩ := SlR.of_owns encIt_len hown5; have HO5 := Lib.hid hown5; clear hown5 hR5 hd1 hd2; have hb5w : Below w2.heap.size w2 w5 := hb24.trans hb5; have Q5 : Blk w5 _ _ _ := (hb5w.block _ HB2.out.lt).trans HB2.out; have P5 : Blk w5 _ _ _ := (hb5w.block _ HR2.out.lt).trans HR2.out; have s0 := Q5.cell 0; have s1 := Q5.cell 1; have s2 := Q5.cell 2; have t0 := P5.cell 0; have t1 := P5.cell 1; have t2 := P5.cell 2; have f2 := Q5.frozen' 2; have g0 := P5.frozen' 0; have g1 := P5.frozen' 1; have g2 := P5.frozen' 2; simp at s0 s1 s2 t0 t1 t2))
        refine bodyPost_ret (v := .tuple #[.agg #[.bool true, .int .i64 room, .slice p5 L'.length c5], .int .i64 0]) (by simp [results, Try.results34, go_sem, t0, t1, t2]) rfl ⟨_, rfl, ?_, (TyI.owns HO5.out).sets [(⟨w.heap.size, 2, none⟩, _), (⟨w.heap.size + 1, 0, none⟩, _), (⟨w.heap.size + 1, 1, none⟩, _), (⟨w.heap.size + 1, 2, none⟩, _)], ?_⟩
        · exact slr_sets HO5.out [(⟨w.heap.size, 2, none⟩, _), (⟨w.heap.size + 1, 0, none⟩, _), (⟨w.heap.size + 1, 1, none⟩, _), (⟨w.heap.size + 1, 2, none⟩, _)] (by simp; omega)
        · exact below_sets (HBw.out.trans (hb5w.mono (by omega))) [(⟨w.heap.size, 2, none⟩, _), (⟨w.heap.size + 1, 0, none⟩, _), (⟨w.heap.size + 1, 1, none⟩, _), (⟨w.heap.size + 1, 2, none⟩, _)] (by simp)
      · have HD : Hid (RdP w2 2 encIt (some ⟨b, off + (k) * 2, none⟩) (L.drop (k))) := Lib.hid ((HRd.out.below HBw.out (Nat.le_refl _)).drop (k))
        have hck' : k < cap := by omega
        go_wp2_with (first
          | (at_builtin; refine wpList_app_sl' elemI rfl (.tmp 40) (.tmp 44) rfl w2.heap.size (.slice none 0 0) 0 [] rfl (World.ownsRow_nil _ _ _ _) encIt encIt_len (some ⟨b, off, none⟩) _ _ (L.take k) HTk.out rfl HT.out encIt_one (by rw [← HTk.out]; omega) (Nat.le_refl _) ?_; intro v3 w3 hown3 _ _ hb3)
          | (at_builtin; refine wpList_app elemI rfl (.tmp 46) (.tmp 50) rfl w2.heap.size v3 _ _ rfl hown3 1 1 [.int .i64 lab, .int .i64 x] rfl rfl (by simp [Value.oneCell']) (by rw [← HTk.out]; omega) hb3.size ?_; intro v4 w4 hown4 _ _ hb4; have hb24 := hb3.trans hb4; have q4 : Blk w4 _ _ _ := (hb24.block _ HB2.out.lt).trans HB2.out; have q42 := q4.cell 2; simp at q42)
          | (at_builtin; refine wpList_app_sl' elemI rfl (.tmp 55) (.tmp 59) rfl w2.heap.size v4 _ _ rfl hown4 encIt encIt_len _ _ _ (L.drop (k)) HDk.out rfl (HD.out.below hb24 (Nat.le_refl _)) encIt_one (by rw [← HTk.out, ← HDk.out]; omega) hb24.size ?_; intro v5 w5 hown5 _ _ hb5; rw [← HE1.out, ← HE2.out] at hown5; obtain ⟨p5, c5, rfl, hd1, hd2, hR5⟩ := SlR.of_owns encIt_len hown5; have HO5 := Lib.hid hown5; clear hown5 hR5 hd1 hd2; have hb5w : Below w2.heap.size w2 w5 := hb24.trans hb5; have Q5 : Blk w5 _ _ _ := (hb5w.block _ HB2.out.lt).trans HB2.out; have P5 : Blk w5 _ _ _ := (hb5w.block _ HR2.out.lt).trans HR2.out; have s0 := Q5.cell 0; have s1 := Q5.cell 1; have s2 := Q5.cell 2; have t0 := P5.cell 0; have t1 := P5.cell 1; have t2 := P5.cell 2; have f2 := Q5.frozen' 2; have g0 := P5.frozen' 0; have g1 := P5.frozen' 1; have g2 := P5.frozen' 2; simp at s0 s1 s2 t0 t1 t2))
        refine bodyPost_ret (v := .tuple #[.agg #[.bool true, .int .i64 room, .slice p5 L'.length c5], .int .i64 0]) (by simp [results, Try.results34, go_sem, t0, t1, t2]) rfl ⟨_, rfl, ?_, (TyI.owns HO5.out).sets [(⟨w.heap.size, 2, none⟩, _), (⟨w.heap.size + 1, 0, none⟩, _), (⟨w.heap.size + 1, 1, none⟩, _), (⟨w.heap.size + 1, 2, none⟩, _)], ?_⟩
        · exact slr_sets HO5.out [(⟨w.heap.size, 2, none⟩, _), (⟨w.heap.size + 1, 0, none⟩, _), (⟨w.heap.size + 1, 1, none⟩, _), (⟨w.heap.size + 1, 2, none⟩, _)] (by simp; omega)
        · exact below_sets (HBw.out.trans (hb5w.mono (by omega))) [(⟨w.heap.size, 2, none⟩, _), (⟨w.heap.size + 1, 0, none⟩, _), (⟨w.heap.size + 1, 1, none⟩, _), (⟨w.heap.size + 1, 2, none⟩, _)] (by simp)
  · rw [hh] at HF HPut hfit hhlt
    have hkl : k < L.length := hhlt rfl
    simp only [if_true] at HPut
    clear hh hba hv hR hfit hhlt
    go_enter Try.func34, Try.ntmps34
    go_wp2_with fail
    refine HF.out.mono ?_
    rintro e w2 ⟨rfl, hb2⟩
    have B2 : Blk w2 w.heap.size 40 #[.bool true, .int .i64 room, .slice p L.length cap] := (hb2.block _ (by simp; omega)).trans ((Blk.new w 40 _).alloc _)
    have R2 : Blk w2 (w.heap.size + 1) 40 #[.bool false, .int .i64 0, .slice none 0 0] := (hb2.block _ (by simp)).trans (by have := Blk.new (w.alloc (.cells #[.bool true, .int .i64 room, .slice p L.length cap] 40)) 40 #[.bool false, .int .i64 0, .slice none 0 0]; rw [World.size_alloc] at this; exact this)
    have b1 := B2.cell 1
    have b2 := B2.cell 2
    simp at b1 b2
    have HB2 := Lib.hid B2
    have HR2 := Lib.hid R2
    have HBw : Hid (Below w.heap.size w w2) := Lib.hid (HBA.out.trans (hb2.mono (by simp; omega)))
    have hsz : w.heap.size < w2.heap.size := B2.lt
    have hsz2 : w.heap.size + 1 < w2.heap.size := R2.lt
    clear B2 R2 hb2
    have HTk := Lib.hid (show k = (L.take k).length by rw [List.length_take]; omega)
    have HDk := Lib.hid (show L.length - (k + 1) = (L.drop (k + 1)).length by rw [List.length_drop])
    have HE1 := Lib.hid (show L'.length = 0 + (L.take k).length + 1 + (L.drop (k + 1)).length by rw [HPut.out]; simp; omega)
    have HE2 := Lib.hid (show flat encIt L' = [] ++ flat encIt (L.take k) ++ [.int .i64 lab, .int .i64 x] ++ flat encIt (L.drop (k + 1)) by rw [HPut.out]; simp [flat, encIt])
    have HT := Lib.hid ((HRd.out.below HBw.out (Nat.le_refl _)).take k)
    cases p with
    | none =>
      have hL : L.length = 0 := HRd.out.1 rfl
      omega
    | some ad =>
      obtain ⟨b, off, spot⟩ := ad
      obtain rfl : spot = none := (HRd.out.2 _ rfl).1
      by_cases hck : cap = k + 1
      · have HD : Hid (RdP w2 2 encIt (some ⟨b, off, none⟩) (L.drop (k + 1))) := Lib.hid (by rw [show L.drop (k + 1) = L.take 0 by rw [List.drop_of_length_le (by omega)]; rfl]; exact (HRd.out.below HBw.out (Nat.le_refl _)).take 0)
        have HDk := Lib.hid (show 0 = (L.drop (k + 1)).length by rw [List.length_drop]; omega)
        subst hck
        go_wp2_with (first
          | (at_builtin; refine wpList_app_sl' elemI rfl (.tmp 40) (.tmp 44) rfl w2.heap.size (.slice none 0 0) 0 [] rfl (World.ownsRow_nil _ _ _ _) encIt encIt_len (some ⟨b, off, none⟩) _ _ (L.take k) HTk.out rfl HT.out encIt_one (by rw [← HTk.out]; omega) (Nat.le_refl _) ?_; intro v3 w3 hown3 _ _ hb3)
          | (at_builtin; refine wpList_app elemI rfl (.tmp 46) (.tmp 50) rfl w2.heap.size v3 _ _ rfl hown3 1 1 [.int .i64 lab, .int .i64 x] rfl rfl (by simp [Value.oneCell']) (by rw [← HTk.out]; omega) hb3.size ?_; intro v4 w4 hown4 _ _ hb4; have hb24 := hb3.trans hb4; have q4 : Blk w4 _ _ _ := (hb24.block _ HB2.out.lt).trans HB2.out; have q42 := q4.cell 2; simp at q42)
          | (at_builtin; refine wpList_app_sl' elemI rfl (.tmp 55) (.tmp 59) rfl w2.heap.size v4 _ _ rfl hown4 encIt encIt_len _ _ _ (L.drop (k + 1)) HDk.out rfl (HD.out.below hb24 (Nat.le_refl _)) encIt_one (by rw [← HTk.out, ← HDk.out]; omega) hb24.size ?_; intro v5 w5 hown5 _ _ hb5; rw [← HE1.out, ← HE2.out] at hown5; obtain ⟨p5, c5, rfl, hd1, hd2, hR5⟩ := SlR.of_owns encIt_len hown5; have HO5 := Lib.hid hown5; clear hown5 hR5 hd1 hd2; have hb5w : Below w2.heap.size w2 w5 := hb24.trans hb5; have Q5 : Blk w5 _ _ _ := (hb5w.block _ HB2.out.lt).trans HB2.out; have P5 : Blk w5 _ _ _ := (hb5w.block _ HR2.out.lt).trans HR2.out; have s0 := Q5.cell 0; have s1 := Q5.cell 1; have s2 := Q5.cell 2; have t0 := P5.cell 0; have t1 := P5.cell 1; have t2 := P5.cell 2; have f2 := Q5.frozen' 2; have g0 := P5.frozen' 0; have g1 := P5.frozen' 1; have g2 := P5.frozen' 2; simp at s0 s1 s2 t0 t1 t2))
        refine bodyPost_ret (v := .tuple #[.agg #[.bool true, .int .i64 room, .slice p5 L'.length c5], .int .i64 0]) (by simp [results, Try.results34, go_sem, t0, t1, t2]) rfl ⟨_, rfl, ?_, (TyI.owns HO5.out).sets [(⟨w.heap.size, 2, none⟩, _), (⟨w.heap.size + 1, 0, none⟩, _), (⟨w.heap.size + 1, 1, none⟩, _), (⟨w.heap.size + 1, 2, none⟩, _)], ?_⟩
        · exact slr_sets HO5.out [(⟨w.heap.size, 2, none⟩, _), (⟨w.heap.size + 1, 0, none⟩, _), (⟨w.heap.size + 1, 1, none⟩, _), (⟨w.heap.size + 1, 2, none⟩, _)] (by simp; omega)
        · exact below_sets (HBw.out.trans (hb5w.mono (by omega))) [(⟨w.heap.size, 2, none⟩, _), (⟨w.heap.size + 1, 0, none⟩, _), (⟨w.heap.size + 1, 1, none⟩, _), (⟨w.heap.size + 1, 2, none⟩, _)] (by simp)
      · have HD : Hid (RdP w2 2 encIt (some ⟨b, off + (k + 1) * 2, none⟩) (L.drop (k + 1))) := Lib.hid ((HRd.out.below HBw.out (Nat.le_refl _)).drop (k + 1))
        have hck' : k + 1 < cap := by omega
        go_wp2_with (first
          | (at_builtin; refine wpList_app_sl' elemI rfl (.tmp 40) (.tmp 44) rfl w2.heap.size (.slice none 0 0) 0 [] rfl (World.ownsRow_nil _ _ _ _) encIt encIt_len (some ⟨b, off, none⟩) _ _ (L.take k) HTk.out rfl HT.out encIt_one (by rw [← HTk.out]; omega) (Nat.le_refl _) ?_; intro v3 w3 hown3 _ _ hb3)
          | (at_builtin; refine wpList_app elemI rfl (.tmp 46) (.tmp 50) rfl w2.heap.size v3 _ _ rfl hown3 1 1 [.int .i64 lab, .int .i64 x] rfl rfl (by simp [Value.oneCell']) (by rw [← HTk.out]; omega) hb3.size ?_; intro v4 w4 hown4 _ _ hb4; have hb24 := hb3.trans hb4; have q4 : Blk w4 _ _ _ := (hb24.block _ HB2.out.lt).trans HB2.out; have q42 := q4.cell 2; simp at q42)
          | (at_builtin; refine wpList_app_sl' elemI rfl (.tmp 55) (.tmp 59) rfl w2.heap.size v4 _ _ rfl hown4 encIt encIt_len _ _ _ (L.drop (k + 1)) HDk.out rfl (HD.out.below hb24 (Nat.le_refl _)) encIt_one (by rw [← HTk.out, ← HDk.out]; omega) hb24.size ?_; intro v5 w5 hown5 _ _ hb5; rw [← HE1.out, ← HE2.out] at hown5; obtain ⟨p5, c5, rfl, hd1, hd2, hR5⟩ := SlR.of_owns encIt_len hown5; have HO5 := Lib.hid hown5; clear hown5 hR5 hd1 hd2; have hb5w : Below w2.heap.size w2 w5 := hb24.trans hb5; have Q5 : Blk w5 _ _ _ := (hb5w.block _ HB2.out.lt).trans HB2.out; have P5 : Blk w5 _ _ _ := (hb5w.block _ HR2.out.lt).trans HR2.out; have s0 := Q5.cell 0; have s1 := Q5.cell 1; have s2 := Q5.cell 2; have t0 := P5.cell 0; have t1 := P5.cell 1; have t2 := P5.cell 2; have f2 := Q5.frozen' 2; have g0 := P5.frozen' 0; have g1 := P5.frozen' 1; have g2 := P5.frozen' 2; simp at s0 s1 s2 t0 t1 t2))
        refine bodyPost_ret (v := .tuple #[.agg #[.bool true, .int .i64 room, .slice p5 L'.length c5], .int .i64 0]) (by simp [results, Try.results34, go_sem, t0, t1, t2]) rfl ⟨_, rfl, ?_, (TyI.owns HO5.out).sets [(⟨w.heap.size, 2, none⟩, _), (⟨w.heap.size + 1, 0, none⟩, _), (⟨w.heap.size + 1, 1, none⟩, _), (⟨w.heap.size + 1, 2, none⟩, _)], ?_⟩
        · exact slr_sets HO5.out [(⟨w.heap.size, 2, none⟩, _), (⟨w.heap.size + 1, 0, none⟩, _), (⟨w.heap.size + 1, 1, none⟩, _), (⟨w.heap.size + 1, 2, none⟩, _)] (by simp; omega)
        · exact below_sets (HBw.out.trans (hb5w.mono (by omega))) [(⟨w.heap.size, 2, none⟩, _), (⟨w.heap.size + 1, 0, none⟩, _), (⟨w.heap.size + 1, 1, none⟩, _), (⟨w.heap.size + 1, 2, none⟩, _)] (by simp)
end Go.Proofs.Ytcioiiobjfblbaa

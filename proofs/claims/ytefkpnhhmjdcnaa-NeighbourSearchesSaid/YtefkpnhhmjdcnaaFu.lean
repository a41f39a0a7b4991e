/- The symbolic heap, continued: parts of what is read, xor. -/
import Derived.Test.YtefkpnhhmjdcnaaFt
namespace Go.Fx
section
variable {α : Type} {enc : α → List Value} {sz : Nat}
theorem recs_drop [h : Sized enc sz] : ∀ (ms : List α) (l : Nat), recs enc (ms.drop l) = (recs enc ms).drop (l * sz)
  | ms, 0 => by simp
  | [], l + 1 => by simp [recs]
  | m :: r, l + 1 => by
    have e : recs enc (m :: r) = enc m ++ recs enc r := rfl
    have h1 : (l + 1) * sz = (enc m).length + l * sz := by rw [h.len, Nat.add_mul]; omega
    rw [List.drop_succ_cons, recs_drop r l, e, h1, List.drop_append, List.drop_of_length_le (show (enc m).length ≤ (enc m).length + l * sz by omega)]
    simp
theorem recs_take [h : Sized enc sz] : ∀ (ms : List α) (l : Nat), recs enc (ms.take l) = (recs enc ms).take (l * sz)
  | ms, 0 => by simp [recs]
  | [], l + 1 => by simp [recs]
  | m :: r, l + 1 => by
    have e : recs enc (m :: r) = enc m ++ recs enc r := rfl
    have e2 : recs enc ((m :: r).take (l + 1)) = enc m ++ recs enc (r.take l) := rfl
    have h1 : (l + 1) * sz = (enc m).length + l * sz := by rw [h.len, Nat.add_mul]; omega
    rw [e2, recs_take r l, e, h1, List.take_append, List.take_of_length_le (show (enc m).length ≤ (enc m).length + l * sz by omega)]
    simp
end
section
variable {P : Program} {n : Nat} {Q Q' : Exit → Act → World → Prop} {G : Env} {X : List Nat} {w0 : World} {M M' M1 : List Ent} {I I' I1 : List Imm}
theorem Mem.cutI {α : Type} {enc : α → List Value} {sz : Nat} [hz : Sized enc sz] {w : World} {a : Option Addr} {ms : List α} (c l m : Nat) (h : Mem X w0 M I w) (hm : slI a (recs enc ms) ∈ I) (hc : ms.length ≤ c) : Mem X w0 M (slI (cutA a c l sz) (recs enc ((ms.take m).drop l)) :: I) w :=
  h.add (φ := slI _ _) ⟨by
    rw [recs_drop, recs_take]
    exact (h.sl hm).cut c l (m * sz) sz (by rw [recs_len]; exact Nat.mul_le_mul_right _ hc)⟩
theorem RD_cutI {α : Type} {enc : α → List Value} {sz : Nat} [hz : Sized enc sz] {ops l : List Oper} {m : Mode} {a : Option Addr} {ms : List α} (c lo hi : Nat) (hm : slI a (recs enc ms) ∈ I) (hc : ms.length ≤ c) (h : RD P n ops Q m l G X w0 M (slI (cutA a c lo sz) (recs enc ((ms.take hi).drop lo)) :: I)) : RD P n ops Q m l G X w0 M I := RD_m (fun _ hw => hw.cutI c lo hi hm hc) h
theorem Const_cut {C : World → Prop} {ty t e : TypeId} {sz : Nat} {x : Operand} {lo hi : Option Operand} {a : Option Addr} {len c : Nat} (l h k : Nat) [ht : SliceTy P t e sz] (hx : ev G x = some (.slice a len c))
    (hl : (lo = none ∧ l = 0) ∨ ∃ y k i, lo = some y ∧ ev G y = some (.int k i) ∧ i = (l : Int)) (hh : (hi = none ∧ h = len) ∨ ∃ y k i, hi = some y ∧ ev G y = some (.int k i) ∧ i = (h : Int)) (h1 : l ≤ h) (h2 : h ≤ c) (hk : h - l = k) :
    Const P n G (.slice t x lo hi none) ty C (.slice (cutA a c l sz) k (c - l)) := by
  subst hk
  exact Const_slice hx (hl.imp id (fun ⟨y, k, i, h1, h2, h3⟩ => ⟨y, k, h1, by rw [← h3]; exact h2⟩)) (hh.imp id (fun ⟨y, k, i, h1, h2, h3⟩ => ⟨y, k, h1, by rw [← h3]; exact h2⟩)) h1 h2
theorem Const_xorI {C : World → Prop} {ty t t' : TypeId} {x y : Operand} {a b : Int} (hx : ev G x = some (.int .u64 a)) (hy : ev G y = some (.int .u64 b)) (ha : 0 ≤ a ∧ a ≤ 18446744073709551615) (hb : 0 ≤ b ∧ b ≤ 18446744073709551615) :
    Const P n G (.binOp .xor t x y t') ty C (.int .u64 ((a.toNat ^^^ b.toNat : Nat) : Int)) := by
  refine Const_xor64 ?_ ?_ (by omega) (by omega)
  · rw [hx]; congr 2; omega
  · rw [hy]; congr 2; omega
theorem ND_rowBlk {ex : Exit} {a : Option Addr} {mm c : Nat} {cs : List Value} {e : TypeId} {sz : Nat} (h0 : a = none → mm = 0 → cs = [] → ND n Q ex G X w0 (.row a mm c cs e sz :: M) I) (h1 : ∀ b tl, a = some ⟨b, 0, none⟩ → mm ≤ c → ND n Q ex G X w0 (.blk b (cs ++ tl) e :: M) I) : ND n Q ex G X w0 (.row a mm c cs e sz :: M) I :=
  ⟨fun w hw => by
    rcases hw.rowBlk with ⟨e1, e2, e3⟩ | ⟨b, tl, e1, e2, hm⟩
    · exact (h0 e1 e2 e3).go w hw
    · exact (h1 b tl e1 e2).go w hm⟩
theorem ND_row0 {ex : Exit} (e : TypeId) (sz : Nat) (h : ND n Q ex G X w0 (.row none 0 0 [] e sz :: M) I) : ND n Q ex G X w0 M I := ND_m (fun _ hw => hw.row0 e sz) h
theorem RD_toRow {ops l : List Oper} {m : Mode} {b mm : Nat} {cs : List Value} {e : TypeId} (sz : Nat) (hr : Rep (.blk b cs e) (.row (some ⟨b, 0, none⟩) mm mm cs e sz) M M') (hl : cs.length = mm * sz) (hm : mm ≤ 9223372036854775807) (h : RD P n ops Q m l G X w0 M' I) : RD P n ops Q m l G X w0 M I := RD_m (fun _ hw => hw.toRow sz hr hl hm) h
theorem CD.post {f : FuncId} {vs : List Value} {K K' : Value → List Ent → List Imm → Prop} (h : CD P f vs X w0 M I K) (hk : ∀ v M1 I1 w, K v M1 I1 → Mem X w0 M1 I1 w → ∃ M2 I2, K' v M2 I2 ∧ Mem X w0 M2 I2 w) : CD P f vs X w0 M I K' :=
  ⟨fun w hw => (h.go w hw).mono (fun _ _ ⟨_, _, h1, h2⟩ => hk _ _ _ _ h1 h2)⟩
theorem CD.pre {f : FuncId} {vs : List Value} {K : Value → List Ent → List Imm → Prop} (hM : ∀ w, Mem X w0 M I w → Mem X w0 M' I' w) (h : CD P f vs X w0 M' I' K) : CD P f vs X w0 M I K := ⟨fun w hw => h.go w (hM w hw)⟩
theorem CD_rowBlk {f : FuncId} {vs : List Value} {K : Value → List Ent → List Imm → Prop} {a : Option Addr} {mm c : Nat} {cs : List Value} {e : TypeId} {sz : Nat} (h0 : a = none → mm = 0 → cs = [] → c = 0 → CD P f vs X w0 M I K) (h1 : ∀ b tl, a = some ⟨b, 0, none⟩ → mm ≤ c → CD P f vs X w0 (.blk b (cs ++ tl) e :: M) I K) : CD P f vs X w0 (.row a mm c cs e sz :: M) I K :=
  ⟨fun w hw => by
    rcases hw.rowBlk with ⟨e1, e2, e3⟩ | ⟨b, tl, e1, e2, hm⟩
    · subst e1
      exact (h0 rfl e2 e3 hw.rowC).go w hw.tail
    · exact (h1 b tl e1 e2).go w hm⟩
/- two operations that change the world, in either order -/
theorem TD_alts {id : Nat} {l : List Oper} (p ms : List Nat) (al : List (List Nat × List Nat)) (hx : P.follows .mixedOrders = true)
    (hp : (Region.noSelect l.toArray && altsOk l.toArray p ms al) = true)
    (h : RD P n l (Alts P l Q (Cst X w0 M I) (cntE l.toArray p) al) (.any (Cst X w0 M I) 0 ms) (pick l p) G X w0 M I) : TD P n (.region id l.toArray true) Q G X w0 M I :=
  ⟨fun w hw => T_alts (Cst X w0 M I) p ms al hx (fun _ _ h => h) hp hw.drew (h.go w.drew hw.drew)⟩
theorem ND_alts2 {l : List Oper} {k k' : Nat} {p1 m1 p2 m2 : List Nat} (hk : k' = k) (h1 : RD P n l Q (.any (Cst X w0 M1 I1) k m1) (pick l p1) G X w0 M I) (h2 : RD P n l Q (.any (Cst X w0 M1 I1) k m2) (pick l p2) G X w0 M I) :
    ND n (Alts P l Q (Cst X w0 M1 I1) k' [(p1, m1), (p2, m2)]) .normal G X w0 M I := ⟨fun w hw => N_alts2 hk (h1.go w hw) (h2.go w hw)⟩
/-- two truth values compared -/
theorem Const_neBB {C : World → Prop} {ty t t' : TypeId} {x y : Operand} {p q : Prop} [Decidable p] [Decidable q] [ht : BoolTy P t] (hx : ev G x = some (.bool (B p))) (hy : ev G y = some (.bool (B q))) :
    Const P n G (.binOp .neq t x y t') ty C (.bool (B (¬ (p ↔ q)))) := by
  refine ⟨?_⟩
  intro s ha dst pos after guard w _
  have h : (!(B p == B q)) = B (¬ (p ↔ q)) := by
    rw [B_eq, B_eq, B_eq]
    by_cases hp : p <;> by_cases hq : q <;> simp [hp, hq]
  have e1 : (eqGuard .neq t x y (.bool (B p)) (.bool (B q))).run P w = .ok () w := rfl
  simp only [execOp, ha.ev hx, ha.ev hy, Sem.run_bind, e1, Result.andThen_ok, run_neq_bool _ t (B p) (B q) ht.und, Sem.run_pure, h]
theorem Mem.rowLe {w : World} {a : Option Addr} {m c : Nat} {cs : List Value} {e : TypeId} {sz : Nat} (h : Mem X w0 M I w) (hm : .row a m c cs e sz ∈ M) : m ≤ c := by
  have ho : w.ownsRow 0 e sz (.slice a m c) m cs := h.ent _ hm
  obtain ⟨a', c', hv, _, _, hle⟩ := own_sl ho
  injection hv with e1 e2 e3
  subst e3
  exact hle
end
end Go.Fx

/- An abstract layer over the model, of this session's own: part AbD. -/
import Derived.Test.YtlfihcndchjgcaaAbC
set_option linter.unusedVariables false
set_option linter.unusedSimpArgs false
namespace Go.Ab
open Go

/-! ### Running compact code: trees that hold what is known -/
inductive Tr (α : Type) where
  | lf
  | nd (v : α) (l r : Tr α)
def Tr.get {α : Type} (d : α) : Tr α → Nat → α
  | .lf, _ => d
  | .nd v l r, i => bif Nat.beq i 0 then v else bif Nat.beq (i % 2) 1 then l.get d (i / 2) else r.get d (i / 2 - 1)
def Tr.set {α : Type} (d : α) : Nat → Tr α → Nat → α → Tr α
  | 0, t, _, _ => t
  | f + 1, .lf, i, v => bif Nat.beq i 0 then .nd v .lf .lf else bif Nat.beq (i % 2) 1 then .nd d (Tr.set d f .lf (i / 2) v) .lf else .nd d .lf (Tr.set d f .lf (i / 2 - 1) v)
  | f + 1, .nd w l r, i, v => bif Nat.beq i 0 then .nd v l r else bif Nat.beq (i % 2) 1 then .nd w (Tr.set d f l (i / 2) v) r else .nd w l (Tr.set d f r (i / 2 - 1) v)
theorem cond_beq {α : Type} (i j : Nat) (a b : α) : (bif Nat.beq i j then a else b) = if i = j then a else b := by
  by_cases h : i = j
  · subst h; simp
  · rw [if_neg h, beq_ne h]; rfl
theorem Tr.get_set {α : Type} (d v : α) : ∀ (f : Nat) (t : Tr α) (i j : Nat), i < f → (Tr.set d f t i v).get d j = if j = i then v else t.get d j
  | 0, _, _, _, h => by omega
  | f + 1, .lf, i, j, h => by
    simp only [Tr.set, cond_beq]
    by_cases h0 : i = 0
    · subst h0; simp only [if_true, Tr.get, cond_beq]
      by_cases hj : j = 0
      · simp [hj]
      · simp [hj]
    · rw [if_neg h0]
      by_cases h1 : i % 2 = 1
      · rw [if_pos h1]; simp only [Tr.get, cond_beq, Tr.get_set d v f .lf (i / 2) _ (by omega)]
        by_cases hj : j = 0
        · subst hj; rw [if_pos rfl, if_neg (by omega)]
        · rw [if_neg hj]
          by_cases hk : j % 2 = 1
          · rw [if_pos hk]
            by_cases e : j / 2 = i / 2
            · rw [if_pos e, if_pos (by omega)]
            · rw [if_neg e, if_neg (by omega)]
          · rw [if_neg hk, if_neg (by omega)]
      · rw [if_neg h1]; simp only [Tr.get, cond_beq, Tr.get_set d v f .lf (i / 2 - 1) _ (by omega)]
        by_cases hj : j = 0
        · subst hj; rw [if_pos rfl, if_neg (by omega)]
        · rw [if_neg hj]
          by_cases hk : j % 2 = 1
          · rw [if_pos hk, if_neg (by omega)]
          · rw [if_neg hk]
            by_cases e : j / 2 - 1 = i / 2 - 1
            · rw [if_pos e, if_pos (by omega)]
            · rw [if_neg e, if_neg (by omega)]
  | f + 1, .nd w l r, i, j, h => by
    simp only [Tr.set, cond_beq]
    by_cases h0 : i = 0
    · subst h0; simp only [if_true, Tr.get, cond_beq]
      by_cases hj : j = 0
      · simp [hj]
      · simp [hj]
    · rw [if_neg h0]
      by_cases h1 : i % 2 = 1
      · rw [if_pos h1]; simp only [Tr.get, cond_beq, Tr.get_set d v f l (i / 2) _ (by omega)]
        by_cases hj : j = 0
        · subst hj; rw [if_pos rfl, if_neg (by omega), if_pos rfl]
        · rw [if_neg hj]
          by_cases hk : j % 2 = 1
          · rw [if_pos hk]
            by_cases e : j / 2 = i / 2
            · rw [if_pos e, if_pos (by omega)]
            · rw [if_neg e, if_neg (by omega), if_neg hj, if_pos hk]
          · rw [if_neg hk, if_neg (by omega), if_neg hj, if_neg hk]
      · rw [if_neg h1]; simp only [Tr.get, cond_beq, Tr.get_set d v f r (i / 2 - 1) _ (by omega)]
        by_cases hj : j = 0
        · subst hj; rw [if_pos rfl, if_neg (by omega), if_pos rfl]
        · rw [if_neg hj]
          by_cases hk : j % 2 = 1
          · rw [if_pos hk, if_neg (by omega), if_neg hj, if_pos hk]
          · rw [if_neg hk]
            by_cases e : j / 2 - 1 = i / 2 - 1
            · rw [if_pos e, if_pos (by omega)]
            · rw [if_neg e, if_neg (by omega), if_neg hj, if_neg hk]

/-! ### What makes the kernel finish a value before it goes on -/
section
variable {α : Type}
def fNat (n : Nat) (K : Nat → α) : α := match n with | 0 => K 0 | m + 1 => K (Nat.succ m)
theorem fNat_eq (n : Nat) (K : Nat → α) : fNat n K = K n := by cases n <;> rfl
def fInt (n : Int) (K : Int → α) : α := match n with | .ofNat m => fNat m fun m => K (.ofNat m) | .negSucc m => fNat m fun m => K (.negSucc m)
theorem fInt_eq (n : Int) (K : Int → α) : fInt n K = K n := by cases n <;> simp [fInt, fNat_eq]
def fS (v : Value) (K : Value → α) : α :=
  match v with
  | .int k n => fInt n fun n => K (.int k n)
  | .bool b => bif b then K (.bool true) else K (.bool false)
  | .float k n => fNat n fun n => K (.float k n)
  | .complex k a b => fNat a fun a => fNat b fun b => K (.complex k a b)
  | .slice (some ⟨b, o, none⟩) n c => fNat b fun b => fNat o fun o => fNat n fun n => fNat c fun c => K (.slice (some ⟨b, o, none⟩) n c)
  | .pointer (some ⟨b, o, none⟩) => fNat b fun b => fNat o fun o => K (.pointer (some ⟨b, o, none⟩))
  | v => K v
theorem fS_eq (v : Value) (K : Value → α) : fS v K = K v := by
  unfold fS
  split
  · rw [fInt_eq]
  · rename_i b; cases b <;> rfl
  · rw [fNat_eq]
  · rw [fNat_eq, fNat_eq]
  · simp only [fNat_eq]
  · simp only [fNat_eq]
  · rfl
def fL (l : List Value) (K : List Value → α) : α := match l with | [] => K [] | v :: r => fS v fun v => fL r fun r => K (v :: r)
theorem fL_eq : ∀ (l : List Value) (K : List Value → α), fL l K = K l
  | [], K => rfl
  | v :: r, K => by simp only [fL, fS_eq, fL_eq r]
def fV (v : Value) (K : Value → α) : α :=
  match v with
  | .agg cs => fL cs.toList fun l => K (.agg l.toArray)
  | .tuple cs => fL cs.toList fun l => K (.tuple l.toArray)
  | v => fS v K
theorem fV_eq (v : Value) (K : Value → α) : fV v K = K v := by
  unfold fV; split <;> simp [fL_eq, fS_eq]
end

/-! ### Heaps -/
structure LH where
  next : Nat
  blks : Tr (Option Blk)
def LH.heap (h : LH) : Heap := ⟨fun i => h.blks.get none i, h.next⟩
def LH.putK {α : Type} (h : LH) (b : Nat) (cs : List Value) (own : Bool) (par : Option Nat) (K : LH → α) : α :=
  fL cs fun cs => K ⟨h.next, Tr.set none (b + 1) h.blks b (some ⟨cs, own, par⟩)⟩
def LH.pushK {α : Type} (h : LH) (cs : List Value) (own : Bool) (par : Option Nat) (K : LH → α) : α :=
  fL cs fun cs => fNat (h.next + 1) fun n => K ⟨n, Tr.set none (h.next + 1) h.blks h.next (some ⟨cs, own, par⟩)⟩
def LH.kill (h : LH) (o : Option Nat) : LH := match o with | none => h | some b => ⟨h.next, Tr.set none (b + 1) h.blks b none⟩
theorem putK_eq {α : Type} (h : LH) (b : Nat) (cs : List Value) (own : Bool) (par : Option Nat) (K : LH → α) : ∃ h', h.putK b cs own par K = K h' ∧ h'.heap = h.heap.put b ⟨cs, own, par⟩ := by
  refine ⟨_, by unfold LH.putK; rw [fL_eq], ?_⟩
  simp only [LH.heap, Heap.put, Tr.get_set none _ _ _ _ _ (Nat.lt_succ_self b)]
theorem pushK_eq {α : Type} (h : LH) (cs : List Value) (own : Bool) (par : Option Nat) (K : LH → α) : ∃ h', h.pushK cs own par K = K h' ∧ h'.heap = h.heap.push ⟨cs, own, par⟩ := by
  refine ⟨_, by unfold LH.pushK; rw [fL_eq, fNat_eq], ?_⟩
  simp only [LH.heap, Heap.push, Tr.get_set none _ _ _ _ _ (Nat.lt_succ_self h.next)]; rfl
theorem kill_eq (h : LH) (o : Option Nat) : (h.kill o).heap = h.heap.kill o := by
  cases o with
  | none => rfl
  | some b => simp only [LH.kill, LH.heap, Heap.kill, Tr.get_set none _ _ _ _ _ (Nat.lt_succ_self b)]

def wrR (h : LH) (b off : Nat) (vs : List Value) : Option LH :=
  match h.blks.get none b with
  | none => none
  | some k => if k.own = true ∧ off + vs.length ≤ k.cells.length then (h.kill k.par).putK b (putCells k.cells off vs) true none some else none
theorem wrR_sound {h h' : LH} {b off : Nat} {vs : List Value} (e : wrR h b off vs = some h') : wrH h.heap b off vs = some h'.heap := by
  unfold wrR at e; unfold wrH
  split at e
  · cases e
  · rename_i k hk
    have hk' : h.heap.get b = some k := hk
    rw [hk', Option.bind_some]
    split at e
    · rename_i hc
      rw [if_pos hc]
      obtain ⟨h2, e1, e2⟩ := putK_eq (h.kill k.par) b (putCells k.cells off vs) true none some
      rw [e1] at e; obtain rfl := Option.some.inj e
      rw [e2, kill_eq]
    · cases e
def stR (n : Nat) (h : LH) (a v : Value) : Option LH :=
  match a with
  | .pointer (some ⟨b, o, none⟩) => if isTup v = false ∧ (cellsV v).length = n then wrR h b o (cellsV v) else none
  | _ => none
theorem stR_sound {n : Nat} {h h' : LH} {a v : Value} (e : stR n h a v = some h') : stA n h.heap a v = some h'.heap := by
  unfold stR at e; unfold stA
  split at e
  · split at e
    · rename_i hc; simp only [if_pos hc]; exact wrR_sound e
    · cases e
  · cases e
def pushV (h : LH) (cs : List Value) (own : Bool) (par : Option Nat) (v : Value) : Option (Value × LH) := h.pushK cs own par fun h' => some (v, h')
theorem pushV_sound {h h' : LH} {cs : List Value} {own : Bool} {par : Option Nat} {v v' : Value} (e : pushV h cs own par v = some (v', h')) : v' = v ∧ h'.heap = h.heap.push ⟨cs, own, par⟩ := by
  unfold pushV at e
  obtain ⟨h2, e1, e2⟩ := pushK_eq h cs own par (fun h' => some (v, h'))
  rw [e1] at e
  simp only [Option.some.injEq, Prod.mk.injEq] at e
  obtain ⟨rfl, rfl⟩ := e
  exact ⟨rfl, e2⟩
def appR (size bytes : Nat) (h : LH) (s x : Value) : Option (Value × LH) :=
  match slcA size h.heap x with
  | none => none
  | some p =>
    match s with
    | .slice none 0 0 =>
      if p.1 = 0 then some (s, h) else if p.1 ≤ 1073741824 then pushV h p.2 true none (mkS h.next p.1 size) else none
    | .slice (some ⟨b, o, none⟩) len c =>
      if p.1 = 0 then some (s, h)
      else if len + p.1 ≤ 1073741824 then
        if c / 64 ≠ 0 ∧ c / 64 < 2 * (len + p.1) + 1 then
          match slcA size h.heap s with
          | none => none
          | some q => pushV h (q.2 ++ p.2) true none (mkS h.next (len + p.1) size)
        else match h.blks.get none b with
          | none => none
          | some k =>
            if k.own = true ∧ c % 64 = size ∧ o + len * size ≤ k.cells.length then
              (h.kill k.par).putK b (k.cells.take (o + len * size)) false none fun h2 => pushV h2 ((k.cells.drop o).take (len * size) ++ p.2) true (some b) (mkS h.next (len + p.1) size)
            else none
      else none
    | _ => none
theorem appR_sound {size bytes : Nat} {h h' : LH} {s x v : Value} (e : appR size bytes h s x = some (v, h')) : appA size bytes h.heap s x = some (v, h'.heap) := by
  unfold appR at e; unfold appA
  split at e
  · cases e
  · rename_i p hp
    rw [hp, Option.bind_some]
    split at e
    · split at e
      · rename_i h0
        simp only [Option.some.injEq, Prod.mk.injEq] at e
        obtain ⟨rfl, rfl⟩ := e
        simp only [if_pos h0]
      · rename_i h0
        split at e
        · rename_i h1
          obtain ⟨rfl, e2⟩ := pushV_sound e
          simp only [if_neg h0, if_pos h1]; rw [e2]; rfl
        · cases e
    · rename_i b o len c
      split at e
      · rename_i h0
        simp only [Option.some.injEq, Prod.mk.injEq] at e
        obtain ⟨rfl, rfl⟩ := e
        simp only [if_pos h0]
      · rename_i h0
        split at e
        · rename_i h1
          simp only [if_neg h0, if_pos h1]
          split at e
          · rename_i h2
            rw [if_pos h2]
            split at e
            · cases e
            · rename_i q hq
              obtain ⟨rfl, e2⟩ := pushV_sound e
              rw [hq]; simp only [Option.map_some]; rw [e2]; rfl
          · rename_i h2
            rw [if_neg h2]
            split at e
            · cases e
            · rename_i k hk
              have hk' : h.heap.get b = some k := hk
              rw [hk', Option.bind_some]
              split at e
              · rename_i h3
                rw [if_pos h3]
                obtain ⟨h2', e1, e2⟩ := putK_eq (h.kill k.par) b (k.cells.take (o + len * size)) false none (fun h2 => pushV h2 ((k.cells.drop o).take (len * size) ++ p.2) true (some b) (mkS h.next (len + p.1) size))
                rw [e1] at e
                obtain ⟨rfl, e3⟩ := pushV_sound e
                rw [e3, e2, kill_eq]; rfl
              · cases e
        · cases e
    · cases e
def msR (size : Nat) (bytes : Nat) (z : List Value) (h : LH) (l c : Value) : Option (Value × LH) :=
  match l, c with
  | .int _ l, .int _ c => if 0 ≤ l ∧ l ≤ c ∧ c ≤ 1073741824 ∧ c * bytes ≤ 140737488355328 then pushV h (replA c.toNat z) true none (mkS h.next l.toNat ((2 * c.toNat + 1) * 64 + size)) else none
  | _, _ => none
theorem msR_sound {size bytes : Nat} {z : List Value} {h h' : LH} {l c v : Value} (e : msR size bytes z h l c = some (v, h')) : msA size bytes z h.heap l c = some (v, h'.heap) := by
  unfold msR at e; unfold msA
  split at e
  · split at e
    · rename_i hc
      obtain ⟨rfl, e2⟩ := pushV_sound e
      simp only [if_pos hc]; rw [e2]; rfl
    · cases e
  · cases e
def clrR (z : List Value) (h : LH) (x : Value) : Option LH :=
  match x with
  | .slice none 0 0 => some h
  | .slice (some ⟨b, o, none⟩) n _ => if n = 0 then some h else wrR h b o (replA n z)
  | _ => none
theorem clrR_sound {z : List Value} {h h' : LH} {x : Value} (e : clrR z h x = some h') : clrA z h.heap x = some h'.heap := by
  unfold clrR at e; unfold clrA
  split at e
  · obtain rfl := Option.some.inj e; rfl
  · split at e
    · rename_i h0; obtain rfl := Option.some.inj e; simp only [if_pos h0]
    · rename_i h0; simp only [if_neg h0]; exact wrR_sound e
  · cases e
def memR (o : AOp) (ρ : Operand → Value) (h : LH) : Option (Value × LH) :=
  match o with
  | .ld n a => match ldA n h.heap (ρ a) with | none => none | some v => some (v, h)
  | .st n a v => match stR n h (ρ a) (ρ v) with | none => none | some h => some (undef, h)
  | .bx v => if isTup (ρ v) = false then pushV h (cellsV (ρ v)) true none (.pointer (some ⟨h.next, 0, none⟩)) else none
  | .al z => pushV h z true none (.pointer (some ⟨h.next, 0, none⟩))
  | .bs len size z parts => match fillA ρ parts (replA len z) with | none => none | some cs => pushV h cs true none (mkS h.next len ((2 * len + 1) * 64 + size))
  | .ms size bytes z l c => msR size bytes z h (ρ l) (ρ c)
  | .app size bytes z s x => appR size bytes h (ρ s) (ρ x)
  | .clr _ z x => match clrR z h (ρ x) with | none => none | some h => some (.tuple #[], h)
  | _ => none
theorem memR_sound {o : AOp} {ρ : Operand → Value} {h h' : LH} {v : Value} (e : memR o ρ h = some (v, h')) : memA o ρ h.heap = some (v, h'.heap) := by
  unfold memR at e; unfold memA
  split at e
  · split at e
    · cases e
    · rename_i u hu
      simp only [Option.some.injEq, Prod.mk.injEq] at e
      obtain ⟨rfl, rfl⟩ := e
      simp only [hu, Option.map_some]
  · split at e
    · cases e
    · rename_i u hu
      simp only [Option.some.injEq, Prod.mk.injEq] at e
      obtain ⟨rfl, rfl⟩ := e
      simp only [stR_sound hu, Option.map_some]
  · split at e
    · rename_i hc
      obtain ⟨rfl, e2⟩ := pushV_sound e
      simp only [if_pos hc]; rw [e2]; rfl
    · cases e
  · obtain ⟨rfl, e2⟩ := pushV_sound e
    simp only []; rw [e2]; rfl
  · split at e
    · cases e
    · rename_i cs hcs
      obtain ⟨rfl, e2⟩ := pushV_sound e
      simp only [hcs, Option.map_some]; rw [e2]; rfl
  · exact msR_sound e
  · exact appR_sound e
  · split at e
    · cases e
    · rename_i u hu
      simp only [Option.some.injEq, Prod.mk.injEq] at e
      obtain ⟨rfl, rfl⟩ := e
      simp only [clrR_sound hu, Option.map_some]
  · cases e
end Go.Ab

namespace Go.Ab
open Go

abbrev En := Tr Value
def En.env (e : En) : Env := fun i => Tr.get undef e i
def En.put (e : En) (d : Nat) (v : Value) : En := Tr.set undef (d + 1) e d v
theorem put_env (e : En) (d : Nat) (v : Value) : (e.put d v).env = upd e.env d v := by
  funext i; simp only [En.env, En.put, upd, Tr.get_set undef v _ e d i (Nat.lt_succ_self d)]
def setO (e : En) (d : Option Nat) (v : Value) : En := match d with | some d => e.put d v | none => e
theorem setO_env (e : En) (d : Option Nat) (v : Value) : (setO e d v).env = updO e.env d v := by
  cases d with
  | none => rfl
  | some d => exact put_env e d v
def envL : List Value → Nat → En → En
  | [], _, e => e
  | v :: r, i, e => envL r (i + 1) (e.put i v)
theorem envL_get : ∀ (l : List Value) (i : Nat) (e : En) (j : Nat), (envL l i e).env j = if i ≤ j ∧ j < i + l.length then l.getD (j - i) undef else e.env j
  | [], i, e, j => by simp only [envL, List.length_nil]; rw [if_neg (by omega)]
  | v :: r, i, e, j => by
    simp only [envL, envL_get r, put_env, upd, List.length_cons]
    by_cases h : j = i
    · subst h; rw [if_neg (by omega), if_pos rfl, if_pos (by omega)]; simp
    · by_cases h2 : i + 1 ≤ j ∧ j < i + 1 + r.length
      · rw [if_pos h2, if_pos (by omega)]
        obtain ⟨k, hk⟩ : ∃ k, j - i = k + 1 := ⟨j - i - 1, by omega⟩
        rw [hk, show j - (i + 1) = k from by omega]; simp
      · rw [if_neg h2, if_neg h, if_neg (by omega)]
theorem envL_env (l : List Value) : (envL l 0 .lf).env = envOf l := by
  funext j
  rw [envL_get]
  simp only [envOf, Nat.zero_le, true_and, Nat.zero_add, Nat.sub_zero]
  split
  · rfl
  · rename_i h; simp [En.env, Tr.get, List.getD_eq_getElem?_getD, List.getElem?_eq_none (Nat.le_of_not_lt h)]

def eqV : Value → Value → Bool
  | .int .i64 a, .int .i64 b => decide (a = b)
  | .bool a, .bool b => a == b
  | .complex .f64 a b, .complex .f64 c d => Nat.beq a c && Nat.beq b d
  | .float .f64 a, .float .f64 c => Nat.beq a c
  | .slice (some ⟨b, o, none⟩) n c, .slice (some ⟨b', o', none⟩) n' c' => Nat.beq b b' && Nat.beq o o' && Nat.beq n n' && Nat.beq c c'
  | .slice none n c, .slice none n' c' => Nat.beq n n' && Nat.beq c c'
  | .pointer (some ⟨b, o, none⟩), .pointer (some ⟨b', o', none⟩) => Nat.beq b b' && Nat.beq o o'
  | _, _ => false
theorem eqV_eq {a b : Value} (h : eqV a b = true) : a = b := by
  unfold eqV at h
  split at h <;> simp_all [Nat.beq_eq]
def chkR (e : En) (h : LH) : List Chk → Bool
  | [] => true
  | c :: r => (bif wantA c.g e.env then (match ldA c.n h.heap (ev e.env c.a) with | some v => eqV v (e.env c.d) | none => false) else true) && chkR e h r
theorem chkR_sound {e : En} {h : LH} : ∀ {l : List Chk}, chkR e h l = true → chkA e.env h.heap l
  | [], _ => trivial
  | c :: r, hc => by
    simp only [chkR, Bool.and_eq_true] at hc
    refine ⟨fun hw => ?_, chkR_sound hc.2⟩
    have h1 := hc.1
    rw [hw, cond_true] at h1
    split at h1
    · rename_i v hv; rw [hv, eqV_eq h1]
    · cases h1

/-! ### The runner: all ways in which it may go are to end well ('K') -/
abbrev CallR := Nat → List Value → LH → (Value → LH → Bool) → Bool
def stepR (P : Program) (call : CallR) (op : AOp) (ρ : Operand → Value) (h : LH) (K : Value → LH → Bool) : Bool :=
  match op with
  | .call f args => call f (args.map ρ) h K
  | .dyn x args => match calleeA (ρ x) (args.map ρ) with | some p => call p.1 p.2 h K | none => false
  | .pan _ => false
  | op => bif isPure op then (match pureA P op ρ with | some v => K v h | none => false) else match memR op ρ h with | some p => K p.1 p.2 | none => false
def opsR (P : Program) (call : CallR) : List AOper → En → LH → (En → LH → Bool) → Bool
  | [], e, h, K => K e h
  | o :: os, e, h, K =>
    bif wantA o.g e.env then
      stepR P call o.op (ev e.env) h fun v h => fV v fun v => bif chkR (setO e o.d v) h o.k then opsR P call os (setO e o.d v) h K else false
    else opsR P call os (setO e o.d undef) h K
def GoodC (P : Program) (call : CallR) : Prop := ∀ f args h K, call f args h K = true → ∀ (N X : Value → Heap → Prop), (∀ v h', K v h' = true → N v h'.heap) → ACall P f args h.heap (EndK N X)
theorem stepR_sound {P : Program} {call : CallR} (hc : GoodC P call) {op : AOp} {ρ : Operand → Value} {h : LH} {K : Value → LH → Bool} (e : stepR P call op ρ h K = true) {N X : Value → Heap → Prop} (k : ∀ v h', K v h' = true → N v h'.heap) : StepA P op ρ h.heap N X := by
  have gen : ∀ (op : AOp), (bif isPure op then (match pureA P op ρ with | some v => K v h | none => false) else match memR op ρ h with | some p => K p.1 p.2 | none => false) = true → if isPure op = true then ∃ v, pureA P op ρ = some v ∧ N v h.heap else ∃ v H', memA op ρ h.heap = some (v, H') ∧ N v H' := by
    intro op e
    cases hp : isPure op with
    | true =>
      rw [hp, cond_true] at e
      rw [if_pos rfl]
      split at e
      · rename_i u hu
        exact ⟨u, hu, k _ _ e⟩
      · cases e
    | false =>
      rw [hp, cond_false] at e
      rw [if_neg (by simp)]
      split at e
      · rename_i p hp
        exact ⟨p.1, _, memR_sound hp, k _ _ e⟩
      · cases e
  have g := gen op
  cases op with
  | call f as => exact hc _ _ _ _ e _ _ k
  | dyn x as =>
    simp only [stepR] at e
    split at e
    · rename_i p hp; exact ⟨p.1, p.2, hp, hc _ _ _ _ e _ _ k⟩
    · cases e
  | pan x => cases e
  | _ => exact g e
theorem opsR_sound {P : Program} {call : CallR} (hc : GoodC P call) {M : Env → Heap → Prop} {X : Value → Heap → Prop} {K : En → LH → Bool} (k : ∀ e h, K e h = true → M e.env h.heap) : ∀ {os : List AOper} {e : En} {h : LH}, opsR P call os e h K = true → AOps P os M X e.env h.heap
  | [], e, h, r => k _ _ r
  | o :: os, e, h, r => by
    unfold opsR at r; unfold AOps
    cases hw : wantA o.g e.env with
    | true =>
      rw [hw, cond_true] at r
      rw [if_pos rfl]
      refine stepR_sound hc r fun v h1 r1 => ?_
      rw [fV_eq] at r1
      cases hk : chkR (setO e o.d v) h1 o.k with
      | true =>
        rw [hk, cond_true] at r1
        refine ⟨?_, ?_⟩
        · rw [← setO_env]; exact chkR_sound hk
        · rw [← setO_env]; exact opsR_sound hc k r1
      | false => rw [hk, cond_false] at r1; cases r1
    | false =>
      rw [hw, cond_false] at r
      rw [if_neg (by simp), ← setO_env]
      exact opsR_sound hc k r

inductive REx where
  | normal
  | exit (id : Nat)
  | ret
def REx.to : REx → AEx
  | .normal => .normal
  | .exit i => .exit i
  | .ret => .ret
/-- Each function's code: how many parameters, the code, the results. -/
structure CodeIs (P : Program) (f np : Nat) (c : ACode) (rs : List ARes) : Prop where
  all : ∀ args H Q, args.length = np → AW P c (funP rs Q) (envOf args) H → ACall P f args H Q
abbrev Codes := Nat → Option (Nat × ACode × List ARes)
def GoodCodes (P : Program) (C : Codes) : Prop := ∀ f np c rs, C f = some (np, c, rs) → CodeIs P f np c rs
def lkC : List (Nat × Nat × ACode × List ARes) → Codes
  | [], _ => none
  | (g, p) :: r, f => bif Nat.beq f g then some p else lkC r f
theorem goodC_nil {P : Program} : GoodCodes P (lkC []) := fun f np c rs h => by cases h
theorem goodC_cons {P : Program} {g np : Nat} {c : ACode} {rs : List ARes} {l : List (Nat × Nat × ACode × List ARes)} (h : CodeIs P g np c rs) (k : GoodCodes P (lkC l)) : GoodCodes P (lkC ((g, np, c, rs) :: l)) := by
  intro f np' c' rs' e
  simp only [lkC, cond_beq] at e
  split at e
  · rename_i hf; subst hf
    simp only [Option.some.injEq, Prod.mk.injEq] at e
    obtain ⟨rfl, rfl, rfl⟩ := e; exact h
  · exact k f np' c' rs' e
def endR (rs : List ARes) (K : Value → LH → Bool) : REx → En → LH → Bool := fun x e h =>
  match x with
  | .exit _ => false
  | _ => match resL e.env h.heap rs with | some l => K (resV l) h | none => false
def runR (P : Program) (C : Codes) : Nat → ACode → En → LH → (REx → En → LH → Bool) → Bool
  | 0, _, _, _, _ => false
  | n + 1, c, e, h, K =>
    match c with
    | .nil => K .normal e h
    | .ret => K .ret e h
    | .exit i => K (.exit i) e h
    | .reg ops k =>
      opsR P (fun f args h K => match C f with
        | some p => bif Nat.beq args.length p.1 then runR P C n p.2.1 (envL args 0 .lf) h (endR p.2.2 K) else false
        | none => false) ops e h fun e h => runR P C n k e h K
    | .both a b => runR P C n a e h K && runR P C n b e h K
    | .cond x a b k =>
      match ev e.env x with
      | .bool t => bif t then runR P C n a e h (fun x e h => match x with | .normal => runR P C n k e h K | x => K x e h) else runR P C n b e h (fun x e h => match x with | .normal => runR P C n k e h K | x => K x e h)
      | _ => false
    | .block i b k => runR P C n b e h fun x e h => match x with
      | .normal => runR P C n k e h K
      | .exit j => bif Nat.beq j i then runR P C n k e h K else K (.exit j) e h
      | .ret => K .ret e h
    | .loop b => runR P C n b e h fun x e h => match x with
      | .normal => runR P C n (.loop b) e h K
      | x => K x e h
    | .label _ k => runR P C n k e h K
    | _ => false
def callR (P : Program) (C : Codes) (n : Nat) : CallR := fun f args h K => match C f with
  | some p => bif Nat.beq args.length p.1 then runR P C n p.2.1 (envL args 0 .lf) h (endR p.2.2 K) else false
  | none => false
def GoodR (P : Program) (C : Codes) (n : Nat) : Prop := ∀ c e h K, runR P C n c e h K = true → ∀ Q : Post, (∀ x e' h', K x e' h' = true → Q x.to e'.env h'.heap) → AW P c Q e.env h.heap
theorem callR_good {P : Program} {C : Codes} (hC : GoodCodes P C) {n : Nat} (ih : GoodR P C n) : GoodC P (callR P C n) := by
  intro f args h K e N X k
  unfold callR at e
  split at e
  · rename_i p hp
    obtain ⟨np, c, rs⟩ := p
    simp only at e
    cases hl : Nat.beq args.length np with
    | false => rw [hl] at e; cases e
    | true =>
      rw [hl, cond_true] at e
      refine (hC f np c rs hp).all args _ _ (Nat.eq_of_beq_eq_true hl) ?_
      rw [← envL_env]
      refine ih _ _ _ _ e _ fun x e1 h1 r => ?_
      unfold endR at r
      cases x with
      | exit i => cases r
      | normal =>
        simp only at r
        split at r
        · rename_i l hl; exact ⟨l, hl, k _ _ r⟩
        · cases r
      | ret =>
        simp only at r
        split at r
        · rename_i l hl; exact ⟨l, hl, k _ _ r⟩
        · cases r
  · cases e
theorem runR_sound {P : Program} {C : Codes} (hC : GoodCodes P C) : ∀ n, ∀ m, m ≤ n → GoodR P C m
  | 0, m, hm => by
    obtain rfl : m = 0 := by omega
    intro c e h K r; cases r
  | n + 1, m, hm => by
    have ih := runR_sound hC n
    rcases Nat.lt_or_ge m (n + 1) with h1 | h1
    · exact ih m (by omega)
    obtain rfl : m = n + 1 := by omega
    have ihn := ih n (Nat.le_refl _)
    intro c e h K r Q q
    cases c with
    | nil => exact q _ _ _ r
    | ret => exact q _ _ _ r
    | exit i => exact q _ _ _ r
    | reg ops k =>
      simp only [runR] at r
      exact opsR_sound (M := AW P k Q) (callR_good hC ihn) (fun e h r => ihn _ _ _ _ r Q q) r
    | both a b =>
      simp only [runR, Bool.and_eq_true] at r
      exact ⟨ihn _ _ _ _ r.1 Q q, ihn _ _ _ _ r.2 Q q⟩
    | cond y a b k =>
      simp only [runR] at r
      split at r
      · rename_i t ht
        refine ⟨t, ht, ?_⟩
        have fin : ∀ (x : REx) (e : En) (h : LH), (match x with | .normal => runR P C n k e h K | x => K x e h) = true → thenP (AW P k Q) Q x.to e.env h.heap := by
          intro x e h r
          cases x with
          | normal => exact ihn _ _ _ _ r Q q
          | exit i => exact q _ _ _ r
          | ret => exact q _ _ _ r
        cases t with
        | true => rw [if_pos rfl]; exact ihn _ _ _ _ r _ fin
        | false => rw [if_neg (by simp)]; exact ihn _ _ _ _ r _ fin
      · cases r
    | block i b k =>
      simp only [runR] at r
      unfold AW
      refine ihn _ _ _ _ r _ fun x e h r => ?_
      cases x with
      | normal => exact ihn _ _ _ _ r Q q
      | exit j =>
        simp only [cond_beq] at r
        simp only [REx.to, blkP]
        split at r
        · rename_i hj; rw [if_pos hj]; exact ihn _ _ _ _ r Q q
        · rename_i hj; rw [if_neg hj]; exact q _ _ _ r
      | ret => exact q _ _ _ r
    | loop b =>
      unfold AW
      refine ⟨fun m e0 H0 => m ≤ n + 1 ∧ ∃ (el : En) (hl : LH), e0 = el.env ∧ H0 = hl.heap ∧ runR P C m (.loop b) el hl K = true, ⟨n + 1, Nat.le_refl _, e, h, rfl, rfl, r⟩, ?_⟩
      rintro m _ _ ⟨hm', el, hl, rfl, rfl, r'⟩
      cases m with
      | zero => cases r'
      | succ m =>
        simp only [runR] at r'
        refine ih m (by omega) _ _ _ _ r' _ fun x e h r => ?_
        cases x with
        | normal => exact ⟨m, by omega, by omega, e, h, rfl, rfl, r⟩
        | exit j => exact q _ _ _ r
        | ret => exact q _ _ _ r
    | goto l => cases r
    | label l k =>
      simp only [runR] at r
      exact ihn _ _ _ _ r Q q
    | scope b k => cases r

/-- What runs in a heap of its own, with plain arguments and a plain answer, changes nothing in any other one. -/
def h0 (nG : Nat) : LH := ⟨nG, .lf⟩
theorem ACall_local {P : Program} {f : FuncId} {args : List Value} {H : Heap} {N X : Value → Heap → Prop} {v : Value} (ha : args.all plainV = true) (hv : plainV v = true)
    (h : ACall P f args (h0 P.globals.size).heap (EndK (fun u _ => u = v) (fun _ _ => False))) (k : N v H) : ACall P f args H (EndK N X) := by
  refine ⟨h.ent, fun base s w args' hh hargs => ?_⟩
  have hargs0 : args' = args := All2.eq hargs fun a b ha' r => by
    have := List.all_eq_true.1 ha a ha'
    exact vrel_plain r this
  subst hargs0
  have hb := hh.basew
  have hh0 : HRel w.heap.size P.globals.size (fun b => if b < P.globals.size then s b else none) (h0 P.globals.size).heap w := by
    refine ⟨fun b k hb => ?_, fun b k b' k' _ hb => ?_, fun b hb => ⟨rfl, ?_⟩, fun g hg => ?_, Nat.le_refl _⟩
    · simp [h0, LH.heap, Tr.get] at hb
    · simp [h0, LH.heap, Tr.get] at hb
    · rw [if_neg (by have : P.globals.size ≤ b := hb; omega)]
    · rw [if_pos hg]; exact hh.glob g hg
  refine (h.all w.heap.size _ w args' hh0 ⟨rfl, fun i a b ha' hb' => ?_⟩).mono ?_
  · rw [ha'] at hb'; obtain rfl := Option.some.inj hb'
    exact vrel_of_plain (List.all_eq_true.1 ha a (List.mem_of_getElem? ha'))
  rintro en w' ⟨s', H', h1, h2, h3⟩
  have hfr : ∀ g, g < w.heap.size → w'.heap[g]? = w.heap[g]? := fun g hg => h2.frame g hg fun b k p hb => by simp [h0, LH.heap, Tr.get] at hb
  have hsz := h2.size
  have hr : HRel base P.globals.size s H w' := by
    refine ⟨fun b k hb => ?_, hh.sep, hh.fresh, hh.glob, by omega⟩
    obtain ⟨g, d, m, c, e, fr, e1, e2, e3⟩ := hh.live b k hb
    exact ⟨g, d, m, c, e, fr, e1, by rw [hfr g (Array.getElem?_eq_some_iff.1 e2).1]; exact e2, e3⟩
  refine ⟨s, H, hr, ⟨s.le_refl, h2.os, h2.tape, h2.output, h2.size, fun g hg _ => hfr g hg, fun b k p e1 e2 e3 => .inr ⟨b, k, p, e1, e2, e3, rfl⟩⟩, ?_⟩
  rcases h3 with ⟨u, u', rfl, r, hu⟩ | ⟨u, _, _, hf⟩
  · have hu : u = v := hu
    subst hu
    refine .inl ⟨u, u', rfl, ?_, k⟩
    rw [vrel_plain r hv]; exact vrel_of_plain hv
  · exact hf.elim
/-- The rule for a run of the kernel's. -/
theorem ACall_run {P : Program} {C : Codes} (hC : GoodCodes P C) {f : FuncId} {args : List Value} {H : Heap} {N X : Value → Heap → Prop} (v : Value) (n : Nat) (ha : args.all plainV = true) (hv : plainV v = true)
    (r : callR P C n f args (h0 P.globals.size) (fun u _ => eqV u v) = true) (k : N v H) : ACall P f args H (EndK N X) :=
  ACall_local ha hv (callR_good hC (runR_sound hC n n (Nat.le_refl _)) f args _ _ r _ _ fun u h' e => eqV_eq e) k
end Go.Ab

namespace Go.Ab
open Go
/-! ### Operations behind which loads are looked at once more -/
def wantL (al : AL) : Option (Nat × Bool) → Option Bool
  | none => some true
  | some (j, w) => match lk al j with | some (.bool b) => some (b == w) | _ => none
section
variable {P : Program} {e : Env} {al : AL} {H H0 : Heap} {K : Env → Heap → Prop} {X : Value → Heap → Prop} {os : List AOper} {d : Nat} {u w : Value} {L : List Res}
theorem wantL_E {g : Option (Nat × Bool)} {b : Bool} (h : wantL al g = some b) : wantA g (E e al) = b := by
  cases g with
  | none => simpa [wantL, wantA] using h
  | some p =>
    obtain ⟨j, t⟩ := p
    simp only [wantL] at h
    split at h
    · rename_i c hc; simp only [wantA, E_lk hc]; exact Option.some.inj h
    · cases h
theorem chk_nil : chkA (E e al) H [] := trivial
theorem chk_cons {n : Option Nat} {a : Operand} {g : Option (Nat × Bool)} {c : Nat} {l : List Chk} (ha : evL al a = some u) (hd : lk al c = some w) (hl : ldA n H u = some w) (r : chkA (E e al) H l) : chkA (E e al) H ({ n, a, g, d := c } :: l) :=
  ⟨fun _ => by rw [ev_E ha, E_lk hd]; exact hl, r⟩
theorem chk_skip {n : Option Nat} {a : Operand} {g : Option (Nat × Bool)} {c : Nat} {l : List Chk} (hg : wantL al g = some false) (r : chkA (E e al) H l) : chkA (E e al) H ({ n, a, g, d := c } :: l) :=
  ⟨fun h => absurd h (by rw [wantL_E hg]; simp), r⟩
theorem p_callK {f : FuncId} {args : List Operand} {vs : List Value} {g : Option (Nat × Bool)} {ks : List Chk} (hg : wantL al g = some true) (ha : evsL al args = some vs)
    (h : ACall P f vs H (EndK (fun v H' => chkA (E e ((d, v) :: al)) H' ks ∧ Ops P os K X e ((d, v) :: al) H') X)) : Ops P ({ d := some d, g, op := .call f args, k := ks } :: os) K X e al H := by
  constructor
  unfold AOps
  rw [if_pos (wantL_E hg)]
  show ACall P f (args.map (ev (E e al))) H _
  rw [evs_E ha]
  refine h.mono ?_
  rintro (v | v) H' hk
  · obtain ⟨h1, h2⟩ := (hk : chkA (E e ((d, v) :: al)) H' ks ∧ Ops P os K X e ((d, v) :: al) H')
    show chkA (upd (E e al) d v) H' ks ∧ AOps P os K X (upd (E e al) d v) H'
    rw [upd_E]; exact ⟨h1, h2.h⟩
  · exact hk
theorem Hp.ldB (hp : Hp H0 H L) {b o : Nat} {cs : List Value} (hm : Res.blk b cs ∈ L) (h : nthO cs o = some w) : ldA none H (.pointer (some ⟨b, o, none⟩)) = some w := by
  obtain ⟨⟨k, h1, h2, rfl⟩, _⟩ := hp.res _ hm
  show (H.get b).bind _ = _
  rw [h1]; exact nthO_get h
theorem p_callKF {f : FuncId} {args : List Operand} {g : Option (Nat × Bool)} {ks : List Chk} (hg : wantL al g = some false) (h : Ops P os K X e ((d, undef) :: al) H) : Ops P ({ d := some d, g, op := .call f args, k := ks } :: os) K X e al H := by
  constructor
  unfold AOps
  rw [if_neg (by rw [wantL_E hg]; simp)]
  show AOps P os K X (upd (E e al) d undef) H
  rw [upd_E]; exact h.h
end
end Go.Ab

namespace Go.Ab
open Go
section
variable {P : Program} {H : Heap}
/-! ### What is read, by its type, cell by cell -/
theorem rdC_int {n : Nat} {t : TypeId} {cs : List Value} {k : IntKind} (hu : P.underlying t = some (.int k)) (h : RdA P H (n + 1) t cs) : ∃ x, cs = [.int k x] ∧ k.min ≤ x ∧ x ≤ k.max := by
  unfold RdA at h; rw [hu] at h; exact h
theorem rdC_bool {n : Nat} {t : TypeId} {cs : List Value} (hu : P.underlying t = some .bool) (h : RdA P H (n + 1) t cs) : ∃ x, cs = [.bool x] := by
  unfold RdA at h; rw [hu] at h; exact h
theorem rdC_list {α : Type} {T : Enc α} {ok : α → Prop} {cells : List Value} {R : List Value → Prop} (hr : ∀ cs, R cs → ∃ x, cs = T.enc x ∧ ok x) : ∀ m : Nat, (∀ i, i < m → R ((cells.drop (i * T.size)).take T.size)) → ∃ xs : List α, xs.length = m ∧ cells.take (m * T.size) = T.all xs ∧ ∀ x ∈ xs, ok x
  | 0, _ => ⟨[], rfl, by simp [Enc.all], by simp⟩
  | m + 1, h => by
    obtain ⟨xs, h1, h2, h3⟩ := rdC_list hr m (fun i hi => h i (by omega))
    obtain ⟨x, h4, h5⟩ := hr _ (h m (by omega))
    refine ⟨xs ++ [x], by simp [h1], ?_, ?_⟩
    · rw [Nat.succ_mul, List.take_add, h2, h4]; simp [Enc.all]
    · intro y hy
      rcases List.mem_append.1 hy with hy | hy
      · exact h3 y hy
      · simp only [List.mem_singleton] at hy; subst hy; exact h5
theorem rdC_slice {α : Type} {T : Enc α} {ok : α → Prop} {n : Nat} {t e : TypeId} {cs : List Value} (hu : P.underlying t = some (.slice e)) (hc : P.cellsOf e = T.size) (hT : T.size < 64) (hr : ∀ cs, RdA P H n e cs → ∃ x, cs = T.enc x ∧ ok x) (h : RdA P H (n + 1) t cs) :
    ∃ v xs, cs = [v] ∧ IsS T H v xs ∧ xs.length * P.bytesOf e ≤ reachBytes ∧ ∀ x ∈ xs, ok x := by
  unfold RdA at h; rw [hu] at h
  rcases h with rfl | ⟨b, o, rfl⟩ | ⟨b, k, m, rfl, h1, h2, h3, h4, h5⟩
  · exact ⟨_, [], rfl, .isNil, by simp, by simp⟩
  · exact ⟨_, [], rfl, .isEmpty b o _ (by rw [hc]; omega), by simp, by simp⟩
  · rw [hc] at h5
    obtain ⟨xs, g1, g2, g3⟩ := rdC_list hr m h5
    refine ⟨_, xs, rfl, .isSome b 0 _ m k xs g1.symm (by rw [hc]; omega) h1 h2 ?_, by rw [g1]; exact h4, g3⟩
    rw [List.drop_zero, g1, g2]
theorem rd_slice {α : Type} {T : Enc α} {ok : α → Prop} {n : Nat} {t e : TypeId} {v : Value} (hu : P.underlying t = some (.slice e)) (hc : P.cellsOf e = T.size) (hT : T.size < 64) (hr : ∀ cs, RdA P H n e cs → ∃ x, cs = T.enc x ∧ ok x) (h : RdA P H (n + 1) t (cellsV v)) (hv : ShV P t v) :
    ∃ xs, IsS T H v xs ∧ xs.length * P.bytesOf e ≤ reachBytes ∧ ∀ x ∈ xs, ok x := by
  unfold ShV at hv; rw [hu] at hv
  rw [hv] at h
  obtain ⟨v', xs, h1, h2⟩ := rdC_slice hu hc hT hr h
  obtain rfl : v = v' := by simpa using h1
  exact ⟨xs, h2⟩
theorem rdC_struct {n : Nat} {t : TypeId} {fs : Array Field} {cs : List Value} (hu : P.underlying t = some (.struct fs)) (h : RdA P H (n + 1) t cs) : cs.length = P.cellsOf t ∧ ∀ f ∈ fs.toList, RdA P H n f.type ((cs.drop f.offset).take (P.cellsOf f.type)) := by
  unfold RdA at h; rw [hu] at h; exact h
theorem rdC_array {n k : Nat} {t e : TypeId} {cs : List Value} (hu : P.underlying t = some (.array k e)) (h : RdA P H (n + 1) t cs) : cs.length = P.cellsOf t ∧ ∀ i, i < k → RdA P H n e ((cs.drop (i * P.cellsOf e)).take (P.cellsOf e)) := by
  unfold RdA at h; rw [hu] at h; exact h
end
end Go.Ab

namespace Go.Ab
open Go Ieee

/-! ### Whole numbers as float64: exact below 2^53 -/
/-- A datum that is a whole number, none of its digits ahead of the point. -/
def IsN (d : Datum) (n : Int) : Prop := ∃ s m p, d = .number s m p ∧ (-1074 : Int) ≤ p ∧ p ≤ 0 ∧ m = n.natAbs * 2 ^ (-p).toNat ∧ (n ≠ 0 → s = decide (n < 0))
theorem signed_of {s : Bool} {m : Nat} {p n : Int} (k : Nat) (hm : m = n.natAbs * 2 ^ (-p).toNat) (hs : n ≠ 0 → s = decide (n < 0)) : signed s m k = n * (2 ^ ((-p).toNat + k) : Nat) := by
  unfold signed
  rw [Nat.shiftLeft_eq, hm, Nat.mul_assoc, ← Nat.pow_add]
  generalize 2 ^ ((-p).toNat + k) = c
  rcases Int.lt_trichotomy n 0 with h | h | h
  · rw [hs (by omega), decide_eq_true h, if_pos rfl]
    have : (n.natAbs : Int) = -n := by omega
    rw [Int.natCast_mul, this, Int.neg_mul, Int.neg_neg]
  · subst h; simp
  · rw [hs (by omega), decide_eq_false (by omega), if_neg (by simp)]
    have : (n.natAbs : Int) = n := by omega
    rw [Int.natCast_mul, this]
theorem compare_mul (a b : Int) (c : Nat) (h : 0 < c) : compare (a * (c : Int)) (b * (c : Int)) = compare a b := by
  have hc : (0 : Int) < c := by omega
  have h1 : a * (c : Int) < b * (c : Int) ↔ a < b := ⟨fun h => Int.lt_of_mul_lt_mul_right h (Int.le_of_lt hc), fun h => Int.mul_lt_mul_of_pos_right h hc⟩
  have h2 : a * (c : Int) = b * (c : Int) ↔ a = b := ⟨fun h => Int.eq_of_mul_eq_mul_right (by omega) h, fun h => by rw [h]⟩
  simp only [compare, compareOfLessAndEq, h1, h2]
theorem isN_order {d e : Datum} {a b : Int} (hd : IsN d a) (he : IsN e b) : d.order e = some (compare a b) := by
  obtain ⟨s, m, p, rfl, h1, h2, h3, h4⟩ := hd
  obtain ⟨t, n, q, rfl, g1, g2, g3, g4⟩ := he
  simp only [Datum.order]
  rw [signed_of _ h3 h4, signed_of _ g3 g4]
  have e1 : (-p).toNat + (p - min p q).toNat = (-(min p q)).toNat := by omega
  have e2 : (-q).toNat + (q - min p q).toNat = (-(min p q)).toNat := by omega
  rw [e1, e2, compare_mul _ _ _ (Nat.pow_pos (by omega))]
theorem isN_sum {d e : Datum} {a b : Int} (hd : IsN d a) (he : IsN e b) (hn : d.neg = false) : ∃ f, d.sum e = some f ∧ IsN f (a + b) ∧ (a + b = 0 → f.neg = false) := by
  obtain ⟨s, m, p, rfl, h1, h2, h3, h4⟩ := hd
  obtain ⟨t, n, q, rfl, g1, g2, g3, g4⟩ := he
  have hs : s = false := hn
  refine ⟨_, rfl, ?_, ?_⟩
  · refine ⟨_, _, _, rfl, by omega, by omega, ?_, fun hne => ?_⟩
    · rw [signed_of _ h3 h4, signed_of _ g3 g4]
      have e1 : (-p).toNat + (p - min p q).toNat = (-(min p q)).toNat := by omega
      have e2 : (-q).toNat + (q - min p q).toNat = (-(min p q)).toNat := by omega
      rw [e1, e2, ← Int.add_mul, Int.natAbs_mul, Int.natAbs_natCast]
    · rw [signed_of _ h3 h4, signed_of _ g3 g4]
      have e1 : (-p).toNat + (p - min p q).toNat = (-(min p q)).toNat := by omega
      have e2 : (-q).toNat + (q - min p q).toNat = (-(min p q)).toNat := by omega
      rw [e1, e2, ← Int.add_mul]
      have hc : (0 : Int) < (2 ^ (-(min p q)).toNat : Nat) := by have := Nat.pow_pos (n := (-(min p q)).toNat) (show 0 < 2 by omega); omega
      rw [if_neg (by intro h; rcases Int.mul_eq_zero.1 h with h | h <;> omega)]
      have : ((a + b) * ((2 ^ (-(min p q)).toNat : Nat) : Int) < 0) ↔ a + b < 0 := by
        constructor
        · intro h; rcases Int.lt_trichotomy (a + b) 0 with g | g | g
          · exact g
          · exact absurd g hne
          · have := Int.mul_pos g hc; omega
        · intro h; exact Int.mul_neg_of_neg_of_pos h hc
      simp only [this]
  · intro h0
    rw [signed_of _ h3 h4, signed_of _ g3 g4]
    have e1 : (-p).toNat + (p - min p q).toNat = (-(min p q)).toNat := by omega
    have e2 : (-q).toNat + (q - min p q).toNat = (-(min p q)).toNat := by omega
    rw [e1, e2, ← Int.add_mul, h0, Int.zero_mul, if_pos rfl, hs]
    rfl
theorem isN_opposite {d : Datum} {a : Int} (hd : IsN d a) : IsN d.opposite (-a) := by
  obtain ⟨s, m, p, rfl, h1, h2, h3, h4⟩ := hd
  refine ⟨_, _, _, rfl, h1, h2, by rw [Int.natAbs_neg]; exact h3, fun h => ?_⟩
  rw [h4 (by omega)]
  rcases Int.lt_trichotomy a 0 with g | g | g
  · rw [decide_eq_true g, decide_eq_false (by omega)]; rfl
  · omega
  · rw [decide_eq_false (by omega), decide_eq_true (by omega)]; rfl
/-! To round what is exact. -/
theorem cut_exact (way : Toward) (neg : Bool) (k drop : Nat) (h : k ≠ 0) : way.cut neg (k * 2 ^ drop) drop = k := by
  have hp : 0 < 2 ^ drop := Nat.pow_pos (by omega)
  have hl : drop ≤ (k * 2 ^ drop).log2 := by
    rw [Nat.le_log2 (by have := Nat.mul_pos (Nat.pos_of_ne_zero h) hp; omega)]
    exact Nat.le_mul_of_pos_left _ (Nat.pos_of_ne_zero h)
  unfold Toward.cut
  simp only [Nat.min_eq_left (show drop ≤ (k * 2 ^ drop).log2 + 2 by omega), Nat.shiftLeft_eq, Nat.one_mul, Nat.mul_mod_left, Nat.mul_div_cancel _ hp]
  cases way with
  | even =>
    have h1 : decide (2 ^ drop < 2 * 0) = false := decide_eq_false (by omega)
    have h2 : (2 ^ drop == 2 * 0) = false := by simp
    simp only [h1, h2, Bool.false_and, Bool.or_false, Bool.toNat_false, Nat.add_zero]
  | down => simp
  | up => simp
  | zero => simp
/-- The rung of a whole number. -/
def rungN (N : Nat) : Nat := (N.log2 + 1022) * 4503599627370496 + N * 2 ^ (52 - N.log2)
theorem log2_mul_pow (N k : Nat) (h : N ≠ 0) : (N * 2 ^ k).log2 = N.log2 + k := by
  have hp : 0 < 2 ^ k := Nat.pow_pos (by omega)
  have h0 : N * 2 ^ k ≠ 0 := by have := Nat.mul_pos (Nat.pos_of_ne_zero h) hp; omega
  apply Nat.le_antisymm
  · have h1 := Nat.lt_log2_self (n := N)
    have : (N * 2 ^ k).log2 < N.log2 + 1 + k := by
      rw [Nat.log2_lt h0, Nat.pow_add]
      exact Nat.mul_lt_mul_of_pos_right h1 hp
    omega
  · rw [Nat.le_log2 h0, Nat.pow_add]
    exact Nat.mul_le_mul_right _ (Nat.log2_self_le h)
theorem binade_eq : double.binade = 4503599627370496 := by decide
theorem least_eq : double.leastPlace = -1074 := by decide
theorem inf_eq : double.infRung = 9218868437227405312 := by decide
theorem weight_eq : double.signWeight = 9223372036854775808 := by decide
theorem kept_bounds {N : Nat} (h : N ≠ 0) (hN : N < 9007199254740992) : N.log2 ≤ 52 ∧ 4503599627370496 ≤ N * 2 ^ (52 - N.log2) ∧ N * 2 ^ (52 - N.log2) < 9007199254740992 := by
  have hl : N.log2 < 53 := (Nat.log2_lt h).2 (by omega)
  refine ⟨by omega, ?_, ?_⟩
  · have h1 := Nat.log2_self_le h
    calc 4503599627370496 = 2 ^ N.log2 * 2 ^ (52 - N.log2) := by rw [← Nat.pow_add, show N.log2 + (52 - N.log2) = 52 from by omega]
      _ ≤ N * 2 ^ (52 - N.log2) := Nat.mul_le_mul_right _ h1
  · have h1 := Nat.lt_log2_self (n := N)
    calc N * 2 ^ (52 - N.log2) < 2 ^ (N.log2 + 1) * 2 ^ (52 - N.log2) := Nat.mul_lt_mul_of_pos_right h1 (Nat.pow_pos (by omega))
      _ = 9007199254740992 := by rw [← Nat.pow_add, show N.log2 + 1 + (52 - N.log2) = 53 from by omega]
theorem nearest_exact (s : Bool) {N : Nat} {p : Int} (h : N ≠ 0) (hN : N < 9007199254740992) (h1 : -1074 ≤ p) (h2 : p ≤ 0) : double.nearest s (N * 2 ^ (-p).toNat) p = double.word s (rungN N) := by
  obtain ⟨b1, b2, b3⟩ := kept_bounds h hN
  have hp : 0 < 2 ^ (-p).toNat := Nat.pow_pos (by omega)
  have hm : N * 2 ^ (-p).toNat ≠ 0 := by have := Nat.mul_pos (Nat.pos_of_ne_zero h) hp; omega
  unfold Format.nearest
  rw [if_neg hm]
  have hlast : max (p + ((N * 2 ^ (-p).toNat).log2 : Nat) - (double.fractionBits : Nat)) double.leastPlace = (N.log2 : Int) - 52 := by
    rw [log2_mul_pow _ _ h, least_eq]
    have : double.fractionBits = 52 := rfl
    rw [this]; omega
  simp only [hlast]
  have hk : Toward.even.cut s ((N * 2 ^ (-p).toNat) <<< (p - ((N.log2 : Int) - 52)).toNat) (((N.log2 : Int) - 52) - p).toNat = N * 2 ^ (52 - N.log2) := by
    rw [Nat.shiftLeft_eq]
    by_cases hc : p ≥ (N.log2 : Int) - 52
    · rw [show (((N.log2 : Int) - 52) - p).toNat = 0 from by omega, Nat.mul_assoc, ← Nat.pow_add, show (-p).toNat + (p - ((N.log2 : Int) - 52)).toNat = 52 - N.log2 from by omega]
      have := cut_exact .even s (N * 2 ^ (52 - N.log2)) 0 (by omega)
      rwa [Nat.pow_zero, Nat.mul_one] at this
    · rw [show (p - ((N.log2 : Int) - 52)).toNat = 0 from by omega, Nat.pow_zero, Nat.mul_one]
      have e : N * 2 ^ (-p).toNat = (N * 2 ^ (52 - N.log2)) * 2 ^ (((N.log2 : Int) - 52) - p).toNat := by
        rw [Nat.mul_assoc, ← Nat.pow_add, show 52 - N.log2 + (((N.log2 : Int) - 52) - p).toNat = (-p).toNat from by omega]
      rw [e]
      exact cut_exact .even s _ _ (by omega)
  rw [hk, binade_eq, least_eq, inf_eq, show ((N.log2 : Int) - 52 - -1074).toNat = N.log2 + 1022 from by omega]
  unfold rungN
  rw [Nat.min_eq_left (by omega)]
theorem read_word (s : Bool) {E K : Nat} (hE : E ≤ 2000) (h1 : 4503599627370496 ≤ K) (h2 : K < 9007199254740992) : double.read (double.word s (E * 4503599627370496 + K)) = .number s K (-1074 + E) := by
  have hr : double.word s (E * 4503599627370496 + K) % double.signWeight = E * 4503599627370496 + K := by
    rw [weight_eq]; unfold Format.word; rw [weight_eq]; split <;> omega
  have hs : (double.word s (E * 4503599627370496 + K) / double.signWeight % 2 == 1) = s := by
    rw [weight_eq]; unfold Format.word; rw [weight_eq]
    cases s with
    | true => rw [if_pos rfl]; rw [show (9223372036854775808 + (E * 4503599627370496 + K)) / 9223372036854775808 = 1 from by omega]; rfl
    | false => rw [if_neg (by simp)]; rw [show (E * 4503599627370496 + K) / 9223372036854775808 = 0 from by omega]; rfl
  unfold Format.read
  simp only [hr, hs, binade_eq, inf_eq, least_eq]
  rw [if_neg (by omega), if_pos (by omega)]
  congr 1
  · omega
  · rw [show (E * 4503599627370496 + K) / 4503599627370496 = E + 1 from by omega]; omega
abbrev flN (n : Int) : Nat := FloatKind.nearest .f64 n
theorem flN_eq {n : Int} (h : n ≠ 0) (hn : n.natAbs < 9007199254740992) : flN n = double.word (decide (n < 0)) (rungN n.natAbs) := by
  have := nearest_exact (decide (n < 0)) (N := n.natAbs) (p := 0) (by omega) hn (by omega) (by omega)
  rw [show (-(0 : Int)).toNat = 0 from rfl, Nat.pow_zero, Nat.mul_one] at this
  exact this
theorem read_flN {n : Int} (hn : n.natAbs < 9007199254740992) : IsN (double.read (flN n)) n ∧ (0 ≤ n → (double.read (flN n)).neg = false) := by
  by_cases h : n = 0
  · subst h
    have : double.read (flN 0) = .number false 0 (-1074) := by decide
    rw [this]
    exact ⟨⟨_, _, _, rfl, by omega, by omega, by rw [Int.natAbs_zero, Nat.zero_mul], fun h => absurd rfl h⟩, fun _ => rfl⟩
  · obtain ⟨b1, b2, b3⟩ := kept_bounds (N := n.natAbs) (by omega) hn
    rw [flN_eq h hn, rungN, read_word _ (by omega) b2 b3]
    refine ⟨⟨_, _, _, rfl, by omega, by omega, ?_, fun _ => rfl⟩, fun h0 => decide_eq_false (by omega)⟩
    rw [show (-(-1074 + ((n.natAbs.log2 + 1022 : Nat) : Int))).toNat = 52 - n.natAbs.log2 from by omega]
theorem write_isN {d : Datum} {n : Int} (hd : IsN d n) (hn : n.natAbs < 9007199254740992) (h0 : n = 0 → d.neg = false) : double.write d = flN n := by
  obtain ⟨s, m, p, rfl, h1, h2, h3, h4⟩ := hd
  show double.nearest s m p = _
  by_cases h : n = 0
  · have hs : s = false := h0 h
    subst h
    have hm : m = 0 := by rw [h3]; simp
    subst hm; subst hs
    unfold Format.nearest; rw [if_pos rfl]; decide
  · rw [flN_eq h hn, h3, nearest_exact s (by omega) hn h1 h2, h4 h]
/-! The operations. -/
theorem order_flN {a b : Int} (ha : a.natAbs < 9007199254740992) (hb : b.natAbs < 9007199254740992) : double.order (flN a) (flN b) = some (compare a b) := isN_order (read_flN ha).1 (read_flN hb).1
theorem sub_flN {a b : Int} (ha : a.natAbs < 9007199254740992) (hb : b.natAbs < 9007199254740992) (h0 : 0 ≤ a) (hab : (a - b).natAbs < 9007199254740992) : double.sub (flN a) (flN b) = some (flN (a - b)) := by
  obtain ⟨f, e1, e2, e3⟩ := isN_sum (read_flN ha).1 (isN_opposite (read_flN hb).1) ((read_flN ha).2 h0)
  show ((double.read (flN a)).sum (double.read (flN b)).opposite).map double.write = _
  rw [e1, Option.map_some, write_isN (n := a - b) e2 hab (fun h => e3 (by omega))]
theorem integral_flN {a : Int} (ha : a.natAbs < 9007199254740992) (way : Toward) : double.write ((double.read (flN a)).integral way) = flN a := by
  by_cases h : a = 0
  · subst h; cases way <;> decide
  · obtain ⟨⟨s, m, p, e, h1, h2, h3, h4⟩, _⟩ := read_flN ha
    rw [e]
    show double.write (.number s (way.cut s (m <<< p.toNat) (-p).toNat) 0) = _
    have : way.cut s (m <<< p.toNat) (-p).toNat = a.natAbs := by
      rw [show p.toNat = 0 from by omega, Nat.shiftLeft_zero, h3]
      exact cut_exact way s _ _ (by omega)
    rw [this, h4 h]; rfl
end Go.Ab

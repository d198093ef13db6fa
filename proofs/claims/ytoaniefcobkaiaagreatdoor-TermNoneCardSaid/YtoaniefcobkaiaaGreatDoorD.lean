/- Proved here, with the other texts of this claim: the law TermNone of package marqueelaw18 answers true for every input, and each argument reads behind the call as before; without any condition. These texts hold an evaluator of the program's code over memories of which a part is known, its soundness, and the walks of the functions that the law calls. -/
import Derived.Test.YtoaniefcobkaiaaGreatDoorC
import Derived.KernelRfl
import Derived.Test.YtoaniefcobkaiaaGreatDoorProg
section
set_option maxRecDepth 100000
open Go Go.Ev Go.Proofs
namespace Go.Proofs.YtoaniefcobkaiaaGreatDoor
abbrev KG : Nat := 8
def G : Nat → Bool := below KG
noncomputable def tis : Tr (Option TI) := Tr.fill (tisFrom Tryz.prog Tryz.prog.types.toList Tryz.prog.types.toList 0) 0 .leaf
noncomputable def fns : Tr Func := Tr.fill Tryz.prog.funcs.toList 0 .leaf
def intr (f : FuncId) : Option (List Value → AH → Option (Value × AH)) :=
  match Nat.beq f 360 with
  | true => some idxI
  | false =>
  match Nat.beq f 376 with
  | true => some cntI
  | false =>
  none
theorem intr_spec {f : FuncId} {g : List Value → AH → Option (Value × AH)} (h : intr f = some g) : (f = 360 ∧ g = idxI) ∨ (f = 376 ∧ g = cntI) := by
  unfold intr at h
  repeat (split at h <;> rename_i hb <;> first
    | (simp only [Option.some.injEq] at h; have := Nat.eq_of_beq_eq_true hb; subst this; subst h; simp)
    | skip)
  all_goals first | (cases h; done) | simp_all
noncomputable def E : Env := envOf tis fns intr
theorem hT : typesOk Tryz.prog.types.toList = true := by kernel_rfl
theorem hF : funcsOk G Tryz.prog.funcs.toList = true := by kernel_rfl
theorem e01 : Extern.findNext Tryz.f360 = none := by kernel_rfl
theorem e02 : Extern.find Tryz.f360 = some Extern.BytealgIndexByte.indexByte := by kernel_rfl
theorem e03 : (Tryz.f360.name == "runtime.NumGoroutine") = false := by kernel_rfl
theorem e04 : Tryz.f360.body = none := by kernel_rfl
theorem e11 : Extern.findNext Tryz.f376 = none := by kernel_rfl
theorem e12 : Extern.find Tryz.f376 = some Extern.BytealgCount.count := by kernel_rfl
theorem e13 : (Tryz.f376.name == "runtime.NumGoroutine") = false := by kernel_rfl
theorem e14 : Tryz.f376.body = none := by kernel_rfl
theorem intr_ok {f : FuncId} {g : List Value → AH → Option (Value × AH)} (hg : intr f = some g) {args : List Value} {h h' : AH} {v : Value} (hc : g args h = some (v, h')) : CallOk Tryz.prog G f args h v h' := by
  rcases intr_spec hg with ⟨rfl, rfl⟩ | ⟨rfl, rfl⟩
  · exact extern_ok Tryz.func360 e03 e04 e01 e02 fun μ w args' hr ha => idx_ok hc hr ha
  · exact extern_ok Tryz.func376 e13 e14 e11 e12 fun μ w args' hr ha => cnt_ok hc hr ha
theorem full : EnvFull Tryz.prog G E where
  ti := (tis_ok hT).1
  places := (tis_ok hT).2
  fns := fun _ _ h => fns_ok hF h
  intr := fun _ _ hg _ _ _ _ hc => intr_ok hg hc
end Go.Proofs.YtoaniefcobkaiaaGreatDoor
end
section
set_option maxRecDepth 100000
open Go Go.Ev Go.Proofs
namespace Go.Proofs.YtoaniefcobkaiaaGreatDoor
/-! short names -/
abbrev vI (n : Int) : Value := .int .i64 n
abbrev vR (n : Int) : Value := .int .i32 n
abbrev vB (n : Int) : Value := .int .u8 n
abbrev vP (b o : Nat) : Value := .pointer (some ⟨b, o, none⟩)
abbrev vS (b n k : Nat) : Value := .slice (some ⟨b, 0, none⟩) n k
abbrev oc (v : Value) : Operand := .const v
/-! the program's data -/
structure Color where
  kind : Int
  n : Int
  deriving DecidableEq
structure Attr where
  fore : Color
  back : Color
  flags : Int
  deriving DecidableEq
structure Cell where
  r : Int
  more : ByteArray
  half : Int
  attr : Attr
  deriving DecidableEq
def Color.vs (c : Color) : List Value := [.int .i64 c.kind, .int .i64 c.n]
abbrev Color.v (c : Color) : Value := .agg ⟨c.vs⟩
def Attr.vs (a : Attr) : List Value := [.int .i64 a.fore.kind, .int .i64 a.fore.n, .int .i64 a.back.kind, .int .i64 a.back.n, .int .i64 a.flags]
abbrev Attr.v (a : Attr) : Value := .agg ⟨a.vs⟩
def Cell.vs (c : Cell) : List Value := [.int .i32 c.r, .string c.more, .int .i64 c.half, .int .i64 c.attr.fore.kind, .int .i64 c.attr.fore.n, .int .i64 c.attr.back.kind, .int .i64 c.attr.back.n, .int .i64 c.attr.flags]
abbrev Cell.v (c : Cell) : Value := .agg ⟨c.vs⟩
def noText : ByteArray := ⟨#[]⟩
def Color.zero : Color := ⟨0, 0⟩
def Attr.zero : Attr := ⟨.zero, .zero, 0⟩
def emptyC (a : Attr) : Cell := ⟨0, noText, 0, a⟩
def blankC (b : Color) : Cell := emptyC ⟨.zero, b, 0⟩
def Cell.zero : Cell := emptyC .zero
def cellsV (l : List Cell) : List Value := l.flatMap Cell.vs
abbrev immC (l : List Cell) : Value := immV (cellsV l) l.length 8
structure Row where
  cells : List Cell
  cont : Bool
def Row.vs (r : Row) : List Value := [immC r.cells, .bool r.cont]
abbrev Row.v (r : Row) : Value := .agg ⟨r.vs⟩
def rowsV (l : List Row) : List Value := l.flatMap Row.vs
abbrev immR (l : List Row) : Value := immV (rowsV l) l.length 2

theorem cellsV_length (l : List Cell) : (cellsV l).length = l.length * 8 := by
  induction l with
  | nil => rfl
  | cons c l ih => simp only [cellsV, List.flatMap_cons, List.length_append, List.length_cons] at ih ⊢; rw [ih]; simp [Cell.vs]; omega
theorem rowsV_length (l : List Row) : (rowsV l).length = l.length * 2 := by
  induction l with
  | nil => rfl
  | cons c l ih => simp only [rowsV, List.flatMap_cons, List.length_append, List.length_cons] at ih ⊢; rw [ih]; simp [Row.vs]; omega
theorem flat_drop {α : Type} (f : α → List Value) (k : Nat) (hk : ∀ x, (f x).length = k) : ∀ (l : List α) (i : Nat), (l.flatMap f).drop (i * k) = (l.drop i).flatMap f
  | l, 0 => by simp
  | [], i + 1 => by simp
  | x :: l, i + 1 => by
    rw [List.flatMap_cons, Nat.succ_mul, Nat.add_comm, ← List.drop_drop]
    have : (f x ++ List.flatMap f l).drop k = l.flatMap f := by rw [← hk x]; simp
    rw [this, flat_drop f k hk l i]; simp
theorem flat_take {α : Type} (f : α → List Value) (k : Nat) (hk : ∀ x, (f x).length = k) : ∀ (l : List α) (i : Nat), (l.flatMap f).take (i * k) = (l.take i).flatMap f
  | l, 0 => by simp
  | [], i + 1 => by simp
  | x :: l, i + 1 => by
    rw [List.flatMap_cons, Nat.succ_mul, Nat.add_comm]
    have hx := hk x
    rw [List.take_append, hx, Nat.add_sub_cancel_left, flat_take f k hk l i, List.take_of_length_le (by omega)]; simp
theorem cellsV_drop (l : List Cell) (i : Nat) : (cellsV l).drop (i * 8) = cellsV (l.drop i) := flat_drop _ 8 (fun _ => rfl) l i
theorem cellsV_take (l : List Cell) (i : Nat) : (cellsV l).take (i * 8) = cellsV (l.take i) := flat_take _ 8 (fun _ => rfl) l i
theorem rowsV_drop (l : List Row) (i : Nat) : (rowsV l).drop (i * 2) = rowsV (l.drop i) := flat_drop _ 2 (fun _ => rfl) l i
theorem rowsV_take (l : List Row) (i : Nat) : (rowsV l).take (i * 2) = rowsV (l.take i) := flat_take _ 2 (fun _ => rfl) l i
theorem cellsV_cons (c : Cell) (l : List Cell) : cellsV (c :: l) = c.vs ++ cellsV l := rfl
theorem cellsV_append (l m : List Cell) : cellsV (l ++ m) = cellsV l ++ cellsV m := by simp [cellsV]
theorem cellsV_cl : ∀ l : List Cell, (cellsV l).all cl = true
  | [] => rfl
  | c :: l => by rw [cellsV_cons, List.all_append, cellsV_cl l]; rfl
theorem cellsV_set (l : List Cell) (i : Nat) (c : Cell) (h : i < l.length) : setAt (cellsV l) (i * 8) c.vs = cellsV (l.set i c) := by
  apply List.ext_getElem?
  intro j
  have hl := cellsV_length l
  have hc : c.vs.length = 8 := rfl
  rw [setAt_get _ _ _ _ (by rw [hl, hc]; omega), hc]
  have e : ∀ m : List Cell, (cellsV m)[j]? = (m[j / 8]?).bind fun c => c.vs[j % 8]? := by
    intro m
    have h1 : (cellsV m)[j]? = ((cellsV m).drop (j / 8 * 8))[j % 8]? := by rw [List.getElem?_drop]; congr 1; omega
    rw [h1, cellsV_drop]
    cases hm : m.drop (j / 8) with
    | nil =>
      have : m[j / 8]? = none := by rw [List.getElem?_eq_none]; simpa using hm
      rw [this]; simp [cellsV]
    | cons x m' =>
      have : m[j / 8]? = some x := by
        have : (m.drop (j / 8))[0]? = some x := by rw [hm]; rfl
        rw [List.getElem?_drop] at this; simpa using this
      rw [this, cellsV_cons, List.getElem?_append_left (by have : x.vs.length = 8 := rfl; omega)]; rfl
  by_cases h1 : i * 8 ≤ j ∧ j < i * 8 + 8
  · rw [if_pos h1, e]
    have : j / 8 = i := by omega
    rw [this, List.getElem?_set_self h]
    show c.vs[j - i * 8]? = c.vs[j % 8]?
    congr 1; omega
  · rw [if_neg h1, e, e, List.getElem?_set_ne (by omega)]
noncomputable def C0 : Caller := evCall E 60
theorem C0_ok : CallerOk Tryz.prog G C0 := evCall_sound full 60
theorem pure_fn {call : Caller} (hc : CallerOk Tryz.prog G call) {f : FuncId} {fn : Func} (hf : E.fn f = some fn) (hb : fn.body.isSome = true) {args : List Value} {d : List Dec} {v2 : Value}
    (h1 : vcFn Tryz.prog G E call 5 fn args (bas 8) d fun v h' => FinR 8 v h' v2 (bas 8)) (ha : args.all clv = true) (hv : clv v2 = true) (h : AH) : CallOk Tryz.prog G f args h v2 h := pure_ok full hc hf hb h1 ha hv h
end Go.Proofs.YtoaniefcobkaiaaGreatDoor
end
section
set_option maxRecDepth 100000
open Go Go.Ev Go.Proofs
namespace Go.Proofs.YtoaniefcobkaiaaGreatDoor
theorem blank_vc (b : Color) (K : Value → AH → Prop) : vcFn Tryz.prog G E C0 5 Tryz.f332 [Color.v b] (bas 8) [] K = (K (Value.agg { toList := [vR 0, Value.string { data := #[] }, vI 0, vI 0, vI 0, vI (Color.kind b), vI (Color.n b), vI 0] }) (mkH 12 [(8, some (AObj.cells (Color.vs b) 37 0 false)), (9, some (AObj.cells [vR 0, Value.string { data := #[] }, vI 0, vI 0, vI 0, vI (Color.kind b), vI (Color.n b), vI 0] 147 0 false)), (10, some (AObj.cells [vI 0, vI 0, vI (Color.kind b), vI (Color.n b), vI 0] 39 0 false)), (11, some (AObj.cells [vR 0, Value.string { data := #[] }, vI 0, vI 0, vI 0, vI (Color.kind b), vI (Color.n b), vI 0] 147 0 false))])) := by kernel_rfl

theorem fits13_vc (r c : Int) (K : Value → AH → Prop) : vcFn Tryz.prog G E C0 5 Tryz.f41 [vI r, vI c] (bas 8) [.run 1, .bool [.run 1, .bool [.run 2, .bool [.run 2, .bool [] []] []] []] []] K = ((decide (r > 0) = true → (decide (r ≤ 1000) = true → (decide (c > 1) = true → (decide (c ≤ 1000) = true → K (Value.bool true) (bas 8)) ∧ (decide (c ≤ 1000) = false → K (Value.bool false) (bas 8))) ∧ (decide (c > 1) = false → K (Value.bool false) (bas 8))) ∧ (decide (r ≤ 1000) = false → K (Value.bool false) (bas 8))) ∧ (decide (r > 0) = false → K (Value.bool false) (bas 8))) := by kernel_rfl

theorem pfits_vc (r c : Int) (K : Value → AH → Prop) : vcFn Tryz.prog G E C0 5 Tryz.f111 [vI r, vI c] (bas 8) [.run 1, .bool [.run 1, .bool [.run 2, .bool [.run 2, .bool [] []] []] []] []] K = ((decide (r ≥ 1) = true → (decide (r ≤ 1000) = true → (decide (c ≥ 2) = true → (decide (c ≤ 1000) = true → K (Value.bool true) (bas 8)) ∧ (decide (c ≤ 1000) = false → K (Value.bool false) (bas 8))) ∧ (decide (c ≥ 2) = false → K (Value.bool false) (bas 8))) ∧ (decide (r ≤ 1000) = false → K (Value.bool false) (bas 8))) ∧ (decide (r ≥ 1) = false → K (Value.bool false) (bas 8))) := by kernel_rfl

theorem tfits_vc (c : Int) (K : Value → AH → Prop) : vcFn Tryz.prog G E C0 5 Tryz.f113 [vI c] (bas 8) [.run 1, .bool [.run 1, .bool [] []] []] K = ((decide (c ≥ 2) = true → (decide (c ≤ 1000) = true → K (Value.bool true) (bas 8)) ∧ (decide (c ≤ 1000) = false → K (Value.bool false) (bas 8))) ∧ (decide (c ≥ 2) = false → K (Value.bool false) (bas 8))) := by kernel_rfl
end Go.Proofs.YtoaniefcobkaiaaGreatDoor
end
section
set_option maxRecDepth 100000
open Go Go.Ev Go.Proofs
namespace Go.Proofs.YtoaniefcobkaiaaGreatDoor
theorem blank_ok (b : Color) (h : AH) : CallOk Tryz.prog G 332 [b.v] h (blankC b).v h :=
  pure_fn C0_ok (fn := Tryz.f332) (by kernel_rfl) (by kernel_rfl) (by rw [blank_vc]; exact FinR.drop' rfl (by kernel_rfl) rfl (by simp [mkH])) rfl rfl h
def fits (r c : Int) : Bool := decide (r > 0) && decide (r ≤ 1000) && decide (c > 1) && decide (c ≤ 1000)
def tfits (c : Int) : Bool := decide (c > 1) && decide (c ≤ 1000)
theorem fits13_ok (r c : Int) (h : AH) : CallOk Tryz.prog G 41 [.int .i64 r, .int .i64 c] h (.bool (fits r c)) h :=
  pure_fn C0_ok (fn := Tryz.f41) (by kernel_rfl) (by kernel_rfl) (by
    rw [fits13_vc]
    repeat' (first | refine And.intro (fun _ => ?_) (fun _ => ?_))
    all_goals exact FinR.drop' (by simp [fits, *]) (by kernel_rfl) rfl (by simp [mkH])) rfl rfl h
theorem pfits_ok (r c : Int) (h : AH) : CallOk Tryz.prog G 111 [.int .i64 r, .int .i64 c] h (.bool (fits r c)) h :=
  pure_fn C0_ok (fn := Tryz.f111) (by kernel_rfl) (by kernel_rfl) (by
    rw [pfits_vc]
    repeat' (first | refine And.intro (fun _ => ?_) (fun _ => ?_))
    all_goals exact FinR.drop' (by simp [fits] at *; omega) (by kernel_rfl) rfl (by simp [mkH])) rfl rfl h
theorem tfits_ok (c : Int) (h : AH) : CallOk Tryz.prog G 113 [.int .i64 c] h (.bool (tfits c)) h :=
  pure_fn C0_ok (fn := Tryz.f113) (by kernel_rfl) (by kernel_rfl) (by
    rw [tfits_vc]
    repeat' (first | refine And.intro (fun _ => ?_) (fun _ => ?_))
    all_goals exact FinR.drop' (by simp [tfits] at *; omega) (by kernel_rfl) rfl (by simp [mkH])) rfl rfl h
def blankS : List Value → Option Value
  | [.agg ⟨[.int .i64 a, .int .i64 b]⟩] => some (blankC ⟨a, b⟩).v
  | _ => none
def fitsS : List Value → Option Value
  | [.int .i64 a, .int .i64 b] => some (.bool (fits a b))
  | _ => none
def tfitsS : List Value → Option Value
  | [.int .i64 a] => some (.bool (tfits a))
  | _ => none
noncomputable def C1 : Caller := withPure 332 blankS (withPure 41 fitsS (withPure 111 fitsS (withPure 113 tfitsS C0)))
theorem C1_ok : CallerOk Tryz.prog G C1 := by
  refine withPure_ok (withPure_ok (withPure_ok (withPure_ok C0_ok ?_) ?_) ?_) ?_ <;> intro args v hs h
  · unfold tfitsS at hs; split at hs <;> cases hs; exact tfits_ok _ h
  · unfold fitsS at hs; split at hs <;> cases hs; exact pfits_ok _ _ h
  · unfold fitsS at hs; split at hs <;> cases hs; exact fits13_ok _ _ h
  · unfold blankS at hs; split at hs <;> cases hs; exact blank_ok ⟨_, _⟩ h
end Go.Proofs.YtoaniefcobkaiaaGreatDoor
end
section
set_option maxRecDepth 100000
open Go Go.Ev Go.Proofs
namespace Go.Proofs.YtoaniefcobkaiaaGreatDoor
theorem blanks_vc (n : Int) (N : Nat) (b : Color) (K : Value → AH → Prop) : vcFn Tryz.prog G E C1 5 Tryz.f269 [vI n, Color.v b] (bas 8) [.run 3, .ask (Unit) (fun (_x : Unit) (_x_1 : AH) => AR.pur (vI (↑N : Int))), .cond, .run 3, .code (List Cell) [3, 5, 12, 13] (fun (l : List Cell) (_x : AH) => (Ex.exit 0, [(5, vS 9 N 8)], mkH 10 [(8, some (AObj.cells (Color.vs b) 37 0 false)), (9, some (AObj.cells (cellsV l) 147 0 false))]))] K = (∃ (_x : Unit), aop E (Op.call { callee := Callee.builtin Builtin.max, args := #[oc (vI 0), oc (vI (if 1000 < n then 1000 else n))], argTypes := #[3, 3] }) Tr.leaf (mkH 9 [(8, some (AObj.cells (Color.vs b) 37 0 false))]) = some (AR.pur (vI (↑N : Int))) ∧ (0 ≤ (↑N : Int) ∧ (↑N : Int) ≤ (↑N : Int) ∧ (↑N : Int) ≤ 9223372036854775807 ∧ (↑72 : Int) * (↑N : Int) ≤ 281474976710656 ∧ True) ∧ ∃ (x : List Cell), LoopT Tryz.prog G 8 23 (loopB Tryz.f269 0) [(3, vP 8 0), (5, vS 9 N 8), (12, vI (↑N : Int)), (13, vI 0)] (mkH 10 [(8, some (AObj.cells (Color.vs b) 37 0 false)), (9, some (AObj.cells (zeros (Value.agg #[vR 0, Value.string { data := #[] }, vI 0, vI 0, vI 0, vI 0, vI 0, vI 0]) (Int.toNat (↑N : Int))) 147 0 false))]) (Ex.exit 0, [(5, vS 9 N 8)], mkH 10 [(8, some (AObj.cells (Color.vs b) 37 0 false)), (9, some (AObj.cells (cellsV x) 147 0 false))]) ∧ K (vS 9 N 8) (mkH 10 [(8, some (AObj.cells (Color.vs b) 37 0 false)), (9, some (AObj.cells (cellsV x) 147 0 false))])) := by kernel_rfl

theorem blanks_body (N : Nat) (i : Int) (b : Color) (l : List Cell) (K : Ex → List Value → AH → Prop) : vcCode Tryz.prog G E C1 (vcInl Tryz.prog G E C1 5) 8 23 100 (loopB Tryz.f269 0) ⟨frL [(3, vP 8 0), (5, vS 9 N 8), (12, vI (↑N : Int)), (13, vI i)], mkH 10 [(8, some (AObj.cells (Color.vs b) 37 0 false)), (9, some (AObj.cells (cellsV l) 147 0 false))]⟩ [.bool [.run 5, .cond, .cond] []] (fun ex s _ => K ex ([3, 5, 12, 13].map (getT s.tm)) s.h) = ((decide (i < (↑N : Int)) = true → (0 ≤ i ∧ i < (↑N : Int) ∧ True) ∧ (Int.toNat i * 8 + 8 ≤ List.length (cellsV l) ∧ 0 ≤ Int.toNat i * 8 ∧ List.all (Cell.vs (blankC { kind := Color.kind b, n := Color.n b })) leaf = true ∧ True) ∧ K Ex.normal [vP 8 0, vS 9 N 8, vI (↑N : Int), vI (IntKind.wrap IntKind.i64 (i + 1))] (mkH 10 [(8, some (AObj.cells (Color.vs b) 37 0 false)), (9, some (AObj.cells (setAt (cellsV l) (Int.toNat i * 8) (Cell.vs (blankC { kind := Color.kind b, n := Color.n b }))) 147 0 false))])) ∧ (decide (i < (↑N : Int)) = false → K (Ex.exit 0) [vP 8 0, vS 9 N 8, vI (↑N : Int), vI i] (mkH 10 [(8, some (AObj.cells (Color.vs b) 37 0 false)), (9, some (AObj.cells (cellsV l) 147 0 false))]))) := by kernel_rfl

theorem ringNew_vc (r : Int) (K : Value → AH → Prop) : vcFn Tryz.prog G E C1 5 Tryz.f110 [vI r] (bas 8) [.run 2, .bool [] [.run 1, .bool [] []]] K = ((decide (r < 0) = true → K (Value.tuple { toList := [Value.pointer none, vI 1] }) (bas 8)) ∧ (decide (r < 0) = false → (decide (r > 100000) = true → K (Value.tuple { toList := [Value.pointer none, vI 1] }) (bas 8)) ∧ (decide (r > 100000) = false → K (Value.tuple { toList := [vP 8 0, vI 0] }) (mkH 9 [(8, some (AObj.cells [Value.slice none 0 0, vI r, vI 0, vI 0, Value.int IntKind.u64 0] 144 0 false))])))) := by kernel_rfl

theorem parseNew_vc (r : Int) (K : Value → AH → Prop) : vcFn Tryz.prog G E C1 5 Tryz.f40 [vI r] (bas 8) [.run 2, .bool [] [.run 1, .bool [] []]] K = ((decide (r < 1) = true → K (Value.tuple { toList := [Value.pointer none, vI 1] }) (bas 8)) ∧ (decide (r < 1) = false → (decide (r > 65536) = true → K (Value.tuple { toList := [Value.pointer none, vI 1] }) (bas 8)) ∧ (decide (r > 65536) = false → K (Value.tuple { toList := [vP 8 0, vI 0] }) (mkH 9 [(8, some (AObj.cells [vB 0, Value.slice none 0 0, Value.slice none 0 0, Value.slice none 0 0, vB 0, Value.bool false, Value.bool false, vI r, vI 0, vR 0, vI 0, vI 0, vB 0, vB 0] 136 0 false))])))) := by kernel_rfl
end Go.Proofs.YtoaniefcobkaiaaGreatDoor
end
section
set_option maxRecDepth 100000
open Go Go.Ev Go.Proofs
namespace Go.Proofs.YtoaniefcobkaiaaGreatDoor
theorem wrap64 {x : Int} (h1 : -9223372036854775808 ≤ x) (h2 : x ≤ 9223372036854775807) : IntKind.wrap .i64 x = x := by
  simp [IntKind.wrap, IntKind.bits, IntKind.signed]; omega
theorem zerosC (n : Nat) : zeros Cell.zero.v n = cellsV (List.replicate n .zero) := by
  induction n with
  | zero => rfl
  | succ n ih => rw [List.replicate_succ, cellsV_cons]; simp only [zeros]; rw [ih]; rfl
theorem loopOk (fn : Func) (k N : Nat) (h : codeOk G N (loopB fn k) = true) : codeOk G N (loopB fn k) = true := h

theorem blanks_loop (N : Nat) (hN : N ≤ 1000) (b : Color) : LoopT Tryz.prog G 8 23 (loopB Tryz.f269 0) [(3, vP 8 0), (5, vS 9 N 8), (12, vI N), (13, vI 0)] (mkH 10 [(8, some (.cells b.vs 37 0 false)), (9, some (.cells (cellsV (List.replicate N .zero)) 147 0 false))])
    (.exit 0, [(5, vS 9 N 8)], mkH 10 [(8, some (.cells b.vs 37 0 false)), (9, some (.cells (cellsV (List.replicate N (blankC b))) 147 0 false))]) := by
  refine loopT_K full C1_ok (depth := 5) (live := [3, 5, 12, 13]) (by kernel_rfl)
    (fun n vals h => ∃ i l, i + n = N ∧ vals = [vP 8 0, vS 9 N 8, vI N, vI i] ∧ l.length = N ∧ (∀ j, j < i → l[j]? = some (blankC b)) ∧ h = mkH 10 [(8, some (.cells b.vs 37 0 false)), (9, some (.cells (cellsV l) 147 0 false))]) ?_
    (n := N) (vals := [vP 8 0, vS 9 N 8, vI N, vI 0]) ⟨0, _, by omega, rfl, List.length_replicate, fun j hj => by omega, rfl⟩
  rintro n vals h ⟨i, l, hin, rfl, hl, hb, rfl⟩
  refine ⟨_, of_eq (blanks_body N i b l (LK G 8 23 [3, 5, 12, 13] _ _ n)) ?_⟩
  refine ⟨fun h1 => ?_, fun h1 => ?_⟩
  · simp only [decide_eq_true_eq] at h1
    have hi : i < N := by omega
    refine ⟨⟨by omega, h1, trivial⟩, ⟨by rw [cellsV_length]; omega, by omega, rfl, trivial⟩, .inl ⟨rfl, n - 1, _, _, by omega, ⟨i + 1, l.set i (blankC b), by omega, ?_, by simpa using hl, fun j hj => ?_, ?_⟩, .refl _⟩⟩
    · rw [wrap64 (by omega) (by omega)]; rfl
    · by_cases e : j = i
      · subst e; rw [List.getElem?_set_self (by omega)]
      · rw [List.getElem?_set_ne (by omega)]; exact hb j (by omega)
    · have := cellsV_set l i (blankC b) (by omega)
      rw [show Int.toNat (i : Int) = i by omega]
      rw [show (Cell.vs (blankC { kind := b.kind, n := b.n })) = (blankC b).vs from rfl, this]
  · have hi : i = N := by simp at h1; omega
    subst hi
    have e : l = List.replicate i (blankC b) := by
      apply List.ext_getElem?
      intro j
      by_cases hj : j < i
      · rw [hb j hj, List.getElem?_replicate, if_pos hj]
      · rw [List.getElem?_eq_none (by omega), List.getElem?_eq_none (by simp; omega)]
    subst e
    refine .inr ⟨(fun h => by cases h), rfl, .sub ⟨by kernel_rfl, trivial⟩⟩
def clampN (n : Int) : Nat := (max 0 (min n 1000)).toNat
theorem blanks_ok (n : Int) (b : Color) (h : AH) : CallOk Tryz.prog G 269 [vI n, b.v] h (immC (List.replicate (clampN n) (blankC b))) h := by
  obtain ⟨N, hN⟩ : ∃ N, N = clampN n := ⟨_, rfl⟩
  have hN1 : N ≤ 1000 := by rw [hN]; unfold clampN; omega
  have hN2 : (N : Int) = max 0 (min n 1000) := by rw [hN]; unfold clampN; omega
  rw [← hN]
  have hl := cellsV_length (List.replicate N (blankC b))
  refine pure_fn C1_ok (fn := Tryz.f269) (by kernel_rfl) (by kernel_rfl) (of_eq (blanks_vc n N b _) ⟨(), ?_, ⟨by omega, by omega, by omega, by omega, trivial⟩, List.replicate N (blankC b), ?_, ?_⟩) rfl rfl h
  · have e : (if (if 1000 < n then (1000 : Int) else n) > 0 then (if 1000 < n then (1000 : Int) else n) else 0) = N := by rw [hN2]; split <;> split at * <;> omega
    show some (AR.pur (vI (if (if 1000 < n then (1000 : Int) else n) > 0 then (if 1000 < n then (1000 : Int) else n) else 0))) = _
    rw [e]
  · have := blanks_loop N hN1 b
    rw [← zerosC] at this
    exact this
  · have := FinR.imm (K := 8) (b := 9) (n := 10) (m := N) (k := 8) (c := cellsV (List.replicate N (blankC b))) (e := 147) (fz := 0) (s := false) (l := [(8, some (.cells b.vs 37 0 false)), (9, some (.cells (cellsV (List.replicate N (blankC b))) 147 0 false))])
      (by omega) (by kernel_rfl) (cellsV_cl _) rfl rfl (by rw [hl]; simp) (by omega)
    show FinR 8 _ _ (immV _ (List.replicate N (blankC b)).length 8) _
    rw [List.length_replicate]; exact this
def blanksS : List Value → Option Value
  | [.int .i64 n, .agg ⟨[.int .i64 a, .int .i64 b]⟩] => some (immC (List.replicate (clampN n) (blankC ⟨a, b⟩)))
  | _ => none
noncomputable def C2 : Caller := withPure 269 blanksS C1
theorem C2_ok : CallerOk Tryz.prog G C2 := by
  refine withPure_ok C1_ok ?_ <;> intro args v hs h
  · unfold blanksS at hs; split at hs <;> cases hs; exact blanks_ok _ ⟨_, _⟩ h
/-! states -/
def ringV (l : Value) (room first n : Int) (gone : Int) : List Value := [l, .int .i64 room, .int .i64 first, .int .i64 n, .int .u64 gone]
theorem ringNew_no (r : Int) (hr : r < 0 ∨ r > 100000) (h : AH) : CallOk Tryz.prog G 110 [vI r] h (.tuple ⟨[.pointer none, vI 1]⟩) h := by
  refine pure_fn C1_ok (fn := Tryz.f110) (by kernel_rfl) (by kernel_rfl) (of_eq (ringNew_vc r _) ⟨fun _ => ?_, fun h1 => ⟨fun _ => ?_, fun h2 => ?_⟩⟩) rfl rfl h
  · exact FinR.drop' rfl (by kernel_rfl) rfl (by simp [mkH])
  · exact FinR.drop' rfl (by kernel_rfl) rfl (by simp [mkH])
  · simp at h1 h2; omega
theorem ringNew_c (r : Int) (h1 : 0 ≤ r) (h2 : r ≤ 100000) : CallsOk Tryz.prog G 110 [vI r] (bas 8) (.tuple ⟨[vP 8 0, vI 0]⟩) (mkH 9 [(8, some (.cells (ringV (.slice none 0 0) r 0 0 0) 144 0 false))]) := by
  refine (vcFn_sound full C1_ok (n := 5) (f := 110) (fn := Tryz.f110) (by kernel_rfl) (of_eq (ringNew_vc r (fun v h' => FinR 8 v h' _ _)) ⟨fun h3 => ?_, fun h3 => ⟨fun h4 => ?_, fun h4 => ?_⟩⟩)).ok fun v h' hq => hq
  · simp at h3; omega
  · simp at h4; omega
  · exact FinR.refl
theorem parseNew_no (r : Int) (hr : r < 1 ∨ r > 65536) (h : AH) : CallOk Tryz.prog G 40 [vI r] h (.tuple ⟨[.pointer none, vI 1]⟩) h := by
  refine pure_fn C1_ok (fn := Tryz.f40) (by kernel_rfl) (by kernel_rfl) (of_eq (parseNew_vc r _) ⟨fun _ => ?_, fun h1 => ⟨fun _ => ?_, fun h2 => ?_⟩⟩) rfl rfl h
  · exact FinR.drop' rfl (by kernel_rfl) rfl (by simp [mkH])
  · exact FinR.drop' rfl (by kernel_rfl) rfl (by simp [mkH])
  · simp at h1 h2; omega
def parserV (most : Int) : List Value := [vB 0, .slice none 0 0, .slice none 0 0, .slice none 0 0, vB 0, .bool false, .bool false, vI most, vI 0, vR 0, vI 0, vI 0, vB 0, vB 0]
theorem parseNew_c (r : Int) (h1 : 1 ≤ r) (h2 : r ≤ 65536) : CallsOk Tryz.prog G 40 [vI r] (bas 8) (.tuple ⟨[vP 8 0, vI 0]⟩) (mkH 9 [(8, some (.cells (parserV r) 136 0 false))]) := by
  refine (vcFn_sound full C1_ok (n := 5) (f := 40) (fn := Tryz.f40) (by kernel_rfl) (of_eq (parseNew_vc r (fun v h' => FinR 8 v h' _ _)) ⟨fun h3 => ?_, fun h3 => ⟨fun h4 => ?_, fun h4 => ?_⟩⟩)).ok fun v h' hq => hq
  · simp at h3; omega
  · simp at h4; omega
  · exact FinR.refl
end Go.Proofs.YtoaniefcobkaiaaGreatDoor
end
section
set_option maxRecDepth 100000
open Go Go.Ev Go.Proofs
namespace Go.Proofs.YtoaniefcobkaiaaGreatDoor
theorem pageBlank_vc (c : Int) (b : Color) (K : Value → AH → Prop) : vcFn Tryz.prog G E C2 5 Tryz.f194 [vP 8 0, Color.v b] (mkH 9 [(8, some (opq [UNK, UNK, vI c, UNK] 108))]) [] K = ((11 ≤ 11 ∧ 11 ≤ 11 ∧ 11 ≤ 11 ∧ 11 ≤ 11 ∧ 11 ≤ 11 ∧ 11 ≤ 11 ∧ 11 ≤ 11 ∧ 11 ≤ 11 ∧ aop E (Op.load 3 (oc (vP 8 2))) Tr.leaf (mkH 11 [(8, some (AObj.cells [Value.func (Fn.yield 2) { toList := [] } { toList := [] }, Value.func (Fn.yield 2) { toList := [] } { toList := [] }, vI c, Value.func (Fn.yield 2) { toList := [] } { toList := [] }] 108 5 false)), (9, some (AObj.cells (Color.vs b) 37 0 false)), (10, some (AObj.cells [Value.slice none 0 0, Value.bool false] 57 0 false))]) = some (AR.read (vI c)) ∧ vb 11 (vI c) = true ∧ List.all [vP 8 2] (vb 11) = true ∧ aop E (Op.load 37 (oc (vP 9 0))) Tr.leaf (mkH 11 [(8, some (AObj.cells [Value.func (Fn.yield 2) { toList := [] } { toList := [] }, Value.func (Fn.yield 2) { toList := [] } { toList := [] }, vI c, Value.func (Fn.yield 2) { toList := [] } { toList := [] }] 108 5 false)), (9, some (AObj.cells (Color.vs b) 37 0 false)), (10, some (AObj.cells [Value.slice none 0 0, Value.bool false] 57 0 false))]) = some (AR.read (Value.agg { toList := Color.vs b })) ∧ vb 11 (Value.agg { toList := Color.vs b }) = true ∧ List.all [vP 9 0] (vb 11) = true ∧ True) ∧ K (Value.agg { toList := [Value.func (Fn.yield 0) { toList := cellsV (List.replicate (clampN c) (blankC { kind := Color.kind b, n := Color.n b })) } { toList := [Value.slice none (List.length (List.replicate (clampN c) (blankC { kind := Color.kind b, n := Color.n b }))) 8] }, Value.bool false] }) (mkH 11 [(8, some (AObj.cells [Value.func (Fn.yield 2) { toList := [] } { toList := [] }, Value.func (Fn.yield 2) { toList := [] } { toList := [] }, vI c, Value.func (Fn.yield 2) { toList := [] } { toList := [] }] 108 5 false)), (9, some (AObj.cells (Color.vs b) 37 0 false)), (10, some (AObj.cells [Value.func (Fn.yield 0) { toList := cellsV (List.replicate (clampN c) (blankC { kind := Color.kind b, n := Color.n b })) } { toList := [Value.slice none (List.length (List.replicate (clampN c) (blankC { kind := Color.kind b, n := Color.n b }))) 8] }, Value.bool false] 57 0 false))])) := by kernel_rfl
end Go.Proofs.YtoaniefcobkaiaaGreatDoor
end
section
set_option maxRecDepth 100000
open Go Go.Ev Go.Proofs
namespace Go.Ev
def withCall (f : FuncId) (g : List Value → AH → Option (Value × AH)) (base : Caller) : Caller := fun f' args h =>
  match Nat.beq f' f with
  | true => g args h
  | false => base f' args h
theorem withCall_ok {P : Program} {G : Nat → Bool} {f : FuncId} {g : List Value → AH → Option (Value × AH)} {base : Caller} (hb : CallerOk P G base) (hs : ∀ args h v h', g args h = some (v, h') → CallOk P G f args h v h') : CallerOk P G (withCall f g base) := by
  intro f' args h v h' μ w args' hc hr hg ha o a next Q hn
  unfold withCall at hc
  split at hc
  · rename_i e
    obtain rfl := Nat.eq_of_beq_eq_true e
    exact hs args h v h' hc μ w args' hr hg ha o a next Q hn
  · exact hb f' args h v h' μ w args' hc hr hg ha o a next Q hn
theorem CallsOk.read1 {P : Program} {K pg : Nat} {f : FuncId} {args args2 : List Value} {v : Value} {c C : List Value} {e : TypeId} {fz : Nat} {s : Bool} {h : AH}
    (hc : CallsOk P (below K) f args (mkH (K + 1) [(K, some (opq c e))]) v (mkH (K + 1) [(K, some (opq c e))]))
    (h1 : K ≤ pg) (h2 : pg < h.next) (hg : h.get pg = some (.cells C e fz s)) (hop : opqP (fRho K [pg] h.next) (K + 1) c C) (hb : vbs (K + 1) c = true) (hq : vqs (fun b => Nat.ble K b) c = true)
    (ha : vbs (K + 1) args = true) (ha2 : rens (fRho K [pg] h.next) args = args2) (hv : clv v = true) : CallsOk P (below K) f args2 h v h := by
  have hopq : isOpq (some (opq c e)) = true := by
    show Nat.ble c.length c.length = true
    rw [Nat.ble_eq]; omega
  have hK0 : ∀ i o, (mkT [(K, some o)]).get i = if i = K then some o else none := fun i o => by
    simp only [mkT]; rw [Tr.get_put]; rfl
  have hget : ∀ i, (mkH (K + 1) [(K, some (opq c e))]).get i = if i = K then some (opq c e) else none := fun i => hK0 i _
  have hlow : lows K (mkH (K + 1) [(K, some (opq c e))]) = true := by
    unfold lows
    rw [List.all_eq_true]; intro x hx
    have hx : x < K := by simpa using hx
    rw [hget, if_neg (by omega)]; rfl
  have := CallsOk.at_ (em := [pg]) (h := h) hc rfl (Nat.le_refl _) hlow (fun b hb => by rw [hget, if_neg (by have : K + 1 ≤ b := hb; omega)]) (by simp [embOk, Nat.ble_eq, Nat.blt_eq, h1, h2]) ?_ ?_ ?_ hlow (fun b hb => by rw [hget, if_neg (by have : K + 1 ≤ b := hb; omega)]) (by omega) ha (clv_vq hv)
  · rw [clv_ren hv, ha2] at this
    have e1 : frH K [pg] h (mkH (K + 1) [(K, some (opq c e))]) (mkH (K + 1) [(K, some (opq c e))]) = h := by
      unfold frH
      have e2 : emK K [pg] (mkH (K + 1) [(K, some (opq c e))]) = [] := by
        unfold emK
        simp only [List.zipIdx_cons, List.zipIdx_nil, Nat.zero_add]
        have : isOpq ((mkH (K + 1) [(K, some (opq c e))]).get (K + 0)) = true := by rw [hget, if_pos (by omega)]; exact hopq
        simp only [List.filter_cons, this, Bool.not_true, List.filter_nil]; rfl
      have e3 : (mkH (K + 1) [(K, some (opq c e))]).next - (K + [pg].length) = 0 := by simp [mkH]
      rw [e2, e3]
      rfl
    rw [e1] at this
    exact this
  · show allP [match isOpq ((mkH (K + 1) [(K, some (opq c e))]).get (K + 0)) with | true => _ | false => _]
    have e0 : (mkH (K + 1) [(K, some (opq c e))]).get (K + 0) = some (opq c e) := by rw [hget, if_pos (by omega)]
    simp only [e0, hopq]
    exact ⟨⟨e, c, c.length + 1, C, fz, s, rfl, by omega, hg, hop⟩, trivial⟩
  · rw [List.all_eq_true]; intro i hi
    obtain rfl : i = 0 := by simpa using hi
    rw [hget, if_pos (by omega)]
    simp only [Option.isSome_some, Bool.true_and, obB, ob]
    exact hb
  · rw [List.all_eq_true]; intro i hi
    have hi : i = 0 := by
      have : i < K + 1 - K := by simpa [mkH] using hi
      omega
    subst hi
    rw [hget, if_pos (by omega)]
    simp only [oqB, oq]
    exact hq
end Go.Ev
namespace Go.Proofs.YtoaniefcobkaiaaGreatDoor
theorem blank_c (c : Int) (b : Color) : CallsOk Tryz.prog G 194 [vP 8 0, b.v] (mkH 9 [(8, some (opq [UNK, UNK, vI c, UNK] 108))]) (.agg ⟨[immC (List.replicate (clampN c) (blankC b)), .bool false]⟩) (mkH 9 [(8, some (opq [UNK, UNK, vI c, UNK] 108))]) := by
  refine (vcFn_sound full C2_ok (n := 5) (f := 194) (fn := Tryz.f194) (by kernel_rfl) (of_eq (pageBlank_vc c b (fun v h' => FinR 9 v h' _ _)) ⟨?_, ?_⟩)).ok fun v h' hq => hq
  · refine ⟨?_, ?_, ?_, ?_, ?_, ?_, ?_, ?_, by kernel_rfl, by kernel_rfl, by kernel_rfl, by kernel_rfl, by kernel_rfl, by kernel_rfl, trivial⟩ <;> exact Nat.le_refl _
  · exact FinR.keep (keep := []) (by kernel_rfl) rfl ⟨rfl, rfl, rfl, rfl, rfl, rfl, rfl, rfl, rfl, trivial⟩ ⟨trivial, trivial, trivial, trivial, trivial, trivial, trivial, trivial, rfl, trivial⟩ (fun c hc => mkH_top rfl hc) (by kernel_rfl) (by kernel_rfl) rfl
noncomputable def rowBlankS (args : List Value) (h : AH) : Option (Value × AH) :=
  match args with
  | [.pointer (some ⟨pg, 0, none⟩), .agg ⟨[.int .i64 a, .int .i64 b]⟩] => match Nat.ble 8 pg && Nat.blt pg h.next, h.get pg with
    | true, some (.cells [_, _, .int .i64 c, _] 108 _ _) => some (.agg ⟨[immC (List.replicate (clampN c) (blankC ⟨a, b⟩)), .bool false]⟩, h)
    | _, _ => none
  | _ => none
noncomputable def C3 : Caller := withCall 194 rowBlankS C2
theorem C3_ok : CallerOk Tryz.prog G C3 := by
  refine withCall_ok C2_ok ?_
  intro args h v h' hs
  unfold rowBlankS at hs
  split at hs
  · split at hs
    · cases hs
      rename_i pg a b _ _ x0 x1 c x2 fz s he hg
      simp only [Bool.and_eq_true, Nat.ble_eq, Nat.blt_eq] at he
      refine CallsOk.call' full (fn := Tryz.f194) (by kernel_rfl) (by kernel_rfl) (CallsOk.read1 (K := 8) (blank_c c ⟨a, b⟩) he.1 he.2 hg ⟨.inl rfl, .inl rfl, .inr ⟨rfl, rfl⟩, .inl rfl, trivial⟩ rfl rfl rfl ?_ rfl)
      simp [rens, ren, fRho, Color.vs, Nat.blt]
    · cases hs
  · cases hs
end Go.Proofs.YtoaniefcobkaiaaGreatDoor
end
section
set_option maxRecDepth 100000
open Go Go.Ev Go.Proofs
namespace Go.Proofs.YtoaniefcobkaiaaGreatDoor
theorem pageNew_vc (rows c lines : Int) (K : Value → AH → Prop) : vcFn Tryz.prog G E C3 5 Tryz.f66 [vI rows, vI c, vI lines] (bas 8) [.run 2, .call (Unit) (fun (_x : Unit) (h : AH) => (Value.tuple { toList := [Value.pointer (some { block := AH.next h, off := 0 }), vI 0] }, frH 8 [] h (bas 8) (mkH 9 [(8, some (AObj.cells (ringV (Value.slice none 0 0) lines 0 0 0) 144 0 false))]))), .run 6, .bool [.run 11, .inl, .run 5, .bool [.run 12, .code (List Row) [0, 1] (fun (l : List Row) (_x : AH) => (Ex.exit 0, [], mkH 11 [(8, some (AObj.cells (ringV (Value.slice none 0 0) lines 0 0 0) 144 0 false)), (9, some (AObj.cells [vP 8 0, vS 10 (Int.toNat rows) 2, vI c, Value.slice none 0 0] 108 0 false)), (10, some (AObj.cells (rowsV l) 57 0 false))]))] []] []] K = (∃ (_x : Unit), CallOk Tryz.prog G 110 [vI lines] (bas 8) (Value.tuple { toList := [vP 8 0, vI 0] }) (mkH 9 [(8, some (AObj.cells [Value.slice none 0 0, vI lines, vI 0, vI 0, Value.int IntKind.u64 0] 144 0 false))]) ∧ (fits rows c = true → (decide (0 < rows) = true → (10 ≤ 10 ∧ 10 ≤ 10 ∧ 10 ≤ 10 ∧ 10 ≤ 10 ∧ 10 ≤ 10 ∧ 10 ≤ 10 ∧ 10 ≤ 10 ∧ 10 ≤ 10 ∧ 10 ≤ 11 ∧ 11 ≤ 12 ∧ 12 ≤ 12 ∧ 12 ≤ 12 ∧ 12 ≤ 12 ∧ aop E (Op.load 61 (oc (vP 9 1))) Tr.leaf (mkH 10 [(8, some (AObj.cells [Value.slice none 0 0, vI lines, vI 0, vI 0, Value.int IntKind.u64 0] 144 0 false)), (9, some (AObj.cells [vP 8 0, Value.slice none 0 0, vI c, Value.slice none 0 0] 108 0 false))]) = some (AR.read (Value.slice none 0 0)) ∧ vb 10 (Value.slice none 0 0) = true ∧ List.all [vP 9 1] (vb 10) = true ∧ aop E (Op.load 61 (oc (vP 9 1))) Tr.leaf (mkH 11 [(8, some (AObj.cells [Value.slice none 0 0, vI lines, vI 0, vI 0, Value.int IntKind.u64 0] 144 0 false)), (9, some (AObj.cells [vP 8 0, Value.slice none 0 0, vI c, Value.slice none 0 0] 108 0 false)), (10, some (AObj.cells [Value.func (Fn.yield 0) { toList := cellsV (List.replicate (clampN c) (blankC { kind := 0, n := 0 })) } { toList := [Value.slice none (List.length (List.replicate (clampN c) (blankC { kind := 0, n := 0 }))) 8] }, Value.bool false] 57 0 false))]) = some (AR.read (Value.slice none 0 0)) ∧ vb 10 (Value.slice none 0 0) = true ∧ List.all [vP 9 1] (vb 11) = true ∧ AH.get (mkH 11 [(8, some (AObj.cells [Value.slice none 0 0, vI lines, vI 0, vI 0, Value.int IntKind.u64 0] 144 0 false)), (9, some (AObj.cells [vP 8 0, Value.slice none 0 0, vI c, Value.slice none 0 0] 108 0 false)), (10, some (AObj.cells [Value.func (Fn.yield 0) { toList := cellsV (List.replicate (clampN c) (blankC { kind := 0, n := 0 })) } { toList := [Value.slice none (List.length (List.replicate (clampN c) (blankC { kind := 0, n := 0 }))) 8] }, Value.bool false] 57 0 false))]) 10 = some (AObj.cells [Value.func (Fn.yield 0) { toList := cellsV (List.replicate (clampN c) (blankC { kind := 0, n := 0 })) } { toList := [Value.slice none (List.length (List.replicate (clampN c) (blankC { kind := 0, n := 0 }))) 8] }, Value.bool false] 57 0 false) ∧ True) ∧ ∃ (x : List Row), LoopT Tryz.prog G 10 23 (loopB Tryz.f112 0) [(0, vP 9 0), (1, vI rows)] (mkH 12 [(8, some (AObj.cells [Value.slice none 0 0, vI lines, vI 0, vI 0, Value.int IntKind.u64 0] 144 0 false)), (9, some (AObj.cells [vP 8 0, vS 11 1 2, vI c, Value.slice none 0 0] 108 0 false)), (10, some (AObj.cells [Value.func (Fn.yield 0) { toList := cellsV (List.replicate (clampN c) (blankC { kind := 0, n := 0 })) } { toList := [Value.slice none (List.length (List.replicate (clampN c) (blankC { kind := 0, n := 0 }))) 8] }, Value.bool false] 57 0 false)), (11, some (AObj.cells [Value.func (Fn.yield 0) { toList := cellsV (List.replicate (clampN c) (blankC { kind := 0, n := 0 })) } { toList := [Value.slice none (List.length (List.replicate (clampN c) (blankC { kind := 0, n := 0 }))) 8] }, Value.bool false] 57 0 false))]) (Ex.exit 0, [], mkH 11 [(8, some (AObj.cells (ringV (Value.slice none 0 0) lines 0 0 0) 144 0 false)), (9, some (AObj.cells [vP 8 0, vS 10 (Int.toNat rows) 2, vI c, Value.slice none 0 0] 108 0 false)), (10, some (AObj.cells (rowsV x) 57 0 false))]) ∧ K (Value.tuple { toList := [vP 9 0, vI 0] }) (mkH 11 [(8, some (AObj.cells [Value.slice none 0 0, vI lines, vI 0, vI 0, Value.int IntKind.u64 0] 144 0 false)), (9, some (AObj.cells [vP 8 0, vS 10 (Int.toNat rows) 2, vI c, Value.slice none 0 0] 108 0 false)), (10, some (AObj.cells (rowsV x) 57 0 false))])) ∧ (decide (0 < rows) = false → K (Value.tuple { toList := [vP 9 0, vI 0] }) (mkH 10 [(8, some (AObj.cells [Value.slice none 0 0, vI lines, vI 0, vI 0, Value.int IntKind.u64 0] 144 0 false)), (9, some (AObj.cells [vP 8 0, Value.slice none 0 0, vI c, Value.slice none 0 0] 108 0 false))]))) ∧ (fits rows c = false → K (Value.tuple { toList := [Value.pointer none, vI 1] }) (mkH 9 [(8, some (AObj.cells [Value.slice none 0 0, vI lines, vI 0, vI 0, Value.int IntKind.u64 0] 144 0 false))]))) := by kernel_rfl

theorem pageNew_no_vc (rows c lines : Int) (K : Value → AH → Prop) : vcFn Tryz.prog G E C3 5 Tryz.f66 [vI rows, vI c, vI lines] (bas 8) [.run 2, .call (Unit) (fun (_x : Unit) (h : AH) => (Value.tuple { toList := [Value.pointer none, vI 1] }, h)), .run 6, .bool [] []] K = (∃ (_x : Unit), CallOk Tryz.prog G 110 [vI lines] (bas 8) (Value.tuple { toList := [Value.pointer none, vI 1] }) (mkH 8 []) ∧ (fits rows c = true → K (Value.tuple { toList := [Value.pointer none, vI 1] }) (mkH 8 [])) ∧ (fits rows c = false → K (Value.tuple { toList := [Value.pointer none, vI 1] }) (mkH 8 []))) := by kernel_rfl

theorem fill_body (rows c : Int) (ring : AObj) (i : Nat) (l : List Row) (K : Ex → List Value → AH → Prop) : vcCode Tryz.prog G E C3 (vcInl Tryz.prog G E C3 5) 10 23 100 (loopB Tryz.f112 0) ⟨frL [(0, vP 9 0), (1, vI rows)], mkH 11 [(8, some ring), (9, some (AObj.cells [vP 8 0, vS 10 i 2, vI c, Value.slice none 0 0] 108 0 false)), (10, some (AObj.cells (rowsV l) 57 0 false))]⟩ [.run 5, .bool [.run 8, .cond] []] (fun ex s _ => K ex ([0, 1].map (getT s.tm)) s.h) = ((decide ((↑i : Int) < rows) = true → (1 ≤ 1 ∧ (i + 1) * 32 ≤ 140737488355328 ∧ 2 = 2 ∧ 0 + i * 2 ≤ List.length (rowsV l) ∧ 0 ≤ 0 + i * 2 ∧ List.all (List.take 2 (List.drop 0 [Value.func (Fn.yield 0) { toList := cellsV (List.replicate (clampN c) (blankC { kind := 0, n := 0 })) } { toList := [Value.slice none (List.length (List.replicate (clampN c) (blankC { kind := 0, n := 0 }))) 8] }, Value.bool false])) leaf = true ∧ 2 ≤ 2 ∧ True) ∧ (11 ≤ 11 ∧ 11 ≤ 11 ∧ 11 ≤ 11 ∧ 11 ≤ 11 ∧ 11 ≤ 11 ∧ 11 ≤ 11 ∧ 11 ≤ 11 ∧ 11 ≤ 11 ∧ 11 ≤ 12 ∧ 12 ≤ 13 ∧ 13 ≤ 13 ∧ 13 ≤ 13 ∧ 13 ≤ 13 ∧ aop E (Op.load 61 (oc (vP 9 1))) Tr.leaf (mkH 11 [(8, some ring), (9, some (AObj.cells [vP 8 0, vS 10 i 2, vI c, Value.slice none 0 0] 108 0 false)), (10, some (AObj.cells (rowsV l) 57 0 false))]) = some (AR.read (vS 10 i 2)) ∧ vb 11 (vS 10 i 2) = true ∧ List.all [vP 9 1] (vb 11) = true ∧ aop E (Op.load 61 (oc (vP 9 1))) Tr.leaf (mkH 12 [(8, some ring), (9, some (AObj.cells [vP 8 0, vS 10 i 2, vI c, Value.slice none 0 0] 108 0 false)), (10, some (AObj.cells (rowsV l) 57 0 false)), (11, some (AObj.cells [Value.func (Fn.yield 0) { toList := cellsV (List.replicate (clampN c) (blankC { kind := 0, n := 0 })) } { toList := [Value.slice none (List.length (List.replicate (clampN c) (blankC { kind := 0, n := 0 }))) 8] }, Value.bool false] 57 0 false))]) = some (AR.read (vS 10 i 2)) ∧ vb 11 (vS 10 i 2) = true ∧ List.all [vP 9 1] (vb 12) = true ∧ AH.get (mkH 12 [(8, some ring), (9, some (AObj.cells [vP 8 0, vS 10 i 2, vI c, Value.slice none 0 0] 108 0 false)), (10, some (AObj.cells (rowsV l) 57 0 false)), (11, some (AObj.cells [Value.func (Fn.yield 0) { toList := cellsV (List.replicate (clampN c) (blankC { kind := 0, n := 0 })) } { toList := [Value.slice none (List.length (List.replicate (clampN c) (blankC { kind := 0, n := 0 }))) 8] }, Value.bool false] 57 0 false))]) 11 = some (AObj.cells [Value.func (Fn.yield 0) { toList := cellsV (List.replicate (clampN c) (blankC { kind := 0, n := 0 })) } { toList := [Value.slice none (List.length (List.replicate (clampN c) (blankC { kind := 0, n := 0 }))) 8] }, Value.bool false] 57 0 false) ∧ True) ∧ K Ex.normal [vP 9 0, vI rows] (mkH 13 [(8, some ring), (9, some (AObj.cells [vP 8 0, vS 12 (i + 1) 2, vI c, Value.slice none 0 0] 108 0 false)), (10, none), (11, some (AObj.cells [Value.func (Fn.yield 0) { toList := cellsV (List.replicate (clampN c) (blankC { kind := 0, n := 0 })) } { toList := [Value.slice none (List.length (List.replicate (clampN c) (blankC { kind := 0, n := 0 }))) 8] }, Value.bool false] 57 0 false)), (12, some (AObj.cells (List.take (i * 2) (List.drop 0 (rowsV l)) ++ List.take 2 (List.drop 0 [Value.func (Fn.yield 0) { toList := cellsV (List.replicate (clampN c) (blankC { kind := 0, n := 0 })) } { toList := [Value.slice none (List.length (List.replicate (clampN c) (blankC { kind := 0, n := 0 }))) 8] }, Value.bool false])) 57 0 false))])) ∧ (decide ((↑i : Int) < rows) = false → K (Ex.exit 0) [vP 9 0, vI rows] (mkH 11 [(8, some ring), (9, some (AObj.cells [vP 8 0, vS 10 i 2, vI c, Value.slice none 0 0] 108 0 false)), (10, some (AObj.cells (rowsV l) 57 0 false))]))) := by kernel_rfl
end Go.Proofs.YtoaniefcobkaiaaGreatDoor
end
section
set_option maxRecDepth 100000
open Go Go.Ev Go.Proofs
namespace Go.Proofs.YtoaniefcobkaiaaGreatDoor
def blankRow (c : Int) : Row := ⟨List.replicate (clampN c) (blankC .zero), false⟩
theorem rowsV_cons (r : Row) (l : List Row) : rowsV (r :: l) = r.vs ++ rowsV l := rfl
theorem rowsV_append (l m : List Row) : rowsV (l ++ m) = rowsV l ++ rowsV m := by simp [rowsV]
theorem rowsV_cl : ∀ l : List Row, (rowsV l).all cl = true
  | [] => rfl
  | c :: l => by rw [rowsV_cons, List.all_append, rowsV_cl l]; rfl
def pageV (hist : Value) (scr : Value) (c : Int) (shifts : Value) : List Value := [hist, scr, .int .i64 c, shifts]
def ringO (r : Int) : AObj := .cells (ringV (.slice none 0 0) r 0 0 0) 144 0 false
noncomputable def pageH (ring : Int) (c : Int) (l : List Row) : AH := mkH 11 [(8, some (ringO ring)), (9, some (.cells (pageV (vP 8 0) (vS 10 l.length 2) c (.slice none 0 0)) 108 0 false)), (10, some (.cells (rowsV l) 57 0 false))]
theorem fill_loop (R : Nat) (hR : R ≤ 1000) (c : Int) (ring : Int) (h1 : 1 ≤ R) : LoopT Tryz.prog G 10 23 (loopB Tryz.f112 0) [(0, vP 9 0), (1, vI R)] (pageH ring c [blankRow c])
    (.exit 0, [], pageH ring c (List.replicate R (blankRow c))) := by
  refine loopT_K full C3_ok (depth := 5) (live := [0, 1]) (by kernel_rfl)
    (fun n vals h => ∃ i, i + n = R ∧ vals = [vP 9 0, vI R] ∧ h = pageH ring c (List.replicate i (blankRow c))) ?_
    (n := R - 1) (vals := [vP 9 0, vI R]) ⟨1, by omega, rfl, rfl⟩
  rintro n vals h ⟨i, hin, rfl, rfl⟩
  have hl := rowsV_length (List.replicate i (blankRow c))
  rw [List.length_replicate] at hl
  have e0 : pageH ring c (List.replicate i (blankRow c)) = mkH 11 [(8, some (ringO ring)), (9, some (.cells [vP 8 0, vS 10 i 2, vI c, .slice none 0 0] 108 0 false)), (10, some (.cells (rowsV (List.replicate i (blankRow c))) 57 0 false))] := by
    unfold pageH; rw [List.length_replicate]; rfl
  rw [e0]
  refine ⟨_, of_eq (fill_body R c (ringO ring) i (List.replicate i (blankRow c)) (LK G 10 23 [0, 1] _ _ n)) ?_⟩
  refine ⟨fun h1 => ⟨⟨Nat.le_refl _, by simp at h1; omega, rfl, by omega, by omega, by kernel_rfl, Nat.le_refl _, trivial⟩, ?_, ?_⟩, fun h1 => ?_⟩
  · refine ⟨?_, ?_, ?_, ?_, ?_, ?_, ?_, ?_, ?_, ?_, ?_, ?_, ?_, by kernel_rfl, by kernel_rfl, by kernel_rfl, by kernel_rfl, by kernel_rfl, by kernel_rfl, by kernel_rfl, trivial⟩ <;> omega
  · simp only [decide_eq_true_eq] at h1
    refine .inl ⟨rfl, n - 1, [vP 9 0, vI R], pageH ring c (List.replicate (i + 1) (blankRow c)), by omega, ⟨i + 1, by omega, rfl, rfl⟩, ?_⟩
    have e1 : List.take (i * 2) (List.drop 0 (rowsV (List.replicate i (blankRow c)))) ++ List.take 2 (List.drop 0 [immC (List.replicate (clampN c) (blankC ⟨0, 0⟩)), .bool false]) = rowsV (List.replicate (i + 1) (blankRow c)) := by
      rw [List.drop_zero, List.take_of_length_le (by omega), List.replicate_succ', rowsV_append]; rfl
    rw [e1]
    unfold pageH
    rw [List.length_replicate]
    refine Weak.keep (keep := [12]) (fun g hg => by have := (below_iff (K := 8) g).1 hg; omega) (by kernel_rfl) rfl ⟨rfl, rfl, rfl, rfl, rfl, rfl, rfl, rfl, ?_, ?_, ?_, trivial⟩ ⟨trivial, trivial, trivial, trivial, trivial, trivial, trivial, trivial, ?_, ?_, ?_, trivial⟩ (fun c hc => mkH_top rfl hc) (by kernel_rfl) (by kernel_rfl) rfl
    · rfl
    · show some (AObj.cells (pageV (vP 8 0) (vS 10 (List.replicate (i + 1) (blankRow c)).length 2) c (.slice none 0 0)) 108 0 false) = _; rw [List.length_replicate]; rfl
    · show some _ = some (renO _ _); rw [renO_cl (rowsV_cl _)]
    · rfl
    · rfl
    · show vqs _ _ = true; exact cls_vq (rowsV_cl _)
  · have hi : i = R := by simp at h1; omega
    subst hi
    refine .inr ⟨(fun h => by cases h), rfl, ?_⟩
    rw [e0]
    exact .sub trivial
def pageFits (rows c lines : Int) : Bool := fits rows c && decide (0 ≤ lines) && decide (lines ≤ 100000)
theorem fits_le {rows c : Int} (h : fits rows c = true) : 1 ≤ rows ∧ rows ≤ 1000 ∧ 2 ≤ c ∧ c ≤ 1000 := by
  simp [fits] at h; omega
theorem pageNew_no (rows c lines : Int) (hf : pageFits rows c lines = false) (h : AH) : CallOk Tryz.prog G 66 [vI rows, vI c, vI lines] h (.tuple ⟨[.pointer none, vI 1]⟩) h := by
  by_cases hl : 0 ≤ lines ∧ lines ≤ 100000
  · have hf : fits rows c = false := by simpa [pageFits, hl.1, hl.2] using hf
    refine pure_fn C3_ok (fn := Tryz.f66) (by kernel_rfl) (by kernel_rfl) (of_eq (pageNew_vc rows c lines _) ⟨(), (ringNew_c lines hl.1 hl.2).call' full (fn := Tryz.f110) (by kernel_rfl) (by kernel_rfl), fun h1 => ?_, fun _ => ?_⟩) rfl rfl h
    · rw [hf] at h1; cases h1
    · exact FinR.drop' rfl (by kernel_rfl) rfl (by simp [mkH])
  · refine pure_fn C3_ok (fn := Tryz.f66) (by kernel_rfl) (by kernel_rfl) (of_eq (pageNew_no_vc rows c lines _) ?_) rfl rfl h
    have := ringNew_no lines (by omega) (bas 8)
    refine ⟨(), this, fun _ => ?_, fun _ => ?_⟩ <;> exact FinR.drop' rfl (by kernel_rfl) rfl (by simp [mkH])
theorem pageNew_c (rows c lines : Int) (hf : pageFits rows c lines = true) : CallsOk Tryz.prog G 66 [vI rows, vI c, vI lines] (bas 8) (.tuple ⟨[vP 9 0, vI 0]⟩) (pageH lines c (List.replicate rows.toNat (blankRow c))) := by
  simp only [pageFits, Bool.and_eq_true, decide_eq_true_eq] at hf
  obtain ⟨⟨hf, hl1⟩, hl2⟩ := hf
  obtain ⟨h1, h2, h3, h4⟩ := fits_le hf
  obtain ⟨R, rfl⟩ : ∃ R : Nat, rows = R := ⟨rows.toNat, by omega⟩
  refine (vcFn_sound full C3_ok (n := 5) (f := 66) (fn := Tryz.f66) (by kernel_rfl) (of_eq (pageNew_vc R c lines (fun v h' => FinR 8 v h' _ _)) ⟨(), (ringNew_c lines hl1 hl2).call' full (fn := Tryz.f110) (by kernel_rfl) (by kernel_rfl), fun _ => ⟨fun h5 => ⟨?_, List.replicate R (blankRow c), ?_, ?_⟩, fun h5 => ?_⟩, fun h5 => ?_⟩)).ok fun v h' hq => hq
  · refine ⟨?_, ?_, ?_, ?_, ?_, ?_, ?_, ?_, ?_, ?_, ?_, ?_, ?_, by kernel_rfl, by kernel_rfl, by kernel_rfl, by kernel_rfl, by kernel_rfl, by kernel_rfl, by kernel_rfl, trivial⟩ <;> omega
  · have := fill_loop R (by omega) c lines (by omega)
    have e1 : pageH lines c (List.replicate R (blankRow c)) = mkH 11 [(8, some (ringO lines)), (9, some (AObj.cells [vP 8 0, vS 10 R 2, vI c, Value.slice none 0 0] 108 0 false)), (10, some (AObj.cells (rowsV (List.replicate R (blankRow c))) 57 0 false))] := by
      unfold pageH; rw [List.length_replicate]; rfl
    rw [e1] at this
    rw [show Int.toNat (R : Int) = R by omega]
    refine .pre ?_ this
    refine Weak.keep (keep := [11]) (fun g hg => by have := (below_iff (K := 8) g).1 hg; omega) (by kernel_rfl) rfl ⟨rfl, rfl, rfl, rfl, rfl, rfl, rfl, rfl, rfl, rfl, ?_, trivial⟩ ⟨trivial, trivial, trivial, trivial, trivial, trivial, trivial, trivial, rfl, rfl, ?_, trivial⟩ (fun c hc => mkH_top rfl hc) (by kernel_rfl) (by kernel_rfl) rfl
    · exact (congrArg some (renO_cl (rowsV_cl [blankRow c]))).symm
    · exact cls_vq (rowsV_cl [blankRow c])
  · have e1 : pageH lines c (List.replicate (Int.toNat (R : Int)) (blankRow c)) = mkH 11 [(8, some (ringO lines)), (9, some (AObj.cells [vP 8 0, vS 10 (Int.toNat (R : Int)) 2, vI c, Value.slice none 0 0] 108 0 false)), (10, some (AObj.cells (rowsV (List.replicate (Int.toNat (R : Int)) (blankRow c))) 57 0 false))] := by
      unfold pageH; rw [List.length_replicate]; rfl
    rw [e1, show Int.toNat (R : Int) = R by omega]
    exact .refl
  · simp only [decide_eq_false_iff_not] at h5; omega
  · rw [hf] at h5; cases h5
end Go.Proofs.YtoaniefcobkaiaaGreatDoor
end
section
set_option maxRecDepth 100000
open Go Go.Ev Go.Proofs
namespace Go.Proofs.YtoaniefcobkaiaaGreatDoor
theorem tabsCols_vc (c : Int) (K : Value → AH → Prop) : vcFn Tryz.prog G E C3 5 Tryz.f278 [vP 8 0] (mkH 9 [(8, some (opq [UNK, vI c] 197))]) [] K = (K (vI c) (mkH 9 [(8, some (opq [UNK, vI c] 197))])) := by kernel_rfl
end Go.Proofs.YtoaniefcobkaiaaGreatDoor
end
section
set_option maxRecDepth 100000
open Go Go.Ev Go.Proofs
namespace Go.Ev
/-- a function that reads one block alone -/
theorem vc_read1 {P : Program} {E : Env} {K : Nat} (hE : EnvFull P (below K) E) {call : Caller} (hc : CallerOk P (below K) call) {f : FuncId} {fn : Func} (hf : E.fn f = some fn) (hb : fn.body.isSome = true) {pg : Nat} {args args2 : List Value} {v : Value} {c C : List Value} {e : TypeId} {fz : Nat} {s : Bool} {h : AH} {d : List Dec}
    (hv : vcFn P (below K) E call 5 fn args (mkH (K + 1) [(K, some (opq c e))]) d fun v' h' => FinR (K + 1) v' h' v (mkH (K + 1) [(K, some (opq c e))]))
    (h1 : (Nat.ble K pg && Nat.blt pg h.next) = true) (hg : h.get pg = some (.cells C e fz s)) (hop : opqP (fRho K [pg] h.next) (K + 1) c C) (hb2 : vbs (K + 1) c = true) (hq : vqs (fun b => Nat.ble K b) c = true)
    (ha : vbs (K + 1) args = true) (ha2 : rens (fRho K [pg] h.next) args = args2) (hcv : clv v = true) : CallOk P (below K) f args2 h v h := by
  have h3 : CallsOk P (below K) f args (mkH (K + 1) [(K, some (opq c e))]) v (mkH (K + 1) [(K, some (opq c e))]) := (vcFn_sound hE hc hf hv).ok fun v' h' hq => hq
  simp only [Bool.and_eq_true, Nat.ble_eq, Nat.blt_eq] at h1
  exact CallsOk.call' hE hf hb (CallsOk.read1 h3 h1.1 h1.2 hg hop hb2 hq ha ha2 hcv)
end Go.Ev
namespace Go.Proofs.YtoaniefcobkaiaaGreatDoor
noncomputable def tabsColsS (args : List Value) (h : AH) : Option (Value × AH) :=
  match args with
  | [.pointer (some ⟨b, 0, none⟩)] => match Nat.ble 8 b && Nat.blt b h.next, h.get b with
    | true, some (.cells [_, .int .i64 c] 197 _ _) => some (vI c, h)
    | _, _ => none
  | _ => none
noncomputable def C5 : Caller := withCall 278 tabsColsS C3
theorem C5_ok : CallerOk Tryz.prog G C5 := by
  refine withCall_ok C3_ok ?_
  intro args h v h' hs
  unfold tabsColsS at hs
  split at hs
  · split at hs
    · cases hs
      rename_i b _ _ x c fz s he hg
      refine vc_read1 full C3_ok (f := 278) (fn := Tryz.f278) (K := 8) (pg := b) (by kernel_rfl) (by kernel_rfl) (of_eq (tabsCols_vc c _) .refl) he hg ⟨.inl rfl, .inr ⟨rfl, rfl⟩, trivial⟩ rfl rfl rfl ?_ rfl
      simp [rens, ren, fRho, Nat.blt]
    · cases hs
  · cases hs
end Go.Proofs.YtoaniefcobkaiaaGreatDoor
end
section
set_option maxRecDepth 100000
open Go Go.Ev Go.Proofs
namespace Go.Proofs.YtoaniefcobkaiaaGreatDoor
theorem tabsIn_vc (c x : Int) (K : Value → AH → Prop) : vcFn Tryz.prog G E C5 5 Tryz.f205 [vP 8 0, vI x] (mkH 9 [(8, some (opq [UNK, vI c] 197))]) [.run 1, .bool [.run 3, .bool [] []] []] K = ((decide (x ≥ 0) = true → (decide (x < c) = true → K (Value.bool true) (mkH 9 [(8, some (AObj.cells [Value.func (Fn.yield 2) { toList := [] } { toList := [] }, vI c] 197 3 false))])) ∧ (decide (x < c) = false → K (Value.bool false) (mkH 9 [(8, some (AObj.cells [Value.func (Fn.yield 2) { toList := [] } { toList := [] }, vI c] 197 3 false))]))) ∧ (decide (x ≥ 0) = false → K (Value.bool false) (mkH 9 [(8, some (opq [UNK, vI c] 197))]))) := by kernel_rfl
end Go.Proofs.YtoaniefcobkaiaaGreatDoor
end
section
set_option maxRecDepth 100000
open Go Go.Ev Go.Proofs
namespace Go.Proofs.YtoaniefcobkaiaaGreatDoor
def inCols (x c : Int) : Bool := decide (x ≥ 0) && decide (x < c)
noncomputable def tabsInS (args : List Value) (h : AH) : Option (Value × AH) :=
  match args with
  | [.pointer (some ⟨b, 0, none⟩), .int .i64 x] => match Nat.ble 8 b && Nat.blt b h.next, h.get b with
    | true, some (.cells [_, .int .i64 c] 197 _ _) => some (.bool (inCols x c), h)
    | _, _ => none
  | _ => none
noncomputable def C6 : Caller := withCall 205 tabsInS C5
theorem C6_ok : CallerOk Tryz.prog G C6 := by
  refine withCall_ok C5_ok ?_
  intro args h v h' hs
  unfold tabsInS at hs
  split at hs
  · split at hs
    · cases hs
      rename_i b x _ _ y c fz s he hg
      refine vc_read1 full C5_ok (f := 205) (fn := Tryz.f205) (K := 8) (pg := b) (args := [vP 8 0, vI x]) (by kernel_rfl) (by kernel_rfl) (of_eq (tabsIn_vc c x _) ⟨fun h1 => ⟨fun h2 => ?_, fun h2 => ?_⟩, fun h1 => ?_⟩) he hg ⟨.inl rfl, .inr ⟨rfl, rfl⟩, trivial⟩ rfl rfl rfl ?_ rfl
      iterate 3 exact FinR.low (by simp [inCols, *]) rfl ⟨rfl, rfl, rfl, rfl, rfl, rfl, rfl, rfl, rfl, trivial⟩ (by kernel_rfl) (fun b hb => mkH_top rfl hb) rfl
      simp [rens, ren, fRho, Nat.blt]
    · cases hs
  · cases hs
end Go.Proofs.YtoaniefcobkaiaaGreatDoor
end
section
set_option maxRecDepth 100000
open Go Go.Ev Go.Proofs
namespace Go.Proofs.YtoaniefcobkaiaaGreatDoor
theorem tabsNew_vc (c : Int) (n : Nat) (z l : List Value) (K : Value → AH → Prop) : vcFn Tryz.prog G E C6 5 Tryz.f67 [vI c] (bas 8) [.run 2, .bool [.run 5, .inl, .run 4, .bool [.run 10, .ask (Unit) (fun (_x : Unit) (_x_1 : AH) => AR.pur (Value.bool false)), .run 6, .ask (Unit) (fun (_x : Unit) (_x_1 : AH) => AR.pur (Value.bool true)), .run 9, .code (Unit) [0, 1, 5] (fun (_x : Unit) (_x_1 : AH) => (Ex.exit 2, [(0, vP 8 0), (1, vI c), (5, vI 0)], mkH 10 [(8, some (AObj.cells [vS 9 n 1, vI 0] 197 0 false)), (9, some (AObj.cells z 142 0 false))])), .run 6, .code (Unit) [0, 1, 7] (fun (_x : Unit) (_x_1 : AH) => (Ex.exit 4, [], mkH 10 [(8, some (AObj.cells [vS 9 n 1, vI c] 197 0 false)), (9, some (AObj.cells l 142 0 false))]))] []] []] K = ((tfits c = true → (tfits c = true → ∃ (_x : Unit), aop E (Op.binOp BinOp.lss 3 (oc (vI c)) (oc (vI 0)) 3) Tr.leaf (mkH 9 [(8, some (AObj.cells [Value.slice none 0 0, vI 0] 197 0 false))]) = some (AR.pur (Value.bool false)) ∧ ∃ (_x : Unit), aop E (Op.binOp BinOp.lss 3 (oc (vI 0)) (oc (vI c)) 3) Tr.leaf (mkH 9 [(8, some (AObj.cells [Value.slice none 0 0, vI 0] 197 0 false))]) = some (AR.pur (Value.bool true)) ∧ ∃ (_x : Unit), LoopT Tryz.prog G 9 61 (loopB Tryz.f70 1) [(0, vP 8 0), (1, vI c), (5, vI 0)] (mkH 11 [(8, some (AObj.cells [vS 10 1 1, vI 0] 197 0 false)), (9, some (AObj.cells [Value.int IntKind.u64 0] 142 0 false)), (10, some (AObj.cells [Value.int IntKind.u64 0] 142 0 false))]) (Ex.exit 2, [(0, vP 8 0), (1, vI c), (5, vI 0)], mkH 10 [(8, some (AObj.cells [vS 9 n 1, vI 0] 197 0 false)), (9, some (AObj.cells z 142 0 false))]) ∧ ∃ (_x : Unit), LoopT Tryz.prog G 9 61 (loopB Tryz.f70 2) [(0, vP 8 0), (1, vI c), (7, vI 0)] (mkH 10 [(8, some (AObj.cells [vS 9 n 1, vI c] 197 0 false)), (9, some (AObj.cells z 142 0 false))]) (Ex.exit 4, [], mkH 10 [(8, some (AObj.cells [vS 9 n 1, vI c] 197 0 false)), (9, some (AObj.cells l 142 0 false))]) ∧ K (Value.tuple { toList := [vP 8 0, vI 0] }) (mkH 10 [(8, some (AObj.cells [vS 9 n 1, vI c] 197 0 false)), (9, some (AObj.cells l 142 0 false))])) ∧ (tfits c = false → K (Value.tuple { toList := [vP 8 0, vI 0] }) (mkH 9 [(8, some (AObj.cells [Value.slice none 0 0, vI 0] 197 0 false))]))) ∧ (tfits c = false → K (Value.tuple { toList := [Value.pointer none, vI 1] }) (mkH 8 []))) := by kernel_rfl

theorem tabsGrow_body (c : Int) (n : Nat) (l : List Value) (K : Ex → List Value → AH → Prop) : vcCode Tryz.prog G E C6 (vcInl Tryz.prog G E C6 5) 9 61 100 (loopB Tryz.f70 1) ⟨frL [(0, vP 8 0), (1, vI c), (5, vI 0)], mkH 10 [(8, some (AObj.cells [vS 9 n 1, vI 0] 197 0 false)), (9, some (AObj.cells l 142 0 false))]⟩ [.run 6, .bool [.run 5, .cond] []] (fun ex s _ => K ex ([0, 1, 5].map (getT s.tm)) s.h) = ((decide (IntKind.wrap IntKind.i64 ((↑n : Int) * 64) < c) = true → (1 ≤ 1 ∧ (n + 1) * 8 ≤ 140737488355328 ∧ 1 = 1 ∧ 0 + n * 1 ≤ List.length l ∧ 0 ≤ 0 + n * 1 ∧ List.all (List.take 1 (List.drop 0 [Value.int IntKind.u64 0])) leaf = true ∧ 1 ≤ 1 ∧ True) ∧ K Ex.normal [vP 8 0, vI c, vI 0] (mkH 12 [(8, some (AObj.cells [vS 11 (n + 1) 1, vI 0] 197 0 false)), (9, none), (10, some (AObj.cells [Value.int IntKind.u64 0] 142 0 false)), (11, some (AObj.cells (List.take (n * 1) (List.drop 0 l) ++ List.take 1 (List.drop 0 [Value.int IntKind.u64 0])) 142 0 false))])) ∧ (decide (IntKind.wrap IntKind.i64 ((↑n : Int) * 64) < c) = false → K (Ex.exit 2) [vP 8 0, vI c, vI 0] (mkH 10 [(8, some (AObj.cells [vS 9 n 1, vI 0] 197 0 false)), (9, some (AObj.cells l 142 0 false))]))) := by kernel_rfl

theorem tabsSet_body (c x : Int) (n : Nat) (l : List Value) (K : Ex → List Value → AH → Prop) : vcCode Tryz.prog G E C6 (vcInl Tryz.prog G E C6 5) 9 61 100 (loopB Tryz.f70 2) ⟨frL [(0, vP 8 0), (1, vI c), (7, vI x)], mkH 10 [(8, some (AObj.cells [vS 9 n 1, vI c] 197 0 false)), (9, some (AObj.cells l 142 0 false))]⟩ [.run 1, .bool [.run 1, .bool [.run 1, .inl, .run 1, .bool [.run 5, .cond, .ask (Int) (fun (w : Int) (_x : AH) => AR.read (Value.int IntKind.u64 w)), .run 1, .cond, .run 0, .cond, .cond] []] []] []] (fun ex s _ => K ex ([0, 1, 7].map (getT s.tm)) s.h) = ((decide (x < c) = true → ((Int.tmod x 8 == 0) = true → (inCols x c = true → (0 ≤ IntKind.wrap IntKind.i64 (Int.tdiv x 64) ∧ IntKind.wrap IntKind.i64 (Int.tdiv x 64) < (↑n : Int) ∧ True) ∧ ∃ (x_4 : Int), aop E (Op.load 142 (oc (Value.pointer (some { block := 9, off := Int.toNat (IntKind.wrap IntKind.i64 (Int.tdiv x 64)) * 1 })))) Tr.leaf (mkH 10 [(8, some (AObj.cells [vS 9 n 1, vI c] 197 0 false)), (9, some (AObj.cells l 142 0 false))]) = some (AR.read (Value.int IntKind.u64 x_4)) ∧ (0 ≤ Int.tmod x 64 ∧ True) ∧ (0 ≤ IntKind.wrap IntKind.i64 (Int.tdiv x 64) ∧ IntKind.wrap IntKind.i64 (Int.tdiv x 64) < (↑n : Int) ∧ True) ∧ (Int.toNat (IntKind.wrap IntKind.i64 (Int.tdiv x 64)) * 1 + 1 ≤ List.length l ∧ 0 ≤ Int.toNat (IntKind.wrap IntKind.i64 (Int.tdiv x 64)) * 1 ∧ List.all [Value.int IntKind.u64 (IntKind.wrap IntKind.u64 (↑(BitVec.toNat (BitVec.ofInt 64 x_4 ||| BitVec.ofInt 64 (IntKind.wrap IntKind.u64 (1 * 2 ^ min (Int.toNat (Int.tmod x 64)) 64)))) : Int))] leaf = true ∧ True) ∧ (10 ≤ 10 ∧ 10 ≤ 10 ∧ 10 ≤ 10 ∧ 10 ≤ 10 ∧ 10 ≤ 10 ∧ 10 ≤ 10 ∧ 10 ≤ 10 ∧ 10 ≤ 10 ∧ 10 ≤ 10 ∧ 10 ≤ 10 ∧ 10 ≤ 10 ∧ 10 ≤ 10 ∧ 10 ≤ 10 ∧ 10 ≤ 10 ∧ aop E (Op.load 195 (oc (vP 8 0))) Tr.leaf (mkH 10 [(8, some (AObj.cells [vS 9 n 1, vI c] 197 0 false)), (9, some (AObj.cells l 142 0 false))]) = some (AR.read (vS 9 n 1)) ∧ vb 10 (vS 9 n 1) = true ∧ List.all [vP 8 0] (vb 10) = true ∧ aop E (Op.load 142 (oc (Value.pointer (some { block := 9, off := Int.toNat (IntKind.wrap IntKind.i64 (Int.tdiv x 64)) * 1 })))) Tr.leaf (mkH 10 [(8, some (AObj.cells [vS 9 n 1, vI c] 197 0 false)), (9, some (AObj.cells l 142 0 false))]) = some (AR.read (Value.int IntKind.u64 x_4)) ∧ vb 10 (Value.int IntKind.u64 x_4) = true ∧ List.all [Value.pointer (some { block := 9, off := Int.toNat (IntKind.wrap IntKind.i64 (Int.tdiv x 64)) * 1 })] (vb 10) = true ∧ True) ∧ K Ex.normal [vP 8 0, vI c, vI (IntKind.wrap IntKind.i64 (x + 1))] (mkH 10 [(8, some (AObj.cells [vS 9 n 1, vI c] 197 0 false)), (9, some (AObj.cells (setAt l (Int.toNat (IntKind.wrap IntKind.i64 (Int.tdiv x 64)) * 1) [Value.int IntKind.u64 (IntKind.wrap IntKind.u64 (↑(BitVec.toNat (BitVec.ofInt 64 x_4 ||| BitVec.ofInt 64 (IntKind.wrap IntKind.u64 (1 * 2 ^ min (Int.toNat (Int.tmod x 64)) 64)))) : Int))]) 142 0 false))])) ∧ (inCols x c = false → K Ex.normal [vP 8 0, vI c, vI (IntKind.wrap IntKind.i64 (x + 1))] (mkH 10 [(8, some (AObj.cells [vS 9 n 1, vI c] 197 0 false)), (9, some (AObj.cells l 142 0 false))]))) ∧ ((Int.tmod x 8 == 0) = false → K Ex.normal [vP 8 0, vI c, vI (IntKind.wrap IntKind.i64 (x + 1))] (mkH 10 [(8, some (AObj.cells [vS 9 n 1, vI c] 197 0 false)), (9, some (AObj.cells l 142 0 false))]))) ∧ (decide (x < c) = false → K (Ex.exit 4) [vP 8 0, vI c, vI x] (mkH 10 [(8, some (AObj.cells [vS 9 n 1, vI c] 197 0 false)), (9, some (AObj.cells l 142 0 false))]))) := by kernel_rfl
end Go.Proofs.YtoaniefcobkaiaaGreatDoor
end
section
set_option maxRecDepth 100000
open Go Go.Ev Go.Proofs
namespace Go.Proofs.YtoaniefcobkaiaaGreatDoor
abbrev wordsV (l : List Int) : List Value := l.map (Value.int .u64)
theorem wordsV_cl (l : List Int) : (wordsV l).all cl = true := by
  rw [List.all_eq_true]; intro v hv
  obtain ⟨x, _, rfl⟩ := List.mem_map.1 hv
  rfl
def setBit (w : Int) (x : Nat) : Int := IntKind.wrap IntKind.u64 (↑(BitVec.toNat (BitVec.ofInt 64 w ||| BitVec.ofInt 64 (IntKind.wrap IntKind.u64 (1 * 2 ^ min (Int.toNat (Int.tmod x 64)) 64)))) : Int)
def setStop (l : List Int) (x : Nat) : List Int := l.set (x / 64) (setBit (l.getD (x / 64) 0) x)
def stopsAt (n : Nat) : Nat → List Int
  | 0 => List.replicate n 0
  | x + 1 => if x % 8 = 0 then setStop (stopsAt n x) x else stopsAt n x
theorem stopsAt_length (n : Nat) : ∀ x, (stopsAt n x).length = n
  | 0 => by simp [stopsAt]
  | x + 1 => by simp only [stopsAt]; split <;> simp [setStop, stopsAt_length n x]
def nWords (c : Int) : Nat := (c.toNat + 63) / 64
def stopsV (n : Nat) (c : Int) : List Value := [vS 9 n 1, vI c]
noncomputable def stopsH (c : Int) (l : List Int) : AH := mkH 10 [(8, some (.cells (stopsV l.length c) 197 0 false)), (9, some (.cells (wordsV l) 142 0 false))]
theorem setAt_one (l : List Int) (i : Nat) (v : Int) (h : i < l.length) : setAt (wordsV l) (i * 1) [Value.int .u64 v] = wordsV (l.set i v) := by
  apply List.ext_getElem?
  intro j
  rw [setAt_get _ _ _ _ (by simp; omega)]
  simp only [Nat.mul_one, List.length_singleton, wordsV, List.getElem?_map]
  by_cases e : j = i
  · subst e; rw [if_pos (by omega), List.getElem?_set_self h]; simp
  · rw [if_neg (by omega), List.getElem?_set_ne (by omega)]
theorem grow_loop (N : Nat) (hN : 1 ≤ N) (c : Int) (h1 : 64 * (N - 1 : Int) < c) (h2 : c ≤ 64 * N) (h3 : N ≤ 1000) : LoopT Tryz.prog G 9 61 (loopB Tryz.f70 1) [(0, vP 8 0), (1, vI c), (5, vI 0)] (mkH 11 [(8, some (AObj.cells [vS 10 1 1, vI 0] 197 0 false)), (9, some (AObj.cells [Value.int IntKind.u64 0] 142 0 false)), (10, some (AObj.cells [Value.int IntKind.u64 0] 142 0 false))])
    (.exit 2, [(0, vP 8 0), (1, vI c), (5, vI 0)], mkH 10 [(8, some (AObj.cells [vS 9 N 1, vI 0] 197 0 false)), (9, some (AObj.cells (wordsV (List.replicate N 0)) 142 0 false))]) := by
  refine .pre (fr2 := [(0, vP 8 0), (1, vI c), (5, vI 0)]) (h2 := mkH 10 [(8, some (AObj.cells [vS 9 1 1, vI 0] 197 0 false)), (9, some (AObj.cells (wordsV [0]) 142 0 false))]) ?_ ?_
  · exact Weak.keep (keep := [10]) (fun g hg => by have := (below_iff (K := 8) g).1 hg; omega) (by kernel_rfl) rfl ⟨rfl, rfl, rfl, rfl, rfl, rfl, rfl, rfl, rfl, rfl, trivial⟩ ⟨trivial, trivial, trivial, trivial, trivial, trivial, trivial, trivial, rfl, rfl, trivial⟩ (fun c hc => mkH_top rfl hc) (by kernel_rfl) (by kernel_rfl) rfl
  refine loopT_K full C6_ok (depth := 5) (live := [0, 1, 5]) (by kernel_rfl)
    (fun n vals h => ∃ i, i + n = N ∧ 1 ≤ i ∧ vals = [vP 8 0, vI c, vI 0] ∧ h = mkH 10 [(8, some (AObj.cells [vS 9 i 1, vI 0] 197 0 false)), (9, some (AObj.cells (wordsV (List.replicate i 0)) 142 0 false))]) ?_
    (n := N - 1) (vals := [vP 8 0, vI c, vI 0]) ⟨1, by omega, by omega, rfl, rfl⟩
  rintro n vals h ⟨i, hin, hi, rfl, rfl⟩
  have hl : (wordsV (List.replicate i 0)).length = i := by simp
  refine ⟨_, of_eq (tabsGrow_body c i (wordsV (List.replicate i 0)) (LK G 9 61 [0, 1, 5] _ _ n)) ?_⟩
  have hw : IntKind.wrap IntKind.i64 ((↑i : Int) * 64) = i * 64 := wrap64 (by omega) (by omega)
  rw [hw]
  refine ⟨fun h1 => ⟨⟨Nat.le_refl _, by omega, rfl, by omega, by omega, by kernel_rfl, Nat.le_refl _, trivial⟩, ?_⟩, fun h1 => ?_⟩
  · simp only [decide_eq_true_eq] at h1
    refine .inl ⟨rfl, n - 1, [vP 8 0, vI c, vI 0], mkH 10 [(8, some (AObj.cells [vS 9 (i + 1) 1, vI 0] 197 0 false)), (9, some (AObj.cells (wordsV (List.replicate (i + 1) 0)) 142 0 false))], by omega, ⟨i + 1, by omega, by omega, rfl, rfl⟩, ?_⟩
    have e1 : List.take (i * 1) (List.drop 0 (wordsV (List.replicate i 0))) ++ List.take 1 (List.drop 0 [Value.int IntKind.u64 0]) = wordsV (List.replicate (i + 1) 0) := by
      rw [List.drop_zero, List.take_of_length_le (by omega), List.replicate_succ', wordsV, wordsV, List.map_append]; rfl
    rw [e1]
    refine Weak.keep (keep := [11]) (fun g hg => by have := (below_iff (K := 8) g).1 hg; omega) (by kernel_rfl) rfl ⟨rfl, rfl, rfl, rfl, rfl, rfl, rfl, rfl, rfl, ?_, trivial⟩ ⟨trivial, trivial, trivial, trivial, trivial, trivial, trivial, trivial, rfl, ?_, trivial⟩ (fun c hc => mkH_top rfl hc) (by kernel_rfl) (by kernel_rfl) rfl
    · exact (congrArg some (renO_cl (wordsV_cl _))).symm
    · exact cls_vq (wordsV_cl _)
  · have hi : i = N := by simp at h1; omega
    subst hi
    exact .inr ⟨(fun h => by cases h), rfl, .sub ⟨by kernel_rfl, by kernel_rfl, by kernel_rfl, trivial⟩⟩
theorem stops_loop (N C : Nat) (hC : C ≤ 1000) (hN : C ≤ 64 * N) : LoopT Tryz.prog G 9 61 (loopB Tryz.f70 2) [(0, vP 8 0), (1, vI C), (7, vI 0)] (mkH 10 [(8, some (AObj.cells [vS 9 N 1, vI C] 197 0 false)), (9, some (AObj.cells (wordsV (List.replicate N 0)) 142 0 false))])
    (.exit 4, [], mkH 10 [(8, some (AObj.cells [vS 9 N 1, vI C] 197 0 false)), (9, some (AObj.cells (wordsV (stopsAt N C)) 142 0 false))]) := by
  refine loopT_K full C6_ok (depth := 5) (live := [0, 1, 7]) (by kernel_rfl)
    (fun n vals h => ∃ x, x + n = C ∧ vals = [vP 8 0, vI C, vI x] ∧ h = mkH 10 [(8, some (AObj.cells [vS 9 N 1, vI C] 197 0 false)), (9, some (AObj.cells (wordsV (stopsAt N x)) 142 0 false))]) ?_
    (n := C) (vals := [vP 8 0, vI C, vI 0]) ⟨0, by omega, rfl, rfl⟩
  rintro n vals h ⟨x, hxn, rfl, rfl⟩
  have hl := stopsAt_length N x
  refine ⟨_, of_eq (tabsSet_body C x N (wordsV (stopsAt N x)) (LK G 9 61 [0, 1, 7] _ _ n)) ?_⟩
  have hw : IntKind.wrap IntKind.i64 (Int.tdiv x 64) = (x / 64 : Nat) := by
    rw [show Int.tdiv (x : Int) 64 = ((x / 64 : Nat) : Int) from rfl]
    exact wrap64 (by omega) (by omega)
  have hw2 : IntKind.wrap IntKind.i64 ((x : Int) + 1) = ((x + 1 : Nat) : Int) := by rw [wrap64 (by omega) (by omega)]; omega
  have t8 : Int.tmod (x : Int) 8 = ((x % 8 : Nat) : Int) := rfl
  have t64 : Int.tmod (x : Int) 64 = ((x % 64 : Nat) : Int) := rfl
  rw [hw, hw2, Int.toNat_natCast]
  have next : ∀ h', h' = mkH 10 [(8, some (AObj.cells [vS 9 N 1, vI C] 197 0 false)), (9, some (AObj.cells (wordsV (stopsAt N (x + 1))) 142 0 false))] → x < C → LK G 9 61 [0, 1, 7] (.exit 4, [], mkH 10 [(8, some (AObj.cells [vS 9 N 1, vI C] 197 0 false)), (9, some (AObj.cells (wordsV (stopsAt N C)) 142 0 false))])
      (fun n vals h => ∃ x, x + n = C ∧ vals = [vP 8 0, vI C, vI x] ∧ h = mkH 10 [(8, some (AObj.cells [vS 9 N 1, vI C] 197 0 false)), (9, some (AObj.cells (wordsV (stopsAt N x)) 142 0 false))]) n .normal [vP 8 0, vI C, vI (x + 1 : Nat)] h' := fun h' e hx => by
    subst e
    exact .inl ⟨rfl, n - 1, _, _, by omega, ⟨x + 1, by omega, rfl, rfl⟩, .refl _⟩
  refine ⟨fun h1 => ⟨fun h2 => ⟨fun h3 => ?_, fun h3 => ?_⟩, fun h2 => ?_⟩, fun h1 => ?_⟩
  · simp only [decide_eq_true_eq] at h1
    have hx : x < C := by omega
    have hi : x / 64 < N := by omega
    have hm : x % 8 = 0 := by rw [t8] at h2; simp at h2; omega
    have hd : aop E (Op.load 142 (oc (Value.pointer (some { block := 9, off := x / 64 * 1 })))) Tr.leaf (mkH 10 [(8, some (AObj.cells [vS 9 N 1, vI C] 197 0 false)), (9, some (AObj.cells (wordsV (stopsAt N x)) 142 0 false))]) = some (AR.read (Value.int IntKind.u64 ((stopsAt N x).getD (x / 64) 0))) := by
      refine load1 (i := tiOf Tryz.prog Tryz.prog.toTables.types.toList 142 Tryz.t142) (by kernel_rfl) (by kernel_rfl) (h := mkH 10 _) (l := wordsV (stopsAt N x)) (e := 142) (fz := 0) (s := false) (by kernel_rfl) ?_
      rw [Nat.mul_one, wordsV, List.getElem?_map, List.getD_eq_getElem?_getD, List.getElem?_eq_getElem (by omega)]; rfl
    refine ⟨⟨by omega, by omega, trivial⟩, _, hd, ⟨by rw [t64]; omega, trivial⟩, ⟨by omega, by omega, trivial⟩, ⟨by simp; omega, by omega, by kernel_rfl, trivial⟩, ?_, ?_⟩
    · refine ⟨?_, ?_, ?_, ?_, ?_, ?_, ?_, ?_, ?_, ?_, ?_, ?_, ?_, ?_, by kernel_rfl, by kernel_rfl, by kernel_rfl, hd, by kernel_rfl, by kernel_rfl, trivial⟩ <;> omega
    · refine next _ ?_ hx
      rw [setAt_one _ _ _ (by omega)]
      simp only [stopsAt, if_pos hm]
      rfl
  · exfalso
    simp only [decide_eq_true_eq] at h1
    simp [inCols] at h3; omega
  · simp only [decide_eq_true_eq] at h1
    have hm : ¬ x % 8 = 0 := by rw [t8] at h2; simp at h2; omega
    refine next _ ?_ (by omega)
    simp only [stopsAt, if_neg hm]
  · have hx : x = C := by simp at h1; omega
    subst hx
    exact .inr ⟨(fun h => by cases h), rfl, .sub trivial⟩
theorem tabsNew_c (c : Int) (h1 : 2 ≤ c) (h2 : c ≤ 1000) : CallsOk Tryz.prog G 67 [vI c] (bas 8) (.tuple ⟨[vP 8 0, vI 0]⟩) (stopsH c (stopsAt (nWords c) c.toNat)) := by
  obtain ⟨C, rfl⟩ : ∃ C : Nat, c = C := ⟨c.toNat, by omega⟩
  have ht : tfits C = true := by simp [tfits]; omega
  have hn : nWords (C : Int) = (C + 63) / 64 := rfl
  have hN := stopsAt_length (nWords C) C
  refine (vcFn_sound full C6_ok (n := 5) (f := 67) (fn := Tryz.f67) (by kernel_rfl) (of_eq (tabsNew_vc C (nWords C) (wordsV (List.replicate (nWords C) 0)) (wordsV (stopsAt (nWords C) C)) (fun v h' => FinR 8 v h' _ _)) ⟨fun _ => ⟨fun _ => ⟨(), ?_, (), ?_, (), ?_, (), ?_, ?_⟩, fun h5 => ?_⟩, fun h5 => ?_⟩)).ok fun v h' hq => hq
  · show some (AR.pur (.bool (decide ((C : Int) < 0)))) = _
    rw [decide_eq_false (by omega)]
  · show some (AR.pur (.bool (decide (0 < (C : Int))))) = _
    rw [decide_eq_true (by omega)]
  · exact grow_loop (nWords C) (by omega) C (by omega) (by omega) (by omega)
  · exact stops_loop (nWords C) C (by omega) (by omega)
  · have e1 : stopsH C (stopsAt (nWords C) (C : Int).toNat) = mkH 10 [(8, some (AObj.cells [vS 9 (nWords C) 1, vI C] 197 0 false)), (9, some (AObj.cells (wordsV (stopsAt (nWords C) C)) 142 0 false))] := by
      unfold stopsH; rw [Int.toNat_natCast, hN]; rfl
    rw [e1]
    exact .refl
  · rw [ht] at h5; cases h5
  · rw [ht] at h5; cases h5
end Go.Proofs.YtoaniefcobkaiaaGreatDoor
end
section
set_option maxRecDepth 100000
open Go Go.Ev Go.Proofs
namespace Go.Proofs.YtoaniefcobkaiaaGreatDoor
theorem screenNew_vc (rows c lines : Int) (n : Nat) (rs : List Row) (ws : List Int) (K : Value → AH → Prop) : vcFn Tryz.prog G E C6 5 Tryz.f39 [vI rows, vI c, vI lines] (bas 8) [.run 4, .call (Unit) (fun (_x : Unit) (_x_1 : AH) => (Value.tuple { toList := [vP 9 0, vI 0] }, mkH 11 [(8, some (ringO lines)), (9, some (AObj.cells (pageV (vP 8 0) (vS 10 (List.length rs) 2) c (Value.slice none 0 0)) 108 0 false)), (10, some (AObj.cells (rowsV rs) 57 0 false))])), .run 7, .call (Unit) (fun (_x : Unit) (_x_1 : AH) => (Value.tuple { toList := [vP 11 0, vI 0] }, mkH 13 [(8, some (ringO lines)), (9, some (AObj.cells (pageV (vP 8 0) (vS 10 (List.length rs) 2) c (Value.slice none 0 0)) 108 0 false)), (10, some (AObj.cells (rowsV rs) 57 0 false)), (11, some (AObj.cells [vS 12 n 1, vI c] 197 0 false)), (12, some (AObj.cells (wordsV ws) 142 0 false))]))] K = (∃ (_x : Unit), CallOk Tryz.prog G 66 [vI rows, vI c, vI lines] (bas 8) (Value.tuple { toList := [vP 9 0, vI 0] }) (mkH 11 [(8, some (AObj.cells [Value.slice none 0 0, vI lines, vI 0, vI 0, Value.int IntKind.u64 0] 144 0 false)), (9, some (AObj.cells [vP 8 0, vS 10 (List.length rs) 2, vI c, Value.slice none 0 0] 108 0 false)), (10, some (AObj.cells (rowsV rs) 57 0 false))]) ∧ ∃ (_x : Unit), CallOk Tryz.prog G 67 [vI c] (mkH 11 [(8, some (AObj.cells [Value.slice none 0 0, vI lines, vI 0, vI 0, Value.int IntKind.u64 0] 144 0 false)), (9, some (AObj.cells [vP 8 0, vS 10 (List.length rs) 2, vI c, Value.slice none 0 0] 108 0 false)), (10, some (AObj.cells (rowsV rs) 57 0 false))]) (Value.tuple { toList := [vP 11 0, vI 0] }) (mkH 13 [(8, some (AObj.cells [Value.slice none 0 0, vI lines, vI 0, vI 0, Value.int IntKind.u64 0] 144 0 false)), (9, some (AObj.cells [vP 8 0, vS 10 (List.length rs) 2, vI c, Value.slice none 0 0] 108 0 false)), (10, some (AObj.cells (rowsV rs) 57 0 false)), (11, some (AObj.cells [vS 12 n 1, vI c] 197 0 false)), (12, some (AObj.cells (wordsV ws) 142 0 false))]) ∧ K (Value.tuple { toList := [vP 15 0, vI 0] }) (mkH 16 [(8, some (AObj.cells [Value.slice none 0 0, vI lines, vI 0, vI 0, Value.int IntKind.u64 0] 144 0 false)), (9, some (AObj.cells [vP 8 0, vS 10 (List.length rs) 2, vI c, Value.slice none 0 0] 108 0 false)), (10, some (AObj.cells (rowsV rs) 57 0 false)), (11, some (AObj.cells [vS 12 n 1, vI c] 197 0 false)), (12, some (AObj.cells (wordsV ws) 142 0 false)), (13, some (AObj.cells [vI 0, vI 0, vI 0, vI 0, vI 0, vI 66, vI 66, vI 66, vI 66, vI 0, vI 0, Value.bool false, Value.bool true, Value.bool false] 99 0 false)), (14, some (AObj.cells [vI 66, vI 66, vI 66, vI 66, vI 0, vI 0] 42 0 false)), (15, some (AObj.cells [vI 0, vI 0, vI 0, vI 0, vI 0, vI 66, vI 66, vI 66, vI 66, vI 0, vI 0, Value.bool false, Value.bool true, Value.bool false, vP 9 0, vP 11 0, vI 0, vI 0, vI 0, vI (IntKind.wrap IntKind.i64 (rows - 1)), vI 0, vI 0, vI 0, vI 0, vI 0, vI 0, vI 0, vI 0, vI 0, vI 0, vI 0, Value.bool false, Value.bool false, Value.bool false, vI 0, vI 0, Value.bool false, vR 0] 104 0 false))])) := by kernel_rfl

theorem screenNew_no_vc (rows c lines : Int) (K : Value → AH → Prop) : vcFn Tryz.prog G E C6 5 Tryz.f39 [vI rows, vI c, vI lines] (bas 8) [.run 4, .call (Unit) (fun (_x : Unit) (h : AH) => (Value.tuple { toList := [Value.pointer none, vI 1] }, h))] K = (∃ (_x : Unit), CallOk Tryz.prog G 66 [vI rows, vI c, vI lines] (bas 8) (Value.tuple { toList := [Value.pointer none, vI 1] }) (mkH 8 []) ∧ K (Value.tuple { toList := [Value.pointer none, vI 1] }) (mkH 8 [])) := by kernel_rfl
end Go.Proofs.YtoaniefcobkaiaaGreatDoor
end
section
set_option maxRecDepth 100000
open Go Go.Ev Go.Proofs
namespace Go.Proofs.YtoaniefcobkaiaaGreatDoor
/-- a new screen's cells -/
def screenV (page stops : Value) (rows : Int) : List Value := [vI 0, vI 0, vI 0, vI 0, vI 0, vI 66, vI 66, vI 66, vI 66, vI 0, vI 0, Value.bool false, Value.bool true, Value.bool false, page, stops, vI 0, vI 0, vI 0, vI (rows - 1), vI 0, vI 0, vI 0, vI 0, vI 0, vI 0, vI 0, vI 0, vI 0, vI 0, vI 0, Value.bool false, Value.bool false, Value.bool false, vI 0, vI 0, Value.bool false, vR 0]
def screenL (b : Nat) (rows c lines : Int) (rs : List Row) (ws : List Int) : List (Nat × Option AObj) := [(b, some (ringO lines)), (b + 1, some (.cells (pageV (vP b 0) (vS (b + 2) rs.length 2) c (.slice none 0 0)) 108 0 false)), (b + 2, some (.cells (rowsV rs) 57 0 false)), (b + 3, some (.cells [vS (b + 4) ws.length 1, vI c] 197 0 false)), (b + 4, some (.cells (wordsV ws) 142 0 false)), (b + 5, some (.cells (screenV (vP (b + 1) 0) (vP (b + 3) 0) rows) 104 0 false))]
noncomputable def screenH (rows c lines : Int) (rs : List Row) (ws : List Int) : AH := mkH 14 (screenL 8 rows c lines rs ws)
theorem wordsV_ren (ρ : Nat → Nat) (l : List Int) : rens ρ (wordsV l) = wordsV l := cls_ren (wordsV_cl l)
theorem rowsV_ren (ρ : Nat → Nat) (l : List Row) : rens ρ (rowsV l) = rowsV l := cls_ren (rowsV_cl l)
theorem screenNew_no (rows c lines : Int) (hf : pageFits rows c lines = false) (h : AH) : CallOk Tryz.prog G 39 [vI rows, vI c, vI lines] h (.tuple ⟨[.pointer none, vI 1]⟩) h := by
  refine pure_fn C6_ok (fn := Tryz.f39) (by kernel_rfl) (by kernel_rfl) (of_eq (screenNew_no_vc rows c lines _) ⟨(), pageNew_no rows c lines hf (bas 8), ?_⟩) rfl rfl h
  exact FinR.drop' rfl (by kernel_rfl) rfl (by simp [mkH])
theorem screenNew_c (rows c lines : Int) (hf : pageFits rows c lines = true) : CallsOk Tryz.prog G 39 [vI rows, vI c, vI lines] (bas 8) (.tuple ⟨[vP 13 0, vI 0]⟩) (screenH rows c lines (List.replicate rows.toNat (blankRow c)) (stopsAt (nWords c) c.toNat)) := by
  have hp := pageNew_c rows c lines hf
  simp only [pageFits, Bool.and_eq_true, decide_eq_true_eq] at hf
  obtain ⟨⟨hf, hl1⟩, hl2⟩ := hf
  obtain ⟨h1, h2, h3, h4⟩ := fits_le hf
  have ht := tabsNew_c c h3 h4
  have hn := stopsAt_length (nWords c) c.toNat
  generalize hws : stopsAt (nWords c) c.toNat = ws at *
  generalize hrs : List.replicate rows.toNat (blankRow c) = rs at *
  refine (vcFn_sound full C6_ok (n := 5) (f := 39) (fn := Tryz.f39) (by kernel_rfl) (of_eq (screenNew_vc rows c lines ws.length rs ws (fun v h' => FinR 8 v h' _ _)) ⟨(), hp.call' full (fn := Tryz.f66) (by kernel_rfl) (by kernel_rfl), (), ?_, ?_⟩)).ok fun v h' hq => hq
  · refine (ht.at2 (em := []) rfl (by kernel_rfl) (by kernel_rfl) (fun b hb => mkH_top rfl hb) (by kernel_rfl) trivial (by kernel_rfl) ?_ (by kernel_rfl) (fun b hb => mkH_top rfl hb) (by kernel_rfl) rfl rfl rfl rfl rfl ?_ (fun b hb => mkH_top rfl hb) (fun b hb => mkH_top rfl hb)).call' full (fn := Tryz.f67) (by kernel_rfl) (by kernel_rfl)
    · show (oqB _ (some (.cells (stopsV ws.length c) 197 0 false)) && (oqB _ (some (.cells (wordsV ws) 142 0 false)) && true)) = true
      simp only [oqB, oq, cls_vq (wordsV_cl ws), Bool.and_true]; rfl
    · refine ⟨?_, ?_, ?_, ?_, ?_, ?_, ?_, ?_, ?_, ?_, ?_, ?_, ?_, trivial⟩
      iterate 12 (show _ = _; kernel_rfl)
      exact of_eq (b := some (AObj.cells (wordsV ws) 142 0 false) = some (renO (fRho 8 [] 11) (AObj.cells (wordsV ws) 142 0 false))) (by kernel_rfl) (congrArg some (renO_cl (wordsV_cl _))).symm
  · have e1 : IntKind.wrap IntKind.i64 (rows - 1) = rows - 1 := wrap64 (by omega) (by omega)
    rw [e1]
    refine FinR.keep (keep := [8, 9, 10, 11, 12, 15]) (by kernel_rfl) rfl ⟨rfl, rfl, rfl, rfl, rfl, rfl, rfl, rfl, rfl, rfl, ?_, rfl, ?_, rfl, trivial⟩ ⟨trivial, trivial, trivial, trivial, trivial, trivial, trivial, trivial, rfl, rfl, ?_, rfl, ?_, rfl, trivial⟩ (fun c hc => mkH_top rfl hc) (by kernel_rfl) (by kernel_rfl) rfl
    · exact (congrArg some (renO_cl (rowsV_cl _))).symm
    · exact (congrArg some (renO_cl (wordsV_cl _))).symm
    · exact cls_vq (rowsV_cl _)
    · exact cls_vq (wordsV_cl _)
end Go.Proofs.YtoaniefcobkaiaaGreatDoor
end
section
set_option maxRecDepth 100000
open Go Go.Ev Go.Proofs
namespace Go.Proofs.YtoaniefcobkaiaaGreatDoor
theorem termNew_vc (rows c lines p : Int) (rs : List Row) (ws : List Int) (K : Value → AH → Prop) : vcFn Tryz.prog G E C6 5 Tryz.f23 [vI rows, vI c, vI lines, vI p] (bas 8) [.run 4, .call (Unit) (fun (_x : Unit) (h : AH) => match Nat.beq (AH.next h) 8 with | true => (Value.tuple { toList := [vP 13 0, vI 0] }, mkH 14 (screenL 8 rows c lines rs ws)) | false => (Value.tuple { toList := [vP 20 0, vI 0] }, mkH 21 (screenL 8 rows c lines rs ws ++ (14, some (AObj.cells (parserV p) 136 0 false)) :: screenL 15 rows c 0 rs ws))), .run 5, .call (Unit) (fun (_x : Unit) (_x_1 : AH) => (Value.tuple { toList := [vP 14 0, vI 0] }, mkH 15 (screenL 8 rows c lines rs ws ++ [(14, some (AObj.cells (parserV p) 136 0 false))]))), .run 12, .call (Unit) (fun (_x : Unit) (h : AH) => match Nat.beq (AH.next h) 8 with | true => (Value.tuple { toList := [vP 13 0, vI 0] }, mkH 14 (screenL 8 rows c lines rs ws)) | false => (Value.tuple { toList := [vP 20 0, vI 0] }, mkH 21 (screenL 8 rows c lines rs ws ++ (14, some (AObj.cells (parserV p) 136 0 false)) :: screenL 15 rows c 0 rs ws)))] K = (∃ (_x : Unit), CallOk Tryz.prog G 39 [vI rows, vI c, vI lines] (bas 8) (Value.tuple { toList := [vP 13 0, vI 0] }) (mkH 14 [(8, some (AObj.cells [Value.slice none 0 0, vI lines, vI 0, vI 0, Value.int IntKind.u64 0] 144 0 false)), (9, some (AObj.cells [vP 8 0, vS 10 (List.length rs) 2, vI c, Value.slice none 0 0] 108 0 false)), (10, some (AObj.cells (rowsV rs) 57 0 false)), (11, some (AObj.cells [vS 12 (List.length ws) 1, vI c] 197 0 false)), (12, some (AObj.cells (wordsV ws) 142 0 false)), (13, some (AObj.cells [vI 0, vI 0, vI 0, vI 0, vI 0, vI 66, vI 66, vI 66, vI 66, vI 0, vI 0, Value.bool false, Value.bool true, Value.bool false, vP 9 0, vP 11 0, vI 0, vI 0, vI 0, vI (rows - 1), vI 0, vI 0, vI 0, vI 0, vI 0, vI 0, vI 0, vI 0, vI 0, vI 0, vI 0, Value.bool false, Value.bool false, Value.bool false, vI 0, vI 0, Value.bool false, vR 0] 104 0 false))]) ∧ ∃ (_x : Unit), CallOk Tryz.prog G 40 [vI p] (mkH 14 [(8, some (AObj.cells [Value.slice none 0 0, vI lines, vI 0, vI 0, Value.int IntKind.u64 0] 144 0 false)), (9, some (AObj.cells [vP 8 0, vS 10 (List.length rs) 2, vI c, Value.slice none 0 0] 108 0 false)), (10, some (AObj.cells (rowsV rs) 57 0 false)), (11, some (AObj.cells [vS 12 (List.length ws) 1, vI c] 197 0 false)), (12, some (AObj.cells (wordsV ws) 142 0 false)), (13, some (AObj.cells [vI 0, vI 0, vI 0, vI 0, vI 0, vI 66, vI 66, vI 66, vI 66, vI 0, vI 0, Value.bool false, Value.bool true, Value.bool false, vP 9 0, vP 11 0, vI 0, vI 0, vI 0, vI (rows - 1), vI 0, vI 0, vI 0, vI 0, vI 0, vI 0, vI 0, vI 0, vI 0, vI 0, vI 0, Value.bool false, Value.bool false, Value.bool false, vI 0, vI 0, Value.bool false, vR 0] 104 0 false))]) (Value.tuple { toList := [vP 14 0, vI 0] }) (mkH 15 [(8, some (AObj.cells [Value.slice none 0 0, vI lines, vI 0, vI 0, Value.int IntKind.u64 0] 144 0 false)), (9, some (AObj.cells [vP 8 0, vS 10 (List.length rs) 2, vI c, Value.slice none 0 0] 108 0 false)), (10, some (AObj.cells (rowsV rs) 57 0 false)), (11, some (AObj.cells [vS 12 (List.length ws) 1, vI c] 197 0 false)), (12, some (AObj.cells (wordsV ws) 142 0 false)), (13, some (AObj.cells [vI 0, vI 0, vI 0, vI 0, vI 0, vI 66, vI 66, vI 66, vI 66, vI 0, vI 0, Value.bool false, Value.bool true, Value.bool false, vP 9 0, vP 11 0, vI 0, vI 0, vI 0, vI (rows - 1), vI 0, vI 0, vI 0, vI 0, vI 0, vI 0, vI 0, vI 0, vI 0, vI 0, vI 0, Value.bool false, Value.bool false, Value.bool false, vI 0, vI 0, Value.bool false, vR 0] 104 0 false)), (14, some (AObj.cells [vB 0, Value.slice none 0 0, Value.slice none 0 0, Value.slice none 0 0, vB 0, Value.bool false, Value.bool false, vI p, vI 0, vR 0, vI 0, vI 0, vB 0, vB 0] 136 0 false))]) ∧ ∃ (_x : Unit), CallOk Tryz.prog G 39 [vI rows, vI c, vI 0] (mkH 15 [(8, some (AObj.cells [Value.slice none 0 0, vI lines, vI 0, vI 0, Value.int IntKind.u64 0] 144 0 false)), (9, some (AObj.cells [vP 8 0, vS 10 (List.length rs) 2, vI c, Value.slice none 0 0] 108 0 false)), (10, some (AObj.cells (rowsV rs) 57 0 false)), (11, some (AObj.cells [vS 12 (List.length ws) 1, vI c] 197 0 false)), (12, some (AObj.cells (wordsV ws) 142 0 false)), (13, some (AObj.cells [vI 0, vI 0, vI 0, vI 0, vI 0, vI 66, vI 66, vI 66, vI 66, vI 0, vI 0, Value.bool false, Value.bool true, Value.bool false, vP 9 0, vP 11 0, vI 0, vI 0, vI 0, vI (rows - 1), vI 0, vI 0, vI 0, vI 0, vI 0, vI 0, vI 0, vI 0, vI 0, vI 0, vI 0, Value.bool false, Value.bool false, Value.bool false, vI 0, vI 0, Value.bool false, vR 0] 104 0 false)), (14, some (AObj.cells [vB 0, Value.slice none 0 0, Value.slice none 0 0, Value.slice none 0 0, vB 0, Value.bool false, Value.bool false, vI p, vI 0, vR 0, vI 0, vI 0, vB 0, vB 0] 136 0 false))]) (Value.tuple { toList := [vP 20 0, vI 0] }) (mkH 21 [(8, some (AObj.cells [Value.slice none 0 0, vI lines, vI 0, vI 0, Value.int IntKind.u64 0] 144 0 false)), (9, some (AObj.cells [vP 8 0, vS 10 (List.length rs) 2, vI c, Value.slice none 0 0] 108 0 false)), (10, some (AObj.cells (rowsV rs) 57 0 false)), (11, some (AObj.cells [vS 12 (List.length ws) 1, vI c] 197 0 false)), (12, some (AObj.cells (wordsV ws) 142 0 false)), (13, some (AObj.cells [vI 0, vI 0, vI 0, vI 0, vI 0, vI 66, vI 66, vI 66, vI 66, vI 0, vI 0, Value.bool false, Value.bool true, Value.bool false, vP 9 0, vP 11 0, vI 0, vI 0, vI 0, vI (rows - 1), vI 0, vI 0, vI 0, vI 0, vI 0, vI 0, vI 0, vI 0, vI 0, vI 0, vI 0, Value.bool false, Value.bool false, Value.bool false, vI 0, vI 0, Value.bool false, vR 0] 104 0 false)), (14, some (AObj.cells [vB 0, Value.slice none 0 0, Value.slice none 0 0, Value.slice none 0 0, vB 0, Value.bool false, Value.bool false, vI p, vI 0, vR 0, vI 0, vI 0, vB 0, vB 0] 136 0 false)), (15, some (AObj.cells [Value.slice none 0 0, vI 0, vI 0, vI 0, Value.int IntKind.u64 0] 144 0 false)), (16, some (AObj.cells [vP 15 0, vS 17 (List.length rs) 2, vI c, Value.slice none 0 0] 108 0 false)), (17, some (AObj.cells (rowsV rs) 57 0 false)), (18, some (AObj.cells [vS 19 (List.length ws) 1, vI c] 197 0 false)), (19, some (AObj.cells (wordsV ws) 142 0 false)), (20, some (AObj.cells [vI 0, vI 0, vI 0, vI 0, vI 0, vI 66, vI 66, vI 66, vI 66, vI 0, vI 0, Value.bool false, Value.bool true, Value.bool false, vP 16 0, vP 18 0, vI 0, vI 0, vI 0, vI (rows - 1), vI 0, vI 0, vI 0, vI 0, vI 0, vI 0, vI 0, vI 0, vI 0, vI 0, vI 0, Value.bool false, Value.bool false, Value.bool false, vI 0, vI 0, Value.bool false, vR 0] 104 0 false))]) ∧ K (Value.tuple { toList := [vP 28 0, vI 0] }) (mkH 29 [(8, some (AObj.cells [Value.slice none 0 0, vI lines, vI 0, vI 0, Value.int IntKind.u64 0] 144 0 false)), (9, some (AObj.cells [vP 8 0, vS 10 (List.length rs) 2, vI c, Value.slice none 0 0] 108 0 false)), (10, some (AObj.cells (rowsV rs) 57 0 false)), (11, some (AObj.cells [vS 12 (List.length ws) 1, vI c] 197 0 false)), (12, some (AObj.cells (wordsV ws) 142 0 false)), (13, some (AObj.cells [vI 0, vI 0, vI 0, vI 0, vI 0, vI 66, vI 66, vI 66, vI 66, vI 0, vI 0, Value.bool false, Value.bool true, Value.bool false, vP 9 0, vP 11 0, vI 0, vI 0, vI 0, vI (rows - 1), vI 0, vI 0, vI 0, vI 0, vI 0, vI 0, vI 0, vI 0, vI 0, vI 0, vI 0, Value.bool false, Value.bool false, Value.bool false, vI 0, vI 0, Value.bool false, vR 0] 104 0 false)), (14, some (AObj.cells [vB 0, Value.slice none 0 0, Value.slice none 0 0, Value.slice none 0 0, vB 0, Value.bool false, Value.bool false, vI p, vI 0, vR 0, vI 0, vI 0, vB 0, vB 0] 136 0 false)), (15, some (AObj.cells [Value.slice none 0 0, vI 0, vI 0, vI 0, Value.int IntKind.u64 0] 144 0 false)), (16, some (AObj.cells [vP 15 0, vS 17 (List.length rs) 2, vI c, Value.slice none 0 0] 108 0 false)), (17, some (AObj.cells (rowsV rs) 57 0 false)), (18, some (AObj.cells [vS 19 (List.length ws) 1, vI c] 197 0 false)), (19, some (AObj.cells (wordsV ws) 142 0 false)), (20, some (AObj.cells [vI 0, vI 0, vI 0, vI 0, vI 0, vI 66, vI 66, vI 66, vI 66, vI 0, vI 0, Value.bool false, Value.bool true, Value.bool false, vP 16 0, vP 18 0, vI 0, vI 0, vI 0, vI (rows - 1), vI 0, vI 0, vI 0, vI 0, vI 0, vI 0, vI 0, vI 0, vI 0, vI 0, vI 0, Value.bool false, Value.bool false, Value.bool false, vI 0, vI 0, Value.bool false, vR 0] 104 0 false)), (21, some (AObj.cells [Value.int IntKind.u32 96] 50 0 false)), (22, some (AObj.cells [Value.int IntKind.u32 32] 50 0 false)), (23, some (AObj.cells [Value.int IntKind.u32 32] 50 0 false)), (24, some (AObj.cells [vI 4, vI 20, vI 1, vI 5, vI 6, vI 7, vI 25, vI 47, vI 66, vI 1000, vI 1002, vI 1003, vI 1004, vI 1006, vI 1047, vI 1048, vI 1049, vI 2004] 205 0 false)), (25, some (AObj.cells [Value.int IntKind.u32 96] 50 0 false)), (26, some (AObj.cells [Value.int IntKind.u32 96] 50 0 false)), (27, some (AObj.cells [vI 4, vI 20, vI 1, vI 5, vI 6, vI 7, vI 25, vI 47, vI 66, vI 1000, vI 1002, vI 1003, vI 1004, vI 1006, vI 1047, vI 1048, vI 1049, vI 2004] 205 0 false)), (28, some (AObj.cells [vP 14 0, vP 13 0, vP 20 0, vI 0, Value.int IntKind.u32 96, Value.string { data := #[] }, Value.pointer none, Value.slice none 0 0, Value.slice none 0 0] 92 0 false))])) := by kernel_rfl

theorem termNew_no1_vc (rows c lines p : Int) (K : Value → AH → Prop) : vcFn Tryz.prog G E C6 5 Tryz.f23 [vI rows, vI c, vI lines, vI p] (bas 8) [.run 4, .call (Unit) (fun (_x : Unit) (h : AH) => (Value.tuple { toList := [Value.pointer none, vI 1] }, h)), .run 5, .call (Unit) (fun (_x : Unit) (h : AH) => (Value.tuple { toList := [Value.pointer none, vI 1] }, h))] K = (∃ (_x : Unit), CallOk Tryz.prog G 39 [vI rows, vI c, vI lines] (bas 8) (Value.tuple { toList := [Value.pointer none, vI 1] }) (mkH 8 []) ∧ ∃ (_x : Unit), CallOk Tryz.prog G 40 [vI p] (mkH 8 []) (Value.tuple { toList := [Value.pointer none, vI 1] }) (mkH 8 []) ∧ K (Value.tuple { toList := [Value.pointer none, vI 1] }) (mkH 8 [])) := by kernel_rfl

theorem termNew_no2_vc (rows c lines p : Int) (K : Value → AH → Prop) : vcFn Tryz.prog G E C6 5 Tryz.f23 [vI rows, vI c, vI lines, vI p] (bas 8) [.run 4, .call (Unit) (fun (_x : Unit) (h : AH) => (Value.tuple { toList := [Value.pointer none, vI 1] }, h)), .run 5, .call (Unit) (fun (_x : Unit) (_x_1 : AH) => (Value.tuple { toList := [vP 8 0, vI 0] }, mkH 9 [(8, some (AObj.cells (parserV p) 136 0 false))]))] K = (∃ (_x : Unit), CallOk Tryz.prog G 39 [vI rows, vI c, vI lines] (bas 8) (Value.tuple { toList := [Value.pointer none, vI 1] }) (mkH 8 []) ∧ ∃ (_x : Unit), CallOk Tryz.prog G 40 [vI p] (mkH 8 []) (Value.tuple { toList := [vP 8 0, vI 0] }) (mkH 9 [(8, some (AObj.cells [vB 0, Value.slice none 0 0, Value.slice none 0 0, Value.slice none 0 0, vB 0, Value.bool false, Value.bool false, vI p, vI 0, vR 0, vI 0, vI 0, vB 0, vB 0] 136 0 false))]) ∧ K (Value.tuple { toList := [Value.pointer none, vI 1] }) (mkH 9 [(8, some (AObj.cells [vB 0, Value.slice none 0 0, Value.slice none 0 0, Value.slice none 0 0, vB 0, Value.bool false, Value.bool false, vI p, vI 0, vR 0, vI 0, vI 0, vB 0, vB 0] 136 0 false))])) := by kernel_rfl

theorem termNew_no3_vc (rows c lines p : Int) (rs : List Row) (ws : List Int) (K : Value → AH → Prop) : vcFn Tryz.prog G E C6 5 Tryz.f23 [vI rows, vI c, vI lines, vI p] (bas 8) [.run 4, .call (Unit) (fun (_x : Unit) (_h : AH) => (Value.tuple { toList := [vP 13 0, vI 0] }, mkH 14 (screenL 8 rows c lines rs ws))), .run 5, .call (Unit) (fun (_x : Unit) (h : AH) => (Value.tuple { toList := [Value.pointer none, vI 1] }, h))] K = (∃ (_x : Unit), CallOk Tryz.prog G 39 [vI rows, vI c, vI lines] (bas 8) (Value.tuple { toList := [vP 13 0, vI 0] }) (mkH 14 [(8, some (AObj.cells [Value.slice none 0 0, vI lines, vI 0, vI 0, Value.int IntKind.u64 0] 144 0 false)), (9, some (AObj.cells [vP 8 0, vS 10 (List.length rs) 2, vI c, Value.slice none 0 0] 108 0 false)), (10, some (AObj.cells (rowsV rs) 57 0 false)), (11, some (AObj.cells [vS 12 (List.length ws) 1, vI c] 197 0 false)), (12, some (AObj.cells (wordsV ws) 142 0 false)), (13, some (AObj.cells [vI 0, vI 0, vI 0, vI 0, vI 0, vI 66, vI 66, vI 66, vI 66, vI 0, vI 0, Value.bool false, Value.bool true, Value.bool false, vP 9 0, vP 11 0, vI 0, vI 0, vI 0, vI (rows - 1), vI 0, vI 0, vI 0, vI 0, vI 0, vI 0, vI 0, vI 0, vI 0, vI 0, vI 0, Value.bool false, Value.bool false, Value.bool false, vI 0, vI 0, Value.bool false, vR 0] 104 0 false))]) ∧ ∃ (_x : Unit), CallOk Tryz.prog G 40 [vI p] (mkH 14 [(8, some (AObj.cells [Value.slice none 0 0, vI lines, vI 0, vI 0, Value.int IntKind.u64 0] 144 0 false)), (9, some (AObj.cells [vP 8 0, vS 10 (List.length rs) 2, vI c, Value.slice none 0 0] 108 0 false)), (10, some (AObj.cells (rowsV rs) 57 0 false)), (11, some (AObj.cells [vS 12 (List.length ws) 1, vI c] 197 0 false)), (12, some (AObj.cells (wordsV ws) 142 0 false)), (13, some (AObj.cells [vI 0, vI 0, vI 0, vI 0, vI 0, vI 66, vI 66, vI 66, vI 66, vI 0, vI 0, Value.bool false, Value.bool true, Value.bool false, vP 9 0, vP 11 0, vI 0, vI 0, vI 0, vI (rows - 1), vI 0, vI 0, vI 0, vI 0, vI 0, vI 0, vI 0, vI 0, vI 0, vI 0, vI 0, Value.bool false, Value.bool false, Value.bool false, vI 0, vI 0, Value.bool false, vR 0] 104 0 false))]) (Value.tuple { toList := [Value.pointer none, vI 1] }) (mkH 14 [(8, some (AObj.cells [Value.slice none 0 0, vI lines, vI 0, vI 0, Value.int IntKind.u64 0] 144 0 false)), (9, some (AObj.cells [vP 8 0, vS 10 (List.length rs) 2, vI c, Value.slice none 0 0] 108 0 false)), (10, some (AObj.cells (rowsV rs) 57 0 false)), (11, some (AObj.cells [vS 12 (List.length ws) 1, vI c] 197 0 false)), (12, some (AObj.cells (wordsV ws) 142 0 false)), (13, some (AObj.cells [vI 0, vI 0, vI 0, vI 0, vI 0, vI 66, vI 66, vI 66, vI 66, vI 0, vI 0, Value.bool false, Value.bool true, Value.bool false, vP 9 0, vP 11 0, vI 0, vI 0, vI 0, vI (rows - 1), vI 0, vI 0, vI 0, vI 0, vI 0, vI 0, vI 0, vI 0, vI 0, vI 0, vI 0, Value.bool false, Value.bool false, Value.bool false, vI 0, vI 0, Value.bool false, vR 0] 104 0 false))]) ∧ K (Value.tuple { toList := [Value.pointer none, vI 1] }) (mkH 14 [(8, some (AObj.cells [Value.slice none 0 0, vI lines, vI 0, vI 0, Value.int IntKind.u64 0] 144 0 false)), (9, some (AObj.cells [vP 8 0, vS 10 (List.length rs) 2, vI c, Value.slice none 0 0] 108 0 false)), (10, some (AObj.cells (rowsV rs) 57 0 false)), (11, some (AObj.cells [vS 12 (List.length ws) 1, vI c] 197 0 false)), (12, some (AObj.cells (wordsV ws) 142 0 false)), (13, some (AObj.cells [vI 0, vI 0, vI 0, vI 0, vI 0, vI 66, vI 66, vI 66, vI 66, vI 0, vI 0, Value.bool false, Value.bool true, Value.bool false, vP 9 0, vP 11 0, vI 0, vI 0, vI 0, vI (rows - 1), vI 0, vI 0, vI 0, vI 0, vI 0, vI 0, vI 0, vI 0, vI 0, vI 0, vI 0, Value.bool false, Value.bool false, Value.bool false, vI 0, vI 0, Value.bool false, vR 0] 104 0 false))])) := by kernel_rfl
end Go.Proofs.YtoaniefcobkaiaaGreatDoor
end
section
set_option maxRecDepth 100000
open Go Go.Ev Go.Proofs
namespace Go.Proofs.YtoaniefcobkaiaaGreatDoor
def payFits (p : Int) : Bool := decide (1 ≤ p) && decide (p ≤ 65536)
theorem screenH_oq (rows c lines : Int) (rs : List Row) (ws : List Int) : (List.range ((screenH rows c lines rs ws).next - 8)).all (fun i => oqB (fun b => Nat.ble 8 b) ((screenH rows c lines rs ws).get (8 + i))) = true := by
  show (oqB _ (some (ringO lines)) && (oqB _ (some (.cells (pageV (vP 8 0) (vS 10 rs.length 2) c (.slice none 0 0)) 108 0 false)) && (oqB _ (some (.cells (rowsV rs) 57 0 false)) && (oqB _ (some (.cells [vS 12 ws.length 1, vI c] 197 0 false)) && (oqB _ (some (.cells (wordsV ws) 142 0 false)) && (oqB _ (some (.cells (screenV (vP 9 0) (vP 11 0) rows) 104 0 false)) && true)))))) = true
  simp only [oqB, oq, cls_vq (wordsV_cl ws), cls_vq (rowsV_cl rs), Bool.and_true, Bool.true_and]; rfl
theorem termNew_no (rows c lines p : Int) (hf : (pageFits rows c lines && payFits p) = false) (h : AH) : CallOk Tryz.prog G 23 [vI rows, vI c, vI lines, vI p] h (.tuple ⟨[.pointer none, vI 1]⟩) h := by
  by_cases h1 : pageFits rows c lines = true
  · have h2 : ¬(1 ≤ p ∧ p ≤ 65536) := by
      rintro ⟨h3, h4⟩
      simp [h1, payFits, h3, h4] at hf
    refine pure_fn C6_ok (fn := Tryz.f23) (by kernel_rfl) (by kernel_rfl) (of_eq (termNew_no3_vc rows c lines p (List.replicate rows.toNat (blankRow c)) (stopsAt (nWords c) c.toNat) _) ⟨(), (screenNew_c rows c lines h1).call' full (fn := Tryz.f39) (by kernel_rfl) (by kernel_rfl), (), parseNew_no p (by omega) _, ?_⟩) rfl rfl h
    exact FinR.drop' rfl (by kernel_rfl) rfl (by simp [mkH])
  · simp only [Bool.not_eq_true] at h1
    by_cases h2 : 1 ≤ p ∧ p ≤ 65536
    · refine pure_fn C6_ok (fn := Tryz.f23) (by kernel_rfl) (by kernel_rfl) (of_eq (termNew_no2_vc rows c lines p _) ⟨(), screenNew_no rows c lines h1 _, (), (parseNew_c p h2.1 h2.2).call' full (fn := Tryz.f40) (by kernel_rfl) (by kernel_rfl), ?_⟩) rfl rfl h
      exact FinR.drop' rfl (by kernel_rfl) rfl (by simp [mkH])
    · refine pure_fn C6_ok (fn := Tryz.f23) (by kernel_rfl) (by kernel_rfl) (of_eq (termNew_no1_vc rows c lines p _) ⟨(), screenNew_no rows c lines h1 _, (), parseNew_no p (by omega) _, ?_⟩) rfl rfl h
      exact FinR.drop' rfl (by kernel_rfl) rfl (by simp [mkH])
end Go.Proofs.YtoaniefcobkaiaaGreatDoor
namespace Go.Proofs.YtoaniefcobkaiaaGreatDoor
theorem rowsObj_ren (ρ : Nat → Nat) (l : List Row) (e : TypeId) : renO ρ (.cells (rowsV l) e 0 false) = .cells (rowsV l) e 0 false := renO_cl (rowsV_cl l)
theorem wordsObj_ren (ρ : Nat → Nat) (l : List Int) (e : TypeId) : renO ρ (.cells (wordsV l) e 0 false) = .cells (wordsV l) e 0 false := renO_cl (wordsV_cl l)
theorem parse_at (rows c lines p : Int) (rs : List Row) (ws : List Int) (h1 : 1 ≤ p) (h2 : p ≤ 65536) : CallOk Tryz.prog G 40 [vI p] (mkH 14 (screenL 8 rows c lines rs ws)) (.tuple ⟨[vP 14 0, vI 0]⟩) (mkH 15 (screenL 8 rows c lines rs ws ++ [(14, some (.cells (parserV p) 136 0 false))])) := by
  refine ((parseNew_c p h1 h2).at2 (em := []) rfl (by kernel_rfl) (by kernel_rfl) (fun b hb => mkH_top rfl hb) (by kernel_rfl) trivial (by kernel_rfl) (by kernel_rfl) (by kernel_rfl) (fun b hb => mkH_top rfl hb) (by kernel_rfl) rfl rfl rfl rfl rfl ?_ (fun b hb => mkH_top rfl hb) (fun b hb => mkH_top rfl hb)).call' full (fn := Tryz.f40) (by kernel_rfl) (by kernel_rfl)
  refine ⟨?_, ?_, ?_, ?_, ?_, ?_, ?_, ?_, ?_, ?_, ?_, ?_, ?_, ?_, ?_, trivial⟩
  iterate 15 (show _ = _; kernel_rfl)
theorem screen_at (rows c lines p : Int) (rs : List Row) (ws : List Int) (hc : CallsOk Tryz.prog G 39 [vI rows, vI c, vI 0] (bas 8) (.tuple ⟨[vP 13 0, vI 0]⟩) (screenH rows c 0 rs ws)) : CallOk Tryz.prog G 39 [vI rows, vI c, vI 0] (mkH 15 (screenL 8 rows c lines rs ws ++ [(14, some (.cells (parserV p) 136 0 false))])) (.tuple ⟨[vP 20 0, vI 0]⟩) (mkH 21 (screenL 8 rows c lines rs ws ++ (14, some (.cells (parserV p) 136 0 false)) :: screenL 15 rows c 0 rs ws)) := by
  refine (hc.at2 (em := []) rfl (by kernel_rfl) (by kernel_rfl) (fun b hb => mkH_top rfl hb) (by kernel_rfl) trivial (by kernel_rfl) (screenH_oq rows c 0 rs ws) (by kernel_rfl) (fun b hb => mkH_top rfl hb) (by kernel_rfl) rfl rfl rfl rfl rfl ?_ (fun b hb => mkH_top rfl hb) (fun b hb => mkH_top rfl hb)).call' full (fn := Tryz.f39) (by kernel_rfl) (by kernel_rfl)
  refine ⟨?_, ?_, ?_, ?_, ?_, ?_, ?_, ?_, ?_, ?_, ?_, ?_, ?_, ?_, ?_, ?_, ?_, ?_, ?_, ?_, ?_, trivial⟩
  iterate 17 (show _ = _; kernel_rfl)
  · exact of_eq (b := some (AObj.cells (rowsV rs) 57 0 false) = some (renO (fRho 8 [] 15) (AObj.cells (rowsV rs) 57 0 false))) (by kernel_rfl) (congrArg some (renO_cl (rowsV_cl _))).symm
  · show _ = _; kernel_rfl
  · exact of_eq (b := some (AObj.cells (wordsV ws) 142 0 false) = some (renO (fRho 8 [] 15) (AObj.cells (wordsV ws) 142 0 false))) (by kernel_rfl) (congrArg some (renO_cl (wordsV_cl _))).symm
  · show _ = _; kernel_rfl
/-- a new terminal: its blocks -/
def termV (host s1 s2 : Value) : List Value := [host, s1, s2, vI 0, .int .u32 96, .string noText, .pointer none, .slice none 0 0, .slice none 0 0]
noncomputable def termH (rows c lines p : Int) (rs : List Row) (ws : List Int) : AH := mkH 22 (screenL 8 rows c lines rs ws ++ (14, some (.cells (parserV p) 136 0 false)) :: (screenL 15 rows c 0 rs ws ++ [(21, some (.cells (termV (vP 14 0) (vP 13 0) (vP 20 0)) 92 0 false))]))
theorem termNew_c (rows c lines p : Int) (hf : (pageFits rows c lines && payFits p) = true) : CallsOk Tryz.prog G 23 [vI rows, vI c, vI lines, vI p] (bas 8) (.tuple ⟨[vP 21 0, vI 0]⟩) (termH rows c lines p (List.replicate rows.toNat (blankRow c)) (stopsAt (nWords c) c.toNat)) := by
  simp only [Bool.and_eq_true, payFits, decide_eq_true_eq] at hf
  obtain ⟨hf, hp1, hp2⟩ := hf
  have hf0 : pageFits rows c 0 = true := by
    simp only [pageFits, Bool.and_eq_true] at hf ⊢
    exact ⟨⟨hf.1.1, rfl⟩, rfl⟩
  have hs := screenNew_c rows c lines hf
  have hs0 := screenNew_c rows c 0 hf0
  generalize stopsAt (nWords c) c.toNat = ws at *
  generalize List.replicate rows.toNat (blankRow c) = rs at *
  refine (vcFn_sound full C6_ok (n := 5) (f := 23) (fn := Tryz.f23) (by kernel_rfl) (of_eq (termNew_vc rows c lines p rs ws (fun v h' => FinR 8 v h' _ _)) ⟨(), hs.call' full (fn := Tryz.f39) (by kernel_rfl) (by kernel_rfl), (), parse_at rows c lines p rs ws hp1 hp2, (), screen_at rows c lines p rs ws hs0, ?_⟩)).ok fun v h' hq => hq
  refine FinR.keep (keep := [8, 9, 10, 11, 12, 13, 14, 15, 16, 17, 18, 19, 20, 28]) (by kernel_rfl) rfl ⟨rfl, rfl, rfl, rfl, rfl, rfl, rfl, rfl, ?_, ?_, ?_, ?_, ?_, ?_, ?_, ?_, ?_, ?_, ?_, ?_, ?_, ?_, trivial⟩ ⟨trivial, trivial, trivial, trivial, trivial, trivial, trivial, trivial, ?_, ?_, ?_, ?_, ?_, ?_, ?_, ?_, ?_, ?_, ?_, ?_, ?_, ?_, trivial⟩ (fun c hc => mkH_top rfl hc) (by kernel_rfl) (by kernel_rfl) rfl
  · show _ = _; kernel_rfl
  · show _ = _; kernel_rfl
  · exact (congrArg some (renO_cl (rowsV_cl _))).symm
  · show _ = _; kernel_rfl
  · exact (congrArg some (renO_cl (wordsV_cl _))).symm
  · show _ = _; kernel_rfl
  · show _ = _; kernel_rfl
  · show _ = _; kernel_rfl
  · show _ = _; kernel_rfl
  · exact (congrArg some (renO_cl (rowsV_cl _))).symm
  · show _ = _; kernel_rfl
  · exact (congrArg some (renO_cl (wordsV_cl _))).symm
  · show _ = _; kernel_rfl
  · show _ = _; kernel_rfl
  · show _ = _; kernel_rfl
  · show _ = _; kernel_rfl
  · exact cls_vq (rowsV_cl _)
  · show _ = _; kernel_rfl
  · exact cls_vq (wordsV_cl _)
  · show _ = _; kernel_rfl
  · show _ = _; kernel_rfl
  · show _ = _; kernel_rfl
  · show _ = _; kernel_rfl
  · exact cls_vq (rowsV_cl _)
  · show _ = _; kernel_rfl
  · exact cls_vq (wordsV_cl _)
  · show _ = _; kernel_rfl
  · show _ = _; kernel_rfl
end Go.Proofs.YtoaniefcobkaiaaGreatDoor
end
section
set_option maxRecDepth 100000
open Go Go.Ev Go.Proofs
namespace Go.Proofs.YtoaniefcobkaiaaGreatDoor
noncomputable def trueLow (v : Value) (h : AH) : Bool := match v with | .bool b => b && lows 8 h && Nat.ble 8 h.next | _ => false
theorem awake_vc : vcFn Tryz.prog G E C0 5 Tryz.f6 [] (bas 8) [] (fun v h' => trueLow v h' = true) = (true = true) := by kernel_rfl
theorem awake_ok (h : AH) : CallOk Tryz.prog G 6 [] h (.bool true) h := by
  have h1 : vcFn Tryz.prog G E C0 5 Tryz.f6 [] (bas 8) [] (fun v h' => trueLow v h' = true) := of_eq awake_vc rfl
  have h2 := (vcFn_sound full C0_ok (f := 6) (fn := Tryz.f6) (by kernel_rfl) h1).ok (v2 := .bool true) (h2 := bas 8) fun v h' hq => by
    unfold trueLow at hq
    split at hq
    · simp only [Bool.and_eq_true, Nat.ble_eq] at hq
      rename_i b
      obtain ⟨⟨rfl, hl⟩, hn⟩ := hq
      exact FinR.drop' rfl hl rfl hn
    · cases hq
  exact (CallsOk.lift h2 rfl rfl h).call' full (fn := Tryz.f6) (by kernel_rfl) (by kernel_rfl)
end Go.Proofs.YtoaniefcobkaiaaGreatDoor
end
section
set_option maxRecDepth 100000
open Go Go.Ev Go.Proofs
namespace Go.Proofs.YtoaniefcobkaiaaGreatDoor
theorem right18_vc (r c l p : Int) (K : Value → AH → Prop) : vcFn Tryz.prog G E C6 5 Tryz.f24 [vI r, vI c, vI l, vI p] (bas 8) [.run 2, .bool [.run 1, .bool [.run 2, .bool [.run 2, .bool [.run 2, .bool [] []] []] []] []] []] K = ((fits r c = true → (decide (l ≥ 0) = true → (decide (l ≤ 100000) = true → (decide (p ≥ 1) = true → (decide (p ≤ 65536) = true → K (Value.bool true) (mkH 8 [])) ∧ (decide (p ≤ 65536) = false → K (Value.bool false) (mkH 8 []))) ∧ (decide (p ≥ 1) = false → K (Value.bool false) (mkH 8 []))) ∧ (decide (l ≤ 100000) = false → K (Value.bool false) (mkH 8 []))) ∧ (decide (l ≥ 0) = false → K (Value.bool false) (mkH 8 []))) ∧ (fits r c = false → K (Value.bool false) (mkH 8 []))) := by kernel_rfl
end Go.Proofs.YtoaniefcobkaiaaGreatDoor
end
section
set_option maxRecDepth 100000
open Go Go.Ev Go.Proofs
namespace Go.Proofs.YtoaniefcobkaiaaGreatDoor
def termFits (r c l p : Int) : Bool := pageFits r c l && payFits p
theorem right18_ok (r c l p : Int) (h : AH) : CallOk Tryz.prog G 24 [vI r, vI c, vI l, vI p] h (.bool (termFits r c l p)) h := by
  refine pure_fn C6_ok (fn := Tryz.f24) (by kernel_rfl) (by kernel_rfl) (of_eq (right18_vc r c l p _) ?_) rfl rfl h
  repeat' (first | refine And.intro (fun _ => ?_) (fun _ => ?_))
  all_goals exact FinR.drop' (by simp_all [termFits, pageFits, payFits] <;> omega) (by kernel_rfl) rfl (by simp [mkH])
def rightS : List Value → Option Value
  | [.int .i64 r, .int .i64 c, .int .i64 l, .int .i64 p] => some (.bool (termFits r c l p))
  | _ => none
def awakeS : List Value → Option Value
  | [] => some (.bool true)
  | _ => none
noncomputable def CB : Caller := withPure 24 rightS (withPure 6 awakeS C6)
theorem CB_ok : CallerOk Tryz.prog G CB := by
  refine withPure_ok (withPure_ok C6_ok ?_) ?_ <;> intro args v hs h
  · unfold awakeS at hs; split at hs <;> cases hs; exact awake_ok h
  · unfold rightS at hs; split at hs <;> cases hs; exact right18_ok _ _ _ _ h
end Go.Proofs.YtoaniefcobkaiaaGreatDoor
end
section
set_option maxRecDepth 100000
open Go Go.Ev Go.Proofs
namespace Go.Proofs.YtoaniefcobkaiaaGreatDoor
theorem termNone_no_vc (r c l p : Int) (K : Value → AH → Prop) : vcFn Tryz.prog G E CB 5 Tryz.f5 [Value.agg { toList := [vI r, vI c, vI l] }, vI p, UNK] (bas 8) [.run 5, .bool [.run 1, .bool [.run 7, .call (Unit) (fun (_x : Unit) (_x_1 : AH) => (Value.tuple { toList := [Value.pointer none, vI 1] }, mkH 9 [(8, some (AObj.cells [vI r, vI c, vI l] 74 0 false))])), .run 10, .bool [] []] [.run 6, .call (Unit) (fun (_x : Unit) (_x_1 : AH) => (Value.tuple { toList := [Value.pointer none, vI 1] }, mkH 9 [(8, some (AObj.cells [vI r, vI c, vI l] 74 0 false))])), .run 10, .bool [] []]] [.run 7, .call (Unit) (fun (_x : Unit) (_x_1 : AH) => (Value.tuple { toList := [Value.pointer none, vI 1] }, mkH 9 [(8, some (AObj.cells [vI r, vI c, vI l] 74 0 false))])), .run 10, .bool [] []]] K = ((decide (r > 30) = true → (decide (r ≤ 1000) = true → ∃ (_x : Unit), CallOk Tryz.prog G 23 [vI 30, vI c, vI l, vI p] (mkH 9 [(8, some (AObj.cells [vI r, vI c, vI l] 74 0 false))]) (Value.tuple { toList := [Value.pointer none, vI 1] }) (mkH 9 [(8, some (AObj.cells [vI r, vI c, vI l] 74 0 false))]) ∧ (termFits 30 c l p = true → K (Value.bool false) (mkH 9 [(8, some (AObj.cells [vI r, vI c, vI l] 74 0 false))])) ∧ (termFits 30 c l p = false → K (Value.bool true) (mkH 29 [(8, some (AObj.cells [vI r, vI c, vI l] 74 0 false)), (9, some (AObj.cells [vI 0, vI 0] 35 0 false)), (10, some (AObj.cells [vI 0, vI 0, vI 0, vI 0, vI 0, vI 0, vI 0, vI 0, vI 0, vI 0, vI 0, vI 0, vI 0, Value.bool false, Value.bool false, Value.bool false, vI 0, vI 0, Value.bool false] 46 0 false)), (11, some (AObj.cells [vI 0, vI 0] 35 0 false)), (12, some (AObj.cells [vI 0, vI 0] 35 0 false)), (13, some (AObj.cells [vI 0, vI 0] 35 0 false)), (14, some (AObj.cells [Value.int IntKind.u32 96] 50 0 false)), (15, some (AObj.cells [Value.int IntKind.u32 96] 50 0 false)), (16, some (AObj.cells [Value.int IntKind.u32 32] 50 0 false)), (17, some (AObj.cells [Value.int IntKind.u32 32] 50 0 false)), (18, some (AObj.cells [vI 4, vI 20, vI 1, vI 5, vI 6, vI 7, vI 25, vI 47, vI 66, vI 1000, vI 1002, vI 1003, vI 1004, vI 1006, vI 1047, vI 1048, vI 1049, vI 2004] 205 0 false)), (19, some (AObj.cells [Value.int IntKind.u32 96] 50 0 false)), (20, some (AObj.cells [Value.int IntKind.u32 96] 50 0 false)), (21, some (AObj.cells [vI 4, vI 20, vI 1, vI 5, vI 6, vI 7, vI 25, vI 47, vI 66, vI 1000, vI 1002, vI 1003, vI 1004, vI 1006, vI 1047, vI 1048, vI 1049, vI 2004] 205 0 false)), (22, some (AObj.cells [Value.int IntKind.u32 96] 50 0 false)), (23, some (AObj.cells [Value.int IntKind.u32 32] 50 0 false)), (24, some (AObj.cells [Value.int IntKind.u32 32] 50 0 false)), (25, some (AObj.cells [vI 4, vI 20, vI 1, vI 5, vI 6, vI 7, vI 25, vI 47, vI 66, vI 1000, vI 1002, vI 1003, vI 1004, vI 1006, vI 1047, vI 1048, vI 1049, vI 2004] 205 0 false)), (26, some (AObj.cells [Value.int IntKind.u32 96] 50 0 false)), (27, some (AObj.cells [Value.int IntKind.u32 96] 50 0 false)), (28, some (AObj.cells [vI 4, vI 20, vI 1, vI 5, vI 6, vI 7, vI 25, vI 47, vI 66, vI 1000, vI 1002, vI 1003, vI 1004, vI 1006, vI 1047, vI 1048, vI 1049, vI 2004] 205 0 false))]))) ∧ (decide (r ≤ 1000) = false → ∃ (_x : Unit), CallOk Tryz.prog G 23 [vI r, vI c, vI l, vI p] (mkH 9 [(8, some (AObj.cells [vI r, vI c, vI l] 74 0 false))]) (Value.tuple { toList := [Value.pointer none, vI 1] }) (mkH 9 [(8, some (AObj.cells [vI r, vI c, vI l] 74 0 false))]) ∧ (termFits r c l p = true → K (Value.bool false) (mkH 9 [(8, some (AObj.cells [vI r, vI c, vI l] 74 0 false))])) ∧ (termFits r c l p = false → K (Value.bool true) (mkH 29 [(8, some (AObj.cells [vI r, vI c, vI l] 74 0 false)), (9, some (AObj.cells [vI 0, vI 0] 35 0 false)), (10, some (AObj.cells [vI 0, vI 0, vI 0, vI 0, vI 0, vI 0, vI 0, vI 0, vI 0, vI 0, vI 0, vI 0, vI 0, Value.bool false, Value.bool false, Value.bool false, vI 0, vI 0, Value.bool false] 46 0 false)), (11, some (AObj.cells [vI 0, vI 0] 35 0 false)), (12, some (AObj.cells [vI 0, vI 0] 35 0 false)), (13, some (AObj.cells [vI 0, vI 0] 35 0 false)), (14, some (AObj.cells [Value.int IntKind.u32 96] 50 0 false)), (15, some (AObj.cells [Value.int IntKind.u32 96] 50 0 false)), (16, some (AObj.cells [Value.int IntKind.u32 32] 50 0 false)), (17, some (AObj.cells [Value.int IntKind.u32 32] 50 0 false)), (18, some (AObj.cells [vI 4, vI 20, vI 1, vI 5, vI 6, vI 7, vI 25, vI 47, vI 66, vI 1000, vI 1002, vI 1003, vI 1004, vI 1006, vI 1047, vI 1048, vI 1049, vI 2004] 205 0 false)), (19, some (AObj.cells [Value.int IntKind.u32 96] 50 0 false)), (20, some (AObj.cells [Value.int IntKind.u32 96] 50 0 false)), (21, some (AObj.cells [vI 4, vI 20, vI 1, vI 5, vI 6, vI 7, vI 25, vI 47, vI 66, vI 1000, vI 1002, vI 1003, vI 1004, vI 1006, vI 1047, vI 1048, vI 1049, vI 2004] 205 0 false)), (22, some (AObj.cells [Value.int IntKind.u32 96] 50 0 false)), (23, some (AObj.cells [Value.int IntKind.u32 32] 50 0 false)), (24, some (AObj.cells [Value.int IntKind.u32 32] 50 0 false)), (25, some (AObj.cells [vI 4, vI 20, vI 1, vI 5, vI 6, vI 7, vI 25, vI 47, vI 66, vI 1000, vI 1002, vI 1003, vI 1004, vI 1006, vI 1047, vI 1048, vI 1049, vI 2004] 205 0 false)), (26, some (AObj.cells [Value.int IntKind.u32 96] 50 0 false)), (27, some (AObj.cells [Value.int IntKind.u32 96] 50 0 false)), (28, some (AObj.cells [vI 4, vI 20, vI 1, vI 5, vI 6, vI 7, vI 25, vI 47, vI 66, vI 1000, vI 1002, vI 1003, vI 1004, vI 1006, vI 1047, vI 1048, vI 1049, vI 2004] 205 0 false))])))) ∧ (decide (r > 30) = false → ∃ (_x : Unit), CallOk Tryz.prog G 23 [vI r, vI c, vI l, vI p] (mkH 9 [(8, some (AObj.cells [vI r, vI c, vI l] 74 0 false))]) (Value.tuple { toList := [Value.pointer none, vI 1] }) (mkH 9 [(8, some (AObj.cells [vI r, vI c, vI l] 74 0 false))]) ∧ (termFits r c l p = true → K (Value.bool false) (mkH 9 [(8, some (AObj.cells [vI r, vI c, vI l] 74 0 false))])) ∧ (termFits r c l p = false → K (Value.bool true) (mkH 29 [(8, some (AObj.cells [vI r, vI c, vI l] 74 0 false)), (9, some (AObj.cells [vI 0, vI 0] 35 0 false)), (10, some (AObj.cells [vI 0, vI 0, vI 0, vI 0, vI 0, vI 0, vI 0, vI 0, vI 0, vI 0, vI 0, vI 0, vI 0, Value.bool false, Value.bool false, Value.bool false, vI 0, vI 0, Value.bool false] 46 0 false)), (11, some (AObj.cells [vI 0, vI 0] 35 0 false)), (12, some (AObj.cells [vI 0, vI 0] 35 0 false)), (13, some (AObj.cells [vI 0, vI 0] 35 0 false)), (14, some (AObj.cells [Value.int IntKind.u32 96] 50 0 false)), (15, some (AObj.cells [Value.int IntKind.u32 96] 50 0 false)), (16, some (AObj.cells [Value.int IntKind.u32 32] 50 0 false)), (17, some (AObj.cells [Value.int IntKind.u32 32] 50 0 false)), (18, some (AObj.cells [vI 4, vI 20, vI 1, vI 5, vI 6, vI 7, vI 25, vI 47, vI 66, vI 1000, vI 1002, vI 1003, vI 1004, vI 1006, vI 1047, vI 1048, vI 1049, vI 2004] 205 0 false)), (19, some (AObj.cells [Value.int IntKind.u32 96] 50 0 false)), (20, some (AObj.cells [Value.int IntKind.u32 96] 50 0 false)), (21, some (AObj.cells [vI 4, vI 20, vI 1, vI 5, vI 6, vI 7, vI 25, vI 47, vI 66, vI 1000, vI 1002, vI 1003, vI 1004, vI 1006, vI 1047, vI 1048, vI 1049, vI 2004] 205 0 false)), (22, some (AObj.cells [Value.int IntKind.u32 96] 50 0 false)), (23, some (AObj.cells [Value.int IntKind.u32 32] 50 0 false)), (24, some (AObj.cells [Value.int IntKind.u32 32] 50 0 false)), (25, some (AObj.cells [vI 4, vI 20, vI 1, vI 5, vI 6, vI 7, vI 25, vI 47, vI 66, vI 1000, vI 1002, vI 1003, vI 1004, vI 1006, vI 1047, vI 1048, vI 1049, vI 2004] 205 0 false)), (26, some (AObj.cells [Value.int IntKind.u32 96] 50 0 false)), (27, some (AObj.cells [Value.int IntKind.u32 96] 50 0 false)), (28, some (AObj.cells [vI 4, vI 20, vI 1, vI 5, vI 6, vI 7, vI 25, vI 47, vI 66, vI 1000, vI 1002, vI 1003, vI 1004, vI 1006, vI 1047, vI 1048, vI 1049, vI 2004] 205 0 false))])))) := by kernel_rfl

theorem termNone_vc (r c l p : Int) (K : Value → AH → Prop) : vcFn Tryz.prog G E CB 5 Tryz.f5 [Value.agg { toList := [vI r, vI c, vI l] }, vI p, UNK] (bas 8) [.run 5, .bool [.run 1, .bool [.run 7, .call (Int × List Row × List Int) (fun (x : Int × List Row × List Int) (_x_1 : AH) => (Value.tuple { toList := [vP 22 0, vI 0] }, mkH 23 ((8, some (AObj.cells [vI r, vI c, vI l] 74 0 false)) :: (screenL 9 (Prod.fst x) c l (Prod.fst (Prod.snd x)) (Prod.snd (Prod.snd x)) ++ (15, some (AObj.cells (parserV p) 136 0 false)) :: (screenL 16 (Prod.fst x) c 0 (Prod.fst (Prod.snd x)) (Prod.snd (Prod.snd x)) ++ [(22, some (AObj.cells (termV (vP 15 0) (vP 14 0) (vP 21 0)) 92 0 false))]))))), .run 10, .bool [] []] [.run 6, .call (Int × List Row × List Int) (fun (x : Int × List Row × List Int) (_x_1 : AH) => (Value.tuple { toList := [vP 22 0, vI 0] }, mkH 23 ((8, some (AObj.cells [vI r, vI c, vI l] 74 0 false)) :: (screenL 9 (Prod.fst x) c l (Prod.fst (Prod.snd x)) (Prod.snd (Prod.snd x)) ++ (15, some (AObj.cells (parserV p) 136 0 false)) :: (screenL 16 (Prod.fst x) c 0 (Prod.fst (Prod.snd x)) (Prod.snd (Prod.snd x)) ++ [(22, some (AObj.cells (termV (vP 15 0) (vP 14 0) (vP 21 0)) 92 0 false))]))))), .run 10, .bool [] []]] [.run 7, .call (Int × List Row × List Int) (fun (x : Int × List Row × List Int) (_x_1 : AH) => (Value.tuple { toList := [vP 22 0, vI 0] }, mkH 23 ((8, some (AObj.cells [vI r, vI c, vI l] 74 0 false)) :: (screenL 9 (Prod.fst x) c l (Prod.fst (Prod.snd x)) (Prod.snd (Prod.snd x)) ++ (15, some (AObj.cells (parserV p) 136 0 false)) :: (screenL 16 (Prod.fst x) c 0 (Prod.fst (Prod.snd x)) (Prod.snd (Prod.snd x)) ++ [(22, some (AObj.cells (termV (vP 15 0) (vP 14 0) (vP 21 0)) 92 0 false))]))))), .run 10, .bool [] []]] K = ((decide (r > 30) = true → (decide (r ≤ 1000) = true → ∃ (x : Int × List Row × List Int), CallOk Tryz.prog G 23 [vI 30, vI c, vI l, vI p] (mkH 9 [(8, some (AObj.cells [vI r, vI c, vI l] 74 0 false))]) (Value.tuple { toList := [vP 22 0, vI 0] }) (mkH 23 [(8, some (AObj.cells [vI r, vI c, vI l] 74 0 false)), (9, some (AObj.cells [Value.slice none 0 0, vI l, vI 0, vI 0, Value.int IntKind.u64 0] 144 0 false)), (10, some (AObj.cells [vP 9 0, vS 11 (List.length (Prod.fst (Prod.snd x))) 2, vI c, Value.slice none 0 0] 108 0 false)), (11, some (AObj.cells (rowsV (Prod.fst (Prod.snd x))) 57 0 false)), (12, some (AObj.cells [vS 13 (List.length (Prod.snd (Prod.snd x))) 1, vI c] 197 0 false)), (13, some (AObj.cells (wordsV (Prod.snd (Prod.snd x))) 142 0 false)), (14, some (AObj.cells [vI 0, vI 0, vI 0, vI 0, vI 0, vI 66, vI 66, vI 66, vI 66, vI 0, vI 0, Value.bool false, Value.bool true, Value.bool false, vP 10 0, vP 12 0, vI 0, vI 0, vI 0, vI (Prod.fst x - 1), vI 0, vI 0, vI 0, vI 0, vI 0, vI 0, vI 0, vI 0, vI 0, vI 0, vI 0, Value.bool false, Value.bool false, Value.bool false, vI 0, vI 0, Value.bool false, vR 0] 104 0 false)), (15, some (AObj.cells [vB 0, Value.slice none 0 0, Value.slice none 0 0, Value.slice none 0 0, vB 0, Value.bool false, Value.bool false, vI p, vI 0, vR 0, vI 0, vI 0, vB 0, vB 0] 136 0 false)), (16, some (AObj.cells [Value.slice none 0 0, vI 0, vI 0, vI 0, Value.int IntKind.u64 0] 144 0 false)), (17, some (AObj.cells [vP 16 0, vS 18 (List.length (Prod.fst (Prod.snd x))) 2, vI c, Value.slice none 0 0] 108 0 false)), (18, some (AObj.cells (rowsV (Prod.fst (Prod.snd x))) 57 0 false)), (19, some (AObj.cells [vS 20 (List.length (Prod.snd (Prod.snd x))) 1, vI c] 197 0 false)), (20, some (AObj.cells (wordsV (Prod.snd (Prod.snd x))) 142 0 false)), (21, some (AObj.cells [vI 0, vI 0, vI 0, vI 0, vI 0, vI 66, vI 66, vI 66, vI 66, vI 0, vI 0, Value.bool false, Value.bool true, Value.bool false, vP 17 0, vP 19 0, vI 0, vI 0, vI 0, vI (Prod.fst x - 1), vI 0, vI 0, vI 0, vI 0, vI 0, vI 0, vI 0, vI 0, vI 0, vI 0, vI 0, Value.bool false, Value.bool false, Value.bool false, vI 0, vI 0, Value.bool false, vR 0] 104 0 false)), (22, some (AObj.cells [vP 15 0, vP 14 0, vP 21 0, vI 0, Value.int IntKind.u32 96, Value.string noText, Value.pointer none, Value.slice none 0 0, Value.slice none 0 0] 92 0 false))]) ∧ (termFits 30 c l p = true → K (Value.bool true) (mkH 43 [(8, some (AObj.cells [vI r, vI c, vI l] 74 0 false)), (9, some (AObj.cells [Value.slice none 0 0, vI l, vI 0, vI 0, Value.int IntKind.u64 0] 144 0 false)), (10, some (AObj.cells [vP 9 0, vS 11 (List.length (Prod.fst (Prod.snd x))) 2, vI c, Value.slice none 0 0] 108 0 false)), (11, some (AObj.cells (rowsV (Prod.fst (Prod.snd x))) 57 0 false)), (12, some (AObj.cells [vS 13 (List.length (Prod.snd (Prod.snd x))) 1, vI c] 197 0 false)), (13, some (AObj.cells (wordsV (Prod.snd (Prod.snd x))) 142 0 false)), (14, some (AObj.cells [vI 0, vI 0, vI 0, vI 0, vI 0, vI 66, vI 66, vI 66, vI 66, vI 0, vI 0, Value.bool false, Value.bool true, Value.bool false, vP 10 0, vP 12 0, vI 0, vI 0, vI 0, vI (Prod.fst x - 1), vI 0, vI 0, vI 0, vI 0, vI 0, vI 0, vI 0, vI 0, vI 0, vI 0, vI 0, Value.bool false, Value.bool false, Value.bool false, vI 0, vI 0, Value.bool false, vR 0] 104 0 false)), (15, some (AObj.cells [vB 0, Value.slice none 0 0, Value.slice none 0 0, Value.slice none 0 0, vB 0, Value.bool false, Value.bool false, vI p, vI 0, vR 0, vI 0, vI 0, vB 0, vB 0] 136 0 false)), (16, some (AObj.cells [Value.slice none 0 0, vI 0, vI 0, vI 0, Value.int IntKind.u64 0] 144 0 false)), (17, some (AObj.cells [vP 16 0, vS 18 (List.length (Prod.fst (Prod.snd x))) 2, vI c, Value.slice none 0 0] 108 0 false)), (18, some (AObj.cells (rowsV (Prod.fst (Prod.snd x))) 57 0 false)), (19, some (AObj.cells [vS 20 (List.length (Prod.snd (Prod.snd x))) 1, vI c] 197 0 false)), (20, some (AObj.cells (wordsV (Prod.snd (Prod.snd x))) 142 0 false)), (21, some (AObj.cells [vI 0, vI 0, vI 0, vI 0, vI 0, vI 66, vI 66, vI 66, vI 66, vI 0, vI 0, Value.bool false, Value.bool true, Value.bool false, vP 17 0, vP 19 0, vI 0, vI 0, vI 0, vI (Prod.fst x - 1), vI 0, vI 0, vI 0, vI 0, vI 0, vI 0, vI 0, vI 0, vI 0, vI 0, vI 0, Value.bool false, Value.bool false, Value.bool false, vI 0, vI 0, Value.bool false, vR 0] 104 0 false)), (22, some (AObj.cells [vP 15 0, vP 14 0, vP 21 0, vI 0, Value.int IntKind.u32 96, Value.string noText, Value.pointer none, Value.slice none 0 0, Value.slice none 0 0] 92 0 false)), (23, some (AObj.cells [vI 0, vI 0] 35 0 false)), (24, some (AObj.cells [vI 0, vI 0, vI 0, vI 0, vI 0, vI 0, vI 0, vI 0, vI 0, vI 0, vI 0, vI 0, vI 0, Value.bool false, Value.bool false, Value.bool false, vI 0, vI 0, Value.bool false] 46 0 false)), (25, some (AObj.cells [vI 0, vI 0] 35 0 false)), (26, some (AObj.cells [vI 0, vI 0] 35 0 false)), (27, some (AObj.cells [vI 0, vI 0] 35 0 false)), (28, some (AObj.cells [Value.int IntKind.u32 96] 50 0 false)), (29, some (AObj.cells [Value.int IntKind.u32 96] 50 0 false)), (30, some (AObj.cells [Value.int IntKind.u32 32] 50 0 false)), (31, some (AObj.cells [Value.int IntKind.u32 32] 50 0 false)), (32, some (AObj.cells [vI 4, vI 20, vI 1, vI 5, vI 6, vI 7, vI 25, vI 47, vI 66, vI 1000, vI 1002, vI 1003, vI 1004, vI 1006, vI 1047, vI 1048, vI 1049, vI 2004] 205 0 false)), (33, some (AObj.cells [Value.int IntKind.u32 96] 50 0 false)), (34, some (AObj.cells [Value.int IntKind.u32 96] 50 0 false)), (35, some (AObj.cells [vI 4, vI 20, vI 1, vI 5, vI 6, vI 7, vI 25, vI 47, vI 66, vI 1000, vI 1002, vI 1003, vI 1004, vI 1006, vI 1047, vI 1048, vI 1049, vI 2004] 205 0 false)), (36, some (AObj.cells [Value.int IntKind.u32 96] 50 0 false)), (37, some (AObj.cells [Value.int IntKind.u32 32] 50 0 false)), (38, some (AObj.cells [Value.int IntKind.u32 32] 50 0 false)), (39, some (AObj.cells [vI 4, vI 20, vI 1, vI 5, vI 6, vI 7, vI 25, vI 47, vI 66, vI 1000, vI 1002, vI 1003, vI 1004, vI 1006, vI 1047, vI 1048, vI 1049, vI 2004] 205 0 false)), (40, some (AObj.cells [Value.int IntKind.u32 96] 50 0 false)), (41, some (AObj.cells [Value.int IntKind.u32 96] 50 0 false)), (42, some (AObj.cells [vI 4, vI 20, vI 1, vI 5, vI 6, vI 7, vI 25, vI 47, vI 66, vI 1000, vI 1002, vI 1003, vI 1004, vI 1006, vI 1047, vI 1048, vI 1049, vI 2004] 205 0 false))])) ∧ (termFits 30 c l p = false → K (Value.bool false) (mkH 23 [(8, some (AObj.cells [vI r, vI c, vI l] 74 0 false)), (9, some (AObj.cells [Value.slice none 0 0, vI l, vI 0, vI 0, Value.int IntKind.u64 0] 144 0 false)), (10, some (AObj.cells [vP 9 0, vS 11 (List.length (Prod.fst (Prod.snd x))) 2, vI c, Value.slice none 0 0] 108 0 false)), (11, some (AObj.cells (rowsV (Prod.fst (Prod.snd x))) 57 0 false)), (12, some (AObj.cells [vS 13 (List.length (Prod.snd (Prod.snd x))) 1, vI c] 197 0 false)), (13, some (AObj.cells (wordsV (Prod.snd (Prod.snd x))) 142 0 false)), (14, some (AObj.cells [vI 0, vI 0, vI 0, vI 0, vI 0, vI 66, vI 66, vI 66, vI 66, vI 0, vI 0, Value.bool false, Value.bool true, Value.bool false, vP 10 0, vP 12 0, vI 0, vI 0, vI 0, vI (Prod.fst x - 1), vI 0, vI 0, vI 0, vI 0, vI 0, vI 0, vI 0, vI 0, vI 0, vI 0, vI 0, Value.bool false, Value.bool false, Value.bool false, vI 0, vI 0, Value.bool false, vR 0] 104 0 false)), (15, some (AObj.cells [vB 0, Value.slice none 0 0, Value.slice none 0 0, Value.slice none 0 0, vB 0, Value.bool false, Value.bool false, vI p, vI 0, vR 0, vI 0, vI 0, vB 0, vB 0] 136 0 false)), (16, some (AObj.cells [Value.slice none 0 0, vI 0, vI 0, vI 0, Value.int IntKind.u64 0] 144 0 false)), (17, some (AObj.cells [vP 16 0, vS 18 (List.length (Prod.fst (Prod.snd x))) 2, vI c, Value.slice none 0 0] 108 0 false)), (18, some (AObj.cells (rowsV (Prod.fst (Prod.snd x))) 57 0 false)), (19, some (AObj.cells [vS 20 (List.length (Prod.snd (Prod.snd x))) 1, vI c] 197 0 false)), (20, some (AObj.cells (wordsV (Prod.snd (Prod.snd x))) 142 0 false)), (21, some (AObj.cells [vI 0, vI 0, vI 0, vI 0, vI 0, vI 66, vI 66, vI 66, vI 66, vI 0, vI 0, Value.bool false, Value.bool true, Value.bool false, vP 17 0, vP 19 0, vI 0, vI 0, vI 0, vI (Prod.fst x - 1), vI 0, vI 0, vI 0, vI 0, vI 0, vI 0, vI 0, vI 0, vI 0, vI 0, vI 0, Value.bool false, Value.bool false, Value.bool false, vI 0, vI 0, Value.bool false, vR 0] 104 0 false)), (22, some (AObj.cells [vP 15 0, vP 14 0, vP 21 0, vI 0, Value.int IntKind.u32 96, Value.string noText, Value.pointer none, Value.slice none 0 0, Value.slice none 0 0] 92 0 false))]))) ∧ (decide (r ≤ 1000) = false → ∃ (x : Int × List Row × List Int), CallOk Tryz.prog G 23 [vI r, vI c, vI l, vI p] (mkH 9 [(8, some (AObj.cells [vI r, vI c, vI l] 74 0 false))]) (Value.tuple { toList := [vP 22 0, vI 0] }) (mkH 23 [(8, some (AObj.cells [vI r, vI c, vI l] 74 0 false)), (9, some (AObj.cells [Value.slice none 0 0, vI l, vI 0, vI 0, Value.int IntKind.u64 0] 144 0 false)), (10, some (AObj.cells [vP 9 0, vS 11 (List.length (Prod.fst (Prod.snd x))) 2, vI c, Value.slice none 0 0] 108 0 false)), (11, some (AObj.cells (rowsV (Prod.fst (Prod.snd x))) 57 0 false)), (12, some (AObj.cells [vS 13 (List.length (Prod.snd (Prod.snd x))) 1, vI c] 197 0 false)), (13, some (AObj.cells (wordsV (Prod.snd (Prod.snd x))) 142 0 false)), (14, some (AObj.cells [vI 0, vI 0, vI 0, vI 0, vI 0, vI 66, vI 66, vI 66, vI 66, vI 0, vI 0, Value.bool false, Value.bool true, Value.bool false, vP 10 0, vP 12 0, vI 0, vI 0, vI 0, vI (Prod.fst x - 1), vI 0, vI 0, vI 0, vI 0, vI 0, vI 0, vI 0, vI 0, vI 0, vI 0, vI 0, Value.bool false, Value.bool false, Value.bool false, vI 0, vI 0, Value.bool false, vR 0] 104 0 false)), (15, some (AObj.cells [vB 0, Value.slice none 0 0, Value.slice none 0 0, Value.slice none 0 0, vB 0, Value.bool false, Value.bool false, vI p, vI 0, vR 0, vI 0, vI 0, vB 0, vB 0] 136 0 false)), (16, some (AObj.cells [Value.slice none 0 0, vI 0, vI 0, vI 0, Value.int IntKind.u64 0] 144 0 false)), (17, some (AObj.cells [vP 16 0, vS 18 (List.length (Prod.fst (Prod.snd x))) 2, vI c, Value.slice none 0 0] 108 0 false)), (18, some (AObj.cells (rowsV (Prod.fst (Prod.snd x))) 57 0 false)), (19, some (AObj.cells [vS 20 (List.length (Prod.snd (Prod.snd x))) 1, vI c] 197 0 false)), (20, some (AObj.cells (wordsV (Prod.snd (Prod.snd x))) 142 0 false)), (21, some (AObj.cells [vI 0, vI 0, vI 0, vI 0, vI 0, vI 66, vI 66, vI 66, vI 66, vI 0, vI 0, Value.bool false, Value.bool true, Value.bool false, vP 17 0, vP 19 0, vI 0, vI 0, vI 0, vI (Prod.fst x - 1), vI 0, vI 0, vI 0, vI 0, vI 0, vI 0, vI 0, vI 0, vI 0, vI 0, vI 0, Value.bool false, Value.bool false, Value.bool false, vI 0, vI 0, Value.bool false, vR 0] 104 0 false)), (22, some (AObj.cells [vP 15 0, vP 14 0, vP 21 0, vI 0, Value.int IntKind.u32 96, Value.string noText, Value.pointer none, Value.slice none 0 0, Value.slice none 0 0] 92 0 false))]) ∧ (termFits r c l p = true → K (Value.bool true) (mkH 43 [(8, some (AObj.cells [vI r, vI c, vI l] 74 0 false)), (9, some (AObj.cells [Value.slice none 0 0, vI l, vI 0, vI 0, Value.int IntKind.u64 0] 144 0 false)), (10, some (AObj.cells [vP 9 0, vS 11 (List.length (Prod.fst (Prod.snd x))) 2, vI c, Value.slice none 0 0] 108 0 false)), (11, some (AObj.cells (rowsV (Prod.fst (Prod.snd x))) 57 0 false)), (12, some (AObj.cells [vS 13 (List.length (Prod.snd (Prod.snd x))) 1, vI c] 197 0 false)), (13, some (AObj.cells (wordsV (Prod.snd (Prod.snd x))) 142 0 false)), (14, some (AObj.cells [vI 0, vI 0, vI 0, vI 0, vI 0, vI 66, vI 66, vI 66, vI 66, vI 0, vI 0, Value.bool false, Value.bool true, Value.bool false, vP 10 0, vP 12 0, vI 0, vI 0, vI 0, vI (Prod.fst x - 1), vI 0, vI 0, vI 0, vI 0, vI 0, vI 0, vI 0, vI 0, vI 0, vI 0, vI 0, Value.bool false, Value.bool false, Value.bool false, vI 0, vI 0, Value.bool false, vR 0] 104 0 false)), (15, some (AObj.cells [vB 0, Value.slice none 0 0, Value.slice none 0 0, Value.slice none 0 0, vB 0, Value.bool false, Value.bool false, vI p, vI 0, vR 0, vI 0, vI 0, vB 0, vB 0] 136 0 false)), (16, some (AObj.cells [Value.slice none 0 0, vI 0, vI 0, vI 0, Value.int IntKind.u64 0] 144 0 false)), (17, some (AObj.cells [vP 16 0, vS 18 (List.length (Prod.fst (Prod.snd x))) 2, vI c, Value.slice none 0 0] 108 0 false)), (18, some (AObj.cells (rowsV (Prod.fst (Prod.snd x))) 57 0 false)), (19, some (AObj.cells [vS 20 (List.length (Prod.snd (Prod.snd x))) 1, vI c] 197 0 false)), (20, some (AObj.cells (wordsV (Prod.snd (Prod.snd x))) 142 0 false)), (21, some (AObj.cells [vI 0, vI 0, vI 0, vI 0, vI 0, vI 66, vI 66, vI 66, vI 66, vI 0, vI 0, Value.bool false, Value.bool true, Value.bool false, vP 17 0, vP 19 0, vI 0, vI 0, vI 0, vI (Prod.fst x - 1), vI 0, vI 0, vI 0, vI 0, vI 0, vI 0, vI 0, vI 0, vI 0, vI 0, vI 0, Value.bool false, Value.bool false, Value.bool false, vI 0, vI 0, Value.bool false, vR 0] 104 0 false)), (22, some (AObj.cells [vP 15 0, vP 14 0, vP 21 0, vI 0, Value.int IntKind.u32 96, Value.string noText, Value.pointer none, Value.slice none 0 0, Value.slice none 0 0] 92 0 false)), (23, some (AObj.cells [vI 0, vI 0] 35 0 false)), (24, some (AObj.cells [vI 0, vI 0, vI 0, vI 0, vI 0, vI 0, vI 0, vI 0, vI 0, vI 0, vI 0, vI 0, vI 0, Value.bool false, Value.bool false, Value.bool false, vI 0, vI 0, Value.bool false] 46 0 false)), (25, some (AObj.cells [vI 0, vI 0] 35 0 false)), (26, some (AObj.cells [vI 0, vI 0] 35 0 false)), (27, some (AObj.cells [vI 0, vI 0] 35 0 false)), (28, some (AObj.cells [Value.int IntKind.u32 96] 50 0 false)), (29, some (AObj.cells [Value.int IntKind.u32 96] 50 0 false)), (30, some (AObj.cells [Value.int IntKind.u32 32] 50 0 false)), (31, some (AObj.cells [Value.int IntKind.u32 32] 50 0 false)), (32, some (AObj.cells [vI 4, vI 20, vI 1, vI 5, vI 6, vI 7, vI 25, vI 47, vI 66, vI 1000, vI 1002, vI 1003, vI 1004, vI 1006, vI 1047, vI 1048, vI 1049, vI 2004] 205 0 false)), (33, some (AObj.cells [Value.int IntKind.u32 96] 50 0 false)), (34, some (AObj.cells [Value.int IntKind.u32 96] 50 0 false)), (35, some (AObj.cells [vI 4, vI 20, vI 1, vI 5, vI 6, vI 7, vI 25, vI 47, vI 66, vI 1000, vI 1002, vI 1003, vI 1004, vI 1006, vI 1047, vI 1048, vI 1049, vI 2004] 205 0 false)), (36, some (AObj.cells [Value.int IntKind.u32 96] 50 0 false)), (37, some (AObj.cells [Value.int IntKind.u32 32] 50 0 false)), (38, some (AObj.cells [Value.int IntKind.u32 32] 50 0 false)), (39, some (AObj.cells [vI 4, vI 20, vI 1, vI 5, vI 6, vI 7, vI 25, vI 47, vI 66, vI 1000, vI 1002, vI 1003, vI 1004, vI 1006, vI 1047, vI 1048, vI 1049, vI 2004] 205 0 false)), (40, some (AObj.cells [Value.int IntKind.u32 96] 50 0 false)), (41, some (AObj.cells [Value.int IntKind.u32 96] 50 0 false)), (42, some (AObj.cells [vI 4, vI 20, vI 1, vI 5, vI 6, vI 7, vI 25, vI 47, vI 66, vI 1000, vI 1002, vI 1003, vI 1004, vI 1006, vI 1047, vI 1048, vI 1049, vI 2004] 205 0 false))])) ∧ (termFits r c l p = false → K (Value.bool false) (mkH 23 [(8, some (AObj.cells [vI r, vI c, vI l] 74 0 false)), (9, some (AObj.cells [Value.slice none 0 0, vI l, vI 0, vI 0, Value.int IntKind.u64 0] 144 0 false)), (10, some (AObj.cells [vP 9 0, vS 11 (List.length (Prod.fst (Prod.snd x))) 2, vI c, Value.slice none 0 0] 108 0 false)), (11, some (AObj.cells (rowsV (Prod.fst (Prod.snd x))) 57 0 false)), (12, some (AObj.cells [vS 13 (List.length (Prod.snd (Prod.snd x))) 1, vI c] 197 0 false)), (13, some (AObj.cells (wordsV (Prod.snd (Prod.snd x))) 142 0 false)), (14, some (AObj.cells [vI 0, vI 0, vI 0, vI 0, vI 0, vI 66, vI 66, vI 66, vI 66, vI 0, vI 0, Value.bool false, Value.bool true, Value.bool false, vP 10 0, vP 12 0, vI 0, vI 0, vI 0, vI (Prod.fst x - 1), vI 0, vI 0, vI 0, vI 0, vI 0, vI 0, vI 0, vI 0, vI 0, vI 0, vI 0, Value.bool false, Value.bool false, Value.bool false, vI 0, vI 0, Value.bool false, vR 0] 104 0 false)), (15, some (AObj.cells [vB 0, Value.slice none 0 0, Value.slice none 0 0, Value.slice none 0 0, vB 0, Value.bool false, Value.bool false, vI p, vI 0, vR 0, vI 0, vI 0, vB 0, vB 0] 136 0 false)), (16, some (AObj.cells [Value.slice none 0 0, vI 0, vI 0, vI 0, Value.int IntKind.u64 0] 144 0 false)), (17, some (AObj.cells [vP 16 0, vS 18 (List.length (Prod.fst (Prod.snd x))) 2, vI c, Value.slice none 0 0] 108 0 false)), (18, some (AObj.cells (rowsV (Prod.fst (Prod.snd x))) 57 0 false)), (19, some (AObj.cells [vS 20 (List.length (Prod.snd (Prod.snd x))) 1, vI c] 197 0 false)), (20, some (AObj.cells (wordsV (Prod.snd (Prod.snd x))) 142 0 false)), (21, some (AObj.cells [vI 0, vI 0, vI 0, vI 0, vI 0, vI 66, vI 66, vI 66, vI 66, vI 0, vI 0, Value.bool false, Value.bool true, Value.bool false, vP 17 0, vP 19 0, vI 0, vI 0, vI 0, vI (Prod.fst x - 1), vI 0, vI 0, vI 0, vI 0, vI 0, vI 0, vI 0, vI 0, vI 0, vI 0, vI 0, Value.bool false, Value.bool false, Value.bool false, vI 0, vI 0, Value.bool false, vR 0] 104 0 false)), (22, some (AObj.cells [vP 15 0, vP 14 0, vP 21 0, vI 0, Value.int IntKind.u32 96, Value.string noText, Value.pointer none, Value.slice none 0 0, Value.slice none 0 0] 92 0 false))])))) ∧ (decide (r > 30) = false → ∃ (x : Int × List Row × List Int), CallOk Tryz.prog G 23 [vI r, vI c, vI l, vI p] (mkH 9 [(8, some (AObj.cells [vI r, vI c, vI l] 74 0 false))]) (Value.tuple { toList := [vP 22 0, vI 0] }) (mkH 23 [(8, some (AObj.cells [vI r, vI c, vI l] 74 0 false)), (9, some (AObj.cells [Value.slice none 0 0, vI l, vI 0, vI 0, Value.int IntKind.u64 0] 144 0 false)), (10, some (AObj.cells [vP 9 0, vS 11 (List.length (Prod.fst (Prod.snd x))) 2, vI c, Value.slice none 0 0] 108 0 false)), (11, some (AObj.cells (rowsV (Prod.fst (Prod.snd x))) 57 0 false)), (12, some (AObj.cells [vS 13 (List.length (Prod.snd (Prod.snd x))) 1, vI c] 197 0 false)), (13, some (AObj.cells (wordsV (Prod.snd (Prod.snd x))) 142 0 false)), (14, some (AObj.cells [vI 0, vI 0, vI 0, vI 0, vI 0, vI 66, vI 66, vI 66, vI 66, vI 0, vI 0, Value.bool false, Value.bool true, Value.bool false, vP 10 0, vP 12 0, vI 0, vI 0, vI 0, vI (Prod.fst x - 1), vI 0, vI 0, vI 0, vI 0, vI 0, vI 0, vI 0, vI 0, vI 0, vI 0, vI 0, Value.bool false, Value.bool false, Value.bool false, vI 0, vI 0, Value.bool false, vR 0] 104 0 false)), (15, some (AObj.cells [vB 0, Value.slice none 0 0, Value.slice none 0 0, Value.slice none 0 0, vB 0, Value.bool false, Value.bool false, vI p, vI 0, vR 0, vI 0, vI 0, vB 0, vB 0] 136 0 false)), (16, some (AObj.cells [Value.slice none 0 0, vI 0, vI 0, vI 0, Value.int IntKind.u64 0] 144 0 false)), (17, some (AObj.cells [vP 16 0, vS 18 (List.length (Prod.fst (Prod.snd x))) 2, vI c, Value.slice none 0 0] 108 0 false)), (18, some (AObj.cells (rowsV (Prod.fst (Prod.snd x))) 57 0 false)), (19, some (AObj.cells [vS 20 (List.length (Prod.snd (Prod.snd x))) 1, vI c] 197 0 false)), (20, some (AObj.cells (wordsV (Prod.snd (Prod.snd x))) 142 0 false)), (21, some (AObj.cells [vI 0, vI 0, vI 0, vI 0, vI 0, vI 66, vI 66, vI 66, vI 66, vI 0, vI 0, Value.bool false, Value.bool true, Value.bool false, vP 17 0, vP 19 0, vI 0, vI 0, vI 0, vI (Prod.fst x - 1), vI 0, vI 0, vI 0, vI 0, vI 0, vI 0, vI 0, vI 0, vI 0, vI 0, vI 0, Value.bool false, Value.bool false, Value.bool false, vI 0, vI 0, Value.bool false, vR 0] 104 0 false)), (22, some (AObj.cells [vP 15 0, vP 14 0, vP 21 0, vI 0, Value.int IntKind.u32 96, Value.string noText, Value.pointer none, Value.slice none 0 0, Value.slice none 0 0] 92 0 false))]) ∧ (termFits r c l p = true → K (Value.bool true) (mkH 43 [(8, some (AObj.cells [vI r, vI c, vI l] 74 0 false)), (9, some (AObj.cells [Value.slice none 0 0, vI l, vI 0, vI 0, Value.int IntKind.u64 0] 144 0 false)), (10, some (AObj.cells [vP 9 0, vS 11 (List.length (Prod.fst (Prod.snd x))) 2, vI c, Value.slice none 0 0] 108 0 false)), (11, some (AObj.cells (rowsV (Prod.fst (Prod.snd x))) 57 0 false)), (12, some (AObj.cells [vS 13 (List.length (Prod.snd (Prod.snd x))) 1, vI c] 197 0 false)), (13, some (AObj.cells (wordsV (Prod.snd (Prod.snd x))) 142 0 false)), (14, some (AObj.cells [vI 0, vI 0, vI 0, vI 0, vI 0, vI 66, vI 66, vI 66, vI 66, vI 0, vI 0, Value.bool false, Value.bool true, Value.bool false, vP 10 0, vP 12 0, vI 0, vI 0, vI 0, vI (Prod.fst x - 1), vI 0, vI 0, vI 0, vI 0, vI 0, vI 0, vI 0, vI 0, vI 0, vI 0, vI 0, Value.bool false, Value.bool false, Value.bool false, vI 0, vI 0, Value.bool false, vR 0] 104 0 false)), (15, some (AObj.cells [vB 0, Value.slice none 0 0, Value.slice none 0 0, Value.slice none 0 0, vB 0, Value.bool false, Value.bool false, vI p, vI 0, vR 0, vI 0, vI 0, vB 0, vB 0] 136 0 false)), (16, some (AObj.cells [Value.slice none 0 0, vI 0, vI 0, vI 0, Value.int IntKind.u64 0] 144 0 false)), (17, some (AObj.cells [vP 16 0, vS 18 (List.length (Prod.fst (Prod.snd x))) 2, vI c, Value.slice none 0 0] 108 0 false)), (18, some (AObj.cells (rowsV (Prod.fst (Prod.snd x))) 57 0 false)), (19, some (AObj.cells [vS 20 (List.length (Prod.snd (Prod.snd x))) 1, vI c] 197 0 false)), (20, some (AObj.cells (wordsV (Prod.snd (Prod.snd x))) 142 0 false)), (21, some (AObj.cells [vI 0, vI 0, vI 0, vI 0, vI 0, vI 66, vI 66, vI 66, vI 66, vI 0, vI 0, Value.bool false, Value.bool true, Value.bool false, vP 17 0, vP 19 0, vI 0, vI 0, vI 0, vI (Prod.fst x - 1), vI 0, vI 0, vI 0, vI 0, vI 0, vI 0, vI 0, vI 0, vI 0, vI 0, vI 0, Value.bool false, Value.bool false, Value.bool false, vI 0, vI 0, Value.bool false, vR 0] 104 0 false)), (22, some (AObj.cells [vP 15 0, vP 14 0, vP 21 0, vI 0, Value.int IntKind.u32 96, Value.string noText, Value.pointer none, Value.slice none 0 0, Value.slice none 0 0] 92 0 false)), (23, some (AObj.cells [vI 0, vI 0] 35 0 false)), (24, some (AObj.cells [vI 0, vI 0, vI 0, vI 0, vI 0, vI 0, vI 0, vI 0, vI 0, vI 0, vI 0, vI 0, vI 0, Value.bool false, Value.bool false, Value.bool false, vI 0, vI 0, Value.bool false] 46 0 false)), (25, some (AObj.cells [vI 0, vI 0] 35 0 false)), (26, some (AObj.cells [vI 0, vI 0] 35 0 false)), (27, some (AObj.cells [vI 0, vI 0] 35 0 false)), (28, some (AObj.cells [Value.int IntKind.u32 96] 50 0 false)), (29, some (AObj.cells [Value.int IntKind.u32 96] 50 0 false)), (30, some (AObj.cells [Value.int IntKind.u32 32] 50 0 false)), (31, some (AObj.cells [Value.int IntKind.u32 32] 50 0 false)), (32, some (AObj.cells [vI 4, vI 20, vI 1, vI 5, vI 6, vI 7, vI 25, vI 47, vI 66, vI 1000, vI 1002, vI 1003, vI 1004, vI 1006, vI 1047, vI 1048, vI 1049, vI 2004] 205 0 false)), (33, some (AObj.cells [Value.int IntKind.u32 96] 50 0 false)), (34, some (AObj.cells [Value.int IntKind.u32 96] 50 0 false)), (35, some (AObj.cells [vI 4, vI 20, vI 1, vI 5, vI 6, vI 7, vI 25, vI 47, vI 66, vI 1000, vI 1002, vI 1003, vI 1004, vI 1006, vI 1047, vI 1048, vI 1049, vI 2004] 205 0 false)), (36, some (AObj.cells [Value.int IntKind.u32 96] 50 0 false)), (37, some (AObj.cells [Value.int IntKind.u32 32] 50 0 false)), (38, some (AObj.cells [Value.int IntKind.u32 32] 50 0 false)), (39, some (AObj.cells [vI 4, vI 20, vI 1, vI 5, vI 6, vI 7, vI 25, vI 47, vI 66, vI 1000, vI 1002, vI 1003, vI 1004, vI 1006, vI 1047, vI 1048, vI 1049, vI 2004] 205 0 false)), (40, some (AObj.cells [Value.int IntKind.u32 96] 50 0 false)), (41, some (AObj.cells [Value.int IntKind.u32 96] 50 0 false)), (42, some (AObj.cells [vI 4, vI 20, vI 1, vI 5, vI 6, vI 7, vI 25, vI 47, vI 66, vI 1000, vI 1002, vI 1003, vI 1004, vI 1006, vI 1047, vI 1048, vI 1049, vI 2004] 205 0 false))])) ∧ (termFits r c l p = false → K (Value.bool false) (mkH 23 [(8, some (AObj.cells [vI r, vI c, vI l] 74 0 false)), (9, some (AObj.cells [Value.slice none 0 0, vI l, vI 0, vI 0, Value.int IntKind.u64 0] 144 0 false)), (10, some (AObj.cells [vP 9 0, vS 11 (List.length (Prod.fst (Prod.snd x))) 2, vI c, Value.slice none 0 0] 108 0 false)), (11, some (AObj.cells (rowsV (Prod.fst (Prod.snd x))) 57 0 false)), (12, some (AObj.cells [vS 13 (List.length (Prod.snd (Prod.snd x))) 1, vI c] 197 0 false)), (13, some (AObj.cells (wordsV (Prod.snd (Prod.snd x))) 142 0 false)), (14, some (AObj.cells [vI 0, vI 0, vI 0, vI 0, vI 0, vI 66, vI 66, vI 66, vI 66, vI 0, vI 0, Value.bool false, Value.bool true, Value.bool false, vP 10 0, vP 12 0, vI 0, vI 0, vI 0, vI (Prod.fst x - 1), vI 0, vI 0, vI 0, vI 0, vI 0, vI 0, vI 0, vI 0, vI 0, vI 0, vI 0, Value.bool false, Value.bool false, Value.bool false, vI 0, vI 0, Value.bool false, vR 0] 104 0 false)), (15, some (AObj.cells [vB 0, Value.slice none 0 0, Value.slice none 0 0, Value.slice none 0 0, vB 0, Value.bool false, Value.bool false, vI p, vI 0, vR 0, vI 0, vI 0, vB 0, vB 0] 136 0 false)), (16, some (AObj.cells [Value.slice none 0 0, vI 0, vI 0, vI 0, Value.int IntKind.u64 0] 144 0 false)), (17, some (AObj.cells [vP 16 0, vS 18 (List.length (Prod.fst (Prod.snd x))) 2, vI c, Value.slice none 0 0] 108 0 false)), (18, some (AObj.cells (rowsV (Prod.fst (Prod.snd x))) 57 0 false)), (19, some (AObj.cells [vS 20 (List.length (Prod.snd (Prod.snd x))) 1, vI c] 197 0 false)), (20, some (AObj.cells (wordsV (Prod.snd (Prod.snd x))) 142 0 false)), (21, some (AObj.cells [vI 0, vI 0, vI 0, vI 0, vI 0, vI 66, vI 66, vI 66, vI 66, vI 0, vI 0, Value.bool false, Value.bool true, Value.bool false, vP 17 0, vP 19 0, vI 0, vI 0, vI 0, vI (Prod.fst x - 1), vI 0, vI 0, vI 0, vI 0, vI 0, vI 0, vI 0, vI 0, vI 0, vI 0, vI 0, Value.bool false, Value.bool false, Value.bool false, vI 0, vI 0, Value.bool false, vR 0] 104 0 false)), (22, some (AObj.cells [vP 15 0, vP 14 0, vP 21 0, vI 0, Value.int IntKind.u32 96, Value.string noText, Value.pointer none, Value.slice none 0 0, Value.slice none 0 0] 92 0 false))])))) := by kernel_rfl
end Go.Proofs.YtoaniefcobkaiaaGreatDoor
end
section
set_option maxRecDepth 100000
open Go Go.Ev Go.Proofs
namespace Go.Proofs.YtoaniefcobkaiaaGreatDoor
noncomputable def termL (rows c lines p : Int) (rs : List Row) (ws : List Int) : List (Nat × Option AObj) := screenL 9 rows c lines rs ws ++ (15, some (.cells (parserV p) 136 0 false)) :: (screenL 16 rows c 0 rs ws ++ [(22, some (.cells (termV (vP 15 0) (vP 14 0) (vP 21 0)) 92 0 false))])
theorem termH_oq (rows c lines p : Int) (rs : List Row) (ws : List Int) : (List.range ((termH rows c lines p rs ws).next - 8)).all (fun i => oqB (fun b => Nat.ble 8 b) ((termH rows c lines p rs ws).get (8 + i))) = true := by
  show (oqB _ (some (ringO lines)) && (oqB _ (some (.cells (pageV (vP 8 0) (vS 10 rs.length 2) c (.slice none 0 0)) 108 0 false)) && (oqB _ (some (.cells (rowsV rs) 57 0 false)) && (oqB _ (some (.cells [vS 12 ws.length 1, vI c] 197 0 false)) && (oqB _ (some (.cells (wordsV ws) 142 0 false)) && (oqB _ (some (.cells (screenV (vP 9 0) (vP 11 0) rows) 104 0 false)) &&
    (oqB _ (some (.cells (parserV p) 136 0 false)) &&
    (oqB _ (some (ringO 0)) && (oqB _ (some (.cells (pageV (vP 15 0) (vS 17 rs.length 2) c (.slice none 0 0)) 108 0 false)) && (oqB _ (some (.cells (rowsV rs) 57 0 false)) && (oqB _ (some (.cells [vS 19 ws.length 1, vI c] 197 0 false)) && (oqB _ (some (.cells (wordsV ws) 142 0 false)) && (oqB _ (some (.cells (screenV (vP 16 0) (vP 18 0) rows) 104 0 false)) &&
    (oqB _ (some (.cells (termV (vP 14 0) (vP 13 0) (vP 20 0)) 92 0 false)) && true)))))))))))))) = true
  simp only [oqB, oq, cls_vq (wordsV_cl ws), cls_vq (rowsV_cl rs), Bool.and_true, Bool.true_and]; rfl
theorem term_at (rows c lines p : Int) (o : List Value) (_ho : vbs 9 o = true) (hf : termFits rows c lines p = true) : CallOk Tryz.prog G 23 [vI rows, vI c, vI lines, vI p] (mkH 9 [(8, some (.cells o 74 0 false))]) (.tuple ⟨[vP 22 0, vI 0]⟩)
    (mkH 23 ((8, some (.cells o 74 0 false)) :: termL rows c lines p (List.replicate rows.toNat (blankRow c)) (stopsAt (nWords c) c.toNat))) := by
  have hc := termNew_c rows c lines p hf
  generalize stopsAt (nWords c) c.toNat = ws at *
  generalize List.replicate rows.toNat (blankRow c) = rs at *
  refine (hc.at2 (em := []) rfl (by kernel_rfl) (by kernel_rfl) (fun b hb => mkH_top rfl hb) (by kernel_rfl) trivial (by kernel_rfl) (termH_oq rows c lines p rs ws) (by kernel_rfl) (fun b hb => mkH_top rfl hb) (by kernel_rfl) rfl rfl rfl rfl rfl ?_ (fun b hb => mkH_top rfl hb) (fun b hb => mkH_top rfl hb)).call' full (fn := Tryz.f23) (by kernel_rfl) (by kernel_rfl)
  refine ⟨?_, ?_, ?_, ?_, ?_, ?_, ?_, ?_, ?_, ?_, ?_, ?_, ?_, ?_, ?_, ?_, ?_, ?_, ?_, ?_, ?_, ?_, ?_, trivial⟩
  iterate 11 (show _ = _; kernel_rfl)
  · exact of_eq (b := some (AObj.cells (rowsV rs) 57 0 false) = some (renO (fRho 8 [] 9) (AObj.cells (rowsV rs) 57 0 false))) (by kernel_rfl) (congrArg some (renO_cl (rowsV_cl _))).symm
  · show _ = _; kernel_rfl
  · exact of_eq (b := some (AObj.cells (wordsV ws) 142 0 false) = some (renO (fRho 8 [] 9) (AObj.cells (wordsV ws) 142 0 false))) (by kernel_rfl) (congrArg some (renO_cl (wordsV_cl _))).symm
  iterate 4 (show _ = _; kernel_rfl)
  · exact of_eq (b := some (AObj.cells (rowsV rs) 57 0 false) = some (renO (fRho 8 [] 9) (AObj.cells (rowsV rs) 57 0 false))) (by kernel_rfl) (congrArg some (renO_cl (rowsV_cl _))).symm
  · show _ = _; kernel_rfl
  · exact of_eq (b := some (AObj.cells (wordsV ws) 142 0 false) = some (renO (fRho 8 [] 9) (AObj.cells (wordsV ws) 142 0 false))) (by kernel_rfl) (congrArg some (renO_cl (wordsV_cl _))).symm
  · show _ = _; kernel_rfl
  · show _ = _; kernel_rfl
theorem trueLow_fin {v : Value} {h : AH} (hq : trueLow v h = true) : FinR 8 v h (.bool true) (bas 8) := by
  unfold trueLow at hq
  split at hq
  · simp only [Bool.and_eq_true, Nat.ble_eq] at hq
    rename_i b
    obtain ⟨⟨rfl, hl⟩, hn⟩ := hq
    exact FinR.drop' rfl hl rfl hn
  · cases hq
theorem termNone_c (r c l p : Int) : CallsOk Tryz.prog G 5 [.agg ⟨[vI r, vI c, vI l]⟩, vI p, UNK] (bas 8) (.bool true) (bas 8) := by
  have drop : ∀ n L, lows 8 (mkH n L) = true → 8 ≤ n → FinR 8 (.bool true) (mkH n L) (.bool true) (bas 8) := fun n L h1 h2 => FinR.drop' rfl h1 rfl h2
  obtain ⟨r2, hr2⟩ : ∃ r2 : Int, r2 = if 30 < r ∧ r ≤ 1000 then 30 else r := ⟨_, rfl⟩
  by_cases hf : termFits r2 c l p = true
  · refine (vcFn_sound full CB_ok (n := 5) (f := 5) (fn := Tryz.f5) (by kernel_rfl) (of_eq (termNone_vc r c l p (fun v h' => FinR 8 v h' _ _)) ⟨fun h1 => ⟨fun h2 => ⟨(30, List.replicate (Int.toNat 30) (blankRow c), stopsAt (nWords c) c.toNat), ?_, fun _ => ?_, fun h3 => ?_⟩, fun h2 => ⟨(r, List.replicate r.toNat (blankRow c), stopsAt (nWords c) c.toNat), ?_, fun _ => ?_, fun h3 => ?_⟩⟩, fun h1 => ⟨(r, List.replicate r.toNat (blankRow c), stopsAt (nWords c) c.toNat), ?_, fun _ => ?_, fun h3 => ?_⟩⟩)).ok fun v h' hq => hq
    all_goals simp only [decide_eq_true_eq, decide_eq_false_iff_not] at h1
    · simp only [decide_eq_true_eq] at h2
      rw [if_pos (by omega)] at hr2; subst hr2
      exact term_at 30 c l p _ rfl hf
    · exact drop _ _ (by kernel_rfl) (by omega)
    · simp only [decide_eq_true_eq] at h2
      rw [if_pos (by omega)] at hr2; subst hr2
      rw [hf] at h3; cases h3
    · simp only [decide_eq_false_iff_not] at h2
      rw [if_neg (by omega)] at hr2; subst hr2
      exact term_at r2 c l p _ rfl hf
    · exact drop _ _ (by kernel_rfl) (by omega)
    · simp only [decide_eq_false_iff_not] at h2
      rw [if_neg (by omega)] at hr2; subst hr2
      rw [hf] at h3; cases h3
    · rw [if_neg (by omega)] at hr2; subst hr2
      exact term_at r2 c l p _ rfl hf
    · exact drop _ _ (by kernel_rfl) (by omega)
    · rw [if_neg (by omega)] at hr2; subst hr2
      rw [hf] at h3; cases h3
  · simp only [Bool.not_eq_true] at hf
    refine (vcFn_sound full CB_ok (n := 5) (f := 5) (fn := Tryz.f5) (by kernel_rfl) (of_eq (termNone_no_vc r c l p (fun v h' => FinR 8 v h' _ _)) ⟨fun h1 => ⟨fun h2 => ⟨(), ?_, fun h3 => ?_, fun _ => ?_⟩, fun h2 => ⟨(), ?_, fun h3 => ?_, fun _ => ?_⟩⟩, fun h1 => ⟨(), ?_, fun h3 => ?_, fun _ => ?_⟩⟩)).ok fun v h' hq => hq
    all_goals simp only [decide_eq_true_eq, decide_eq_false_iff_not] at h1
    · simp only [decide_eq_true_eq] at h2
      rw [if_pos (by omega)] at hr2; subst hr2
      exact termNew_no 30 c l p hf _
    · simp only [decide_eq_true_eq] at h2
      rw [if_pos (by omega)] at hr2; subst hr2
      rw [hf] at h3; cases h3
    · exact drop _ _ (by kernel_rfl) (by omega)
    · simp only [decide_eq_false_iff_not] at h2
      rw [if_neg (by omega)] at hr2; subst hr2
      exact termNew_no r2 c l p hf _
    · simp only [decide_eq_false_iff_not] at h2
      rw [if_neg (by omega)] at hr2; subst hr2
      rw [hf] at h3; cases h3
    · exact drop _ _ (by kernel_rfl) (by omega)
    · rw [if_neg (by omega)] at hr2; subst hr2
      exact termNew_no r2 c l p hf _
    · rw [if_neg (by omega)] at hr2; subst hr2
      rw [hf] at h3; cases h3
    · exact drop _ _ (by kernel_rfl) (by omega)
end Go.Proofs.YtoaniefcobkaiaaGreatDoor
end

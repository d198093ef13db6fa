/- Proved here, with the other texts of this claim: the law TermNone of package marqueelaw18 answers true for every input, and each argument reads behind the call as before; without any condition. These texts hold an evaluator of the program's code over memories of which a part is known, its soundness, and the walks of the functions that the law calls. -/
import Derived.Test.YtoaniefcobkaiaaGreatDoorK
section
set_option maxRecDepth 100000
namespace Go.Proofs.YtoaniefcobkaiaaGreatDoor
open Go Go.Ev Go.ChangeShapes Go.WideShapes Go.ChangeAt Go.RowKit
theorem params5 : Tryz.f5.params = #[74, 3, 24] := by kernel_rfl
theorem results5 : Tryz.f5.resultTypes = #[4] := by kernel_rfl
theorem und74 : Tryz.prog.underlying 74 = some (.array 3 3) := by kernel_rfl
theorem und3 : Tryz.prog.underlying 3 = some (.int .i64) := by kernel_rfl
theorem und4 : Tryz.prog.underlying 4 = some .bool := by kernel_rfl
theorem cells74 : Tryz.prog.cellsOf 74 = 3 := by kernel_rfl
theorem cells3 : Tryz.prog.cellsOf 3 = 1 := by kernel_rfl
theorem open_three {H : Type} {enc : TypeId × Value → H} {W : World} {base : Nat} {v : Value} {d : DataW H} {p : List MemPlace} (hval : Value.okWide Tryz.prog W .any base 74 v) (h : DataW.Trod enc Tryz.prog W 0 (fun _ => true) true 74 v d p) :
    ∃ a b c, v = .agg ⟨[.int .i64 a, .int .i64 b, .int .i64 c]⟩ := by
  unfold Value.okWide at hval
  rw [und74] at hval
  obtain ⟨⟨cs⟩, rfl, hsz, _⟩ := hval
  rw [cells74] at hsz
  obtain ⟨fuel, hf⟩ := h
  obtain ⟨xs, m, rfl, _, _, hlen, hcell⟩ := DataW.trod_array und74 hf
  rw [cells3] at hcell
  have hl : cs.length = 3 := by simpa using hsz
  match cs, hl with
  | [x, y, z], _ =>
    have one : ∀ i (hi : i < 3) u, (([x, y, z] : List Value).drop (i * 1)).take 1 = [u] → ∃ n, u = .int .i64 n := fun i hi u e => by
      have h1 := hcell i hi
      have e2 : ((Value.agg ⟨[x, y, z]⟩).cells.toList.drop (i * 1)).take 1 = [u] := e
      rw [e2, List.getElem?_eq_getElem (by omega)] at h1
      obtain ⟨n, hn, _⟩ := DataW.trod_int und3 h1
      exact ⟨n, by simpa using hn⟩
    obtain ⟨a, rfl⟩ := one 0 (by omega) x rfl
    obtain ⟨b, rfl⟩ := one 1 (by omega) y rfl
    obtain ⟨c, rfl⟩ := one 2 (by omega) z rfl
    exact ⟨a, b, c, rfl⟩
theorem readable5 : ∀ t ∈ Tryz.f5.params.toList, Tryz.prog.readableRec t = true ∧ t < Tryz.prog.types.size := by
  rw [params5]
  intro t ht
  have ht : t = 74 ∨ t = 3 ∨ t = 24 := by simpa using ht
  rcases ht with rfl | rfl | rfl <;> exact ⟨by kernel_rfl, of_decide_eq_true (by kernel_rfl)⟩
theorem contract (H : Type) (enc : TypeId × Value → H) (W : World) (base : Nat) (args : Array Value) (ds gs : List (DataW H)) (before : List MemPlace)
    (hval : ∀ (j : Nat) t v, Tryz.f5.params[j]? = some t → args[j]? = some v → Value.okWide Tryz.prog W .any base t v)
    (hW : DataW.Whole enc Tryz.prog Tryz.f5.params.toList Rows.termNoneSpec.vars false W args.toList ds gs before) :
    Calls Tryz.prog 5 args W fun e W' => ∃ v, e = .returned v ∧ Rows.termNoneSpec.post enc Tryz.prog Tryz.f5 false true false false W args v W' := by
  have hW2 := hW
  obtain ⟨p, q, hA, hV, rfl, hfz, hnd⟩ := hW
  rw [params5] at hA hval
  obtain ⟨v0, v1, v2, d0, d1, d2, p0, p1, p2, rfl, rfl, rfl, h0, h1, h2⟩ := trodAll_three hA
  obtain ⟨rfl, rfl⟩ := trodVars_none hV
  obtain ⟨a, b, c, rfl⟩ := open_three (hval 0 74 _ rfl rfl) h0
  obtain ⟨n, rfl, rfl, rfl, _⟩ := open_int und3 (hval 1 3 _ rfl rfl) h1
  have hc := (termNone_c a b c n).law W (args' := [.agg ⟨[vI a, vI b, vI c]⟩, vI n, v2])
    (.cons _ _ _ _ (.agg _ _ (.cons _ _ _ _ (.lit _ rfl) (.cons _ _ _ _ (.lit _ rfl) (.cons _ _ _ _ (.lit _ rfl) .nil)))) (.cons _ _ _ _ (.lit _ rfl) (.cons _ _ _ _ (.any _) .nil)))
  refine hc.mono fun e W' ⟨he, hs⟩ => ⟨_, he, ?_⟩
  exact law_post laidO readable5 results5 und4 rfl hW2 hs rfl rfl rfl
theorem reads (os : Os) {H : Type} (enc : TypeId × Value → H) : ∃ places, DataW.whole enc Tryz.prog ((laidWorld os).forCall (fun _ _ => 0) ⟨#[], #[.agg #[vI 1, vI 2, vI 3], vI 4, .slice Option.none 0 0], []⟩).memory Tryz.f5.params.toList Rows.termNoneSpec.vars false #[Value.agg #[vI 1, vI 2, vI 3], vI 4, Value.slice Option.none 0 0].toList 8 = some ([.agg [.lit (.int .i64 1), .lit (.int .i64 2), .lit (.int .i64 3)], .lit (.int .i64 4), .nil], [], places) :=
  ⟨[], by kernel_rfl⟩
theorem lifted (os : Os) (started : os.Started) (H : Type) (enc : TypeId × Value → H) (F : Stop.Interp) :
    ReturnsInHanded {} Tryz.checked os 5 .any ((OpenSpec.ofChange Rows.termNoneSpec).preRow enc Tryz.prog Tryz.f5 Rows.termNoneRow.domain false Rows.termNoneRow.laid) (((OpenSpec.ofChange Rows.termNoneSpec).at F).post enc Tryz.prog Tryz.f5 false true false false) := by
  obtain ⟨places, hx⟩ := reads os enc
  refine returnsInHanded_of_row (C := Tryz.checked) (s := OpenSpec.ofChange Rows.termNoneSpec) ownK started (by kernel_rfl) Tryz.func5
    (witness_row_atRef (enc := enc) (C := Tryz.checked) false (laidWorld os) #[.agg #[vI 1, vI 2, vI 3], vI 4, .slice Option.none 0 0] rfl (by kernel_rfl) (by kernel_rfl) (by kernel_rfl)
      (OpenSpec.preRow_of_cond 8 hx (by kernel_rfl) (fun k hk => by cases hk) (by kernel_rfl) (laid_met os _))) ?_
  intro W base args ds gs before hval hW _ _ _ hL _ _
  exact contract H enc W base args ds gs before hval hW
theorem said : Rows.TermNoneSaid :=
  OpenClaim.holds_of_cond 5 Tryz.f5 rfl rfl rfl rfl rfl rfl rfl ⟨rfl, rfl, rfl, rfl, rfl⟩ rfl rfl rfl rfl rfl (by kernel_rfl) Tryz.func5 closed5
    (of_decide_eq_true (by kernel_rfl)) (by unfold Func.isWrapper; first | (rw [if_pos (by decide +kernel)]; kernel_rfl) | (rw [if_neg (by decide +kernel)]; exact ⟨rfl, rfl⟩))
    (fun os started H enc _ F => by rw [OpenClaim.pre_eq_preRow]; exact lifted os started H enc F)
end Go.Proofs.YtoaniefcobkaiaaGreatDoor
end

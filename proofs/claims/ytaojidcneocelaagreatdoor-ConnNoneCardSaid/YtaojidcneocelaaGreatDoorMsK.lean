/- A row of values of any type is itself. (Written by genmsg.py.) -/
import Derived.ChangeKeysEq
import Derived.Test.YtaojidcneocelaaGreatDoorMsJ
namespace Go.Proofs.YtaojidcneocelaaGreatDoor
open Go.RowKit Go.Lib

section
variable {P : Program} (w : World)
theorem eqItems_refl (d : Nat) (e : TypeId) (c : Nat) (xs : Array Value) : ∀ is : List Nat, (∀ i, i ∈ is → ∃ x, (part e xs (i * c)).run P w = .ok x w ∧ (Op.equalIn d e x x).run P w = .ok true w) → (Op.eqItems d e c xs xs is).run P w = .ok true w
  | [], _ => by simp [Op.eqItems]
  | i :: is, h => by
    obtain ⟨x, h1, h2⟩ := h i (by simp)
    have ih := eqItems_refl d e c xs is (fun j hj => h j (List.mem_cons_of_mem _ hj))
    simp [Op.eqItems, h1, h2, ih]
theorem equalIn_iface (d : Nat) {t tx : TypeId} {v : Value} {ms : Array (String × TypeId)} {i : TypeInfo} (hu : P.underlying t = some (.interface ms)) (hi : P.info? tx = some i) (hc : i.comparable = true) (h : (Op.equalIn d tx v v).run P w = .ok true w) :
    (Op.equalIn (d + 1) t (.iface tx v) (.iface tx v)).run P w = .ok true w := by
  simp [Op.equalIn, run_underlying hu, typeInfo, hi, hc, h]
theorem part_plain {e : TypeId} {xs : Array Value} {off : Nat} {v : Value} {k : TypeDesc} (hu : P.underlying e = some k) (hk : (match k with | .struct _ | .array _ _ => false | _ => true) = true) (hx : xs[off]? = some v) : (part e xs off).run P w = .ok v w := by
  cases k <;> simp at hk <;> simp [part, isAgg, run_underlying hu, hx]
end
set_option maxRecDepth 100000 in
theorem equal_strs3 (d : Nat) (a b c : ByteArray) (w : World) : (Op.equalIn (d + 2) 129 (.agg #[.string a, .string b, .string c]) (.agg #[.string a, .string b, .string c])).run Tryz.prog w = .ok true w := by
  obtain ⟨i, hi⟩ : ∃ i, Tryz.prog.info? 9 = some i := ⟨_, rfl⟩
  have hc : Tryz.prog.cellsOf 9 = 1 := by kernel_rfl
  have hu : Tryz.prog.underlying 9 = some .string := by rfl
  rw [run_equalIn_array (n := 3) (e := 9) w (d + 1) _ _ (by rfl) hi, hc]
  refine eqItems_refl w _ _ _ _ _ (fun j hj => ?_)
  have h3 : j < 3 := by simpa using hj
  have h4 : j = 0 ∨ j = 1 ∨ j = 2 := by omega
  rcases h4 with rfl | rfl | rfl
  all_goals exact ⟨_, part_plain w hu rfl rfl, by simp [run_equalIn_string w d _ _ _ hu]⟩
set_option maxRecDepth 100000 in
theorem equal_strs2 (d : Nat) (a b : ByteArray) (w : World) : (Op.equalIn (d + 2) 131 (.agg #[.string a, .string b]) (.agg #[.string a, .string b])).run Tryz.prog w = .ok true w := by
  obtain ⟨i, hi⟩ : ∃ i, Tryz.prog.info? 9 = some i := ⟨_, rfl⟩
  have hc : Tryz.prog.cellsOf 9 = 1 := by kernel_rfl
  have hu : Tryz.prog.underlying 9 = some .string := by rfl
  rw [run_equalIn_array (n := 2) (e := 9) w (d + 1) _ _ (by rfl) hi, hc]
  refine eqItems_refl w _ _ _ _ _ (fun j hj => ?_)
  have h3 : j < 2 := by simpa using hj
  have h4 : j = 0 ∨ j = 1 := by omega
  rcases h4 with rfl | rfl
  all_goals exact ⟨_, part_plain w hu rfl rfl, by simp [run_equalIn_string w d _ _ _ hu]⟩
set_option maxRecDepth 100000 in
theorem equal_bools2 (d : Nat) (a b : Bool) (w : World) : (Op.equalIn (d + 2) 130 (.agg #[.bool a, .bool b]) (.agg #[.bool a, .bool b])).run Tryz.prog w = .ok true w := by
  obtain ⟨i, hi⟩ : ∃ i, Tryz.prog.info? 4 = some i := ⟨_, rfl⟩
  have hc : Tryz.prog.cellsOf 4 = 1 := by kernel_rfl
  have hu : Tryz.prog.underlying 4 = some .bool := by rfl
  rw [run_equalIn_array (n := 2) (e := 4) w (d + 1) _ _ (by rfl) hi, hc]
  refine eqItems_refl w _ _ _ _ _ (fun j hj => ?_)
  have h3 : j < 2 := by simpa using hj
  have h4 : j = 0 ∨ j = 1 := by omega
  rcases h4 with rfl | rfl
  all_goals exact ⟨_, part_plain w hu rfl rfl, by simp [run_equalIn_bool' w d _ _ _ hu]⟩
set_option maxRecDepth 100000 in
theorem comparable_any (t : TypeId) (ht : t = 3 ∨ t = 9 ∨ t = 4 ∨ t = 129 ∨ t = 131 ∨ t = 130) : ∃ i, Tryz.prog.info? t = some i ∧ i.comparable = true := by
  rcases ht with rfl | rfl | rfl | rfl | rfl | rfl
  all_goals exact ⟨_, rfl, rfl⟩
set_option maxRecDepth 100000 in
theorem equal_pv (m : Mg) (w : World) : (Op.equal 93 (.agg m.pv) (.agg m.pv)).run Tryz.prog w = .ok true w := by
  obtain ⟨i, hi⟩ : ∃ i, Tryz.prog.info? 20 = some i := ⟨_, rfl⟩
  have hc : Tryz.prog.cellsOf 20 = 1 := by kernel_rfl
  have hu : Tryz.prog.underlying 20 = some (.interface #[]) := by rfl
  have key : ∀ d, (Op.equalIn (d + 4) 93 (.agg m.pv) (.agg m.pv)).run Tryz.prog w = .ok true w := by
    intro d
    rw [run_equalIn_array (n := 16) (e := 20) w (d + 3) _ _ (by rfl) hi, hc]
    refine eqItems_refl w _ _ _ _ _ (fun j hj => ?_)
    have h3 : j < 16 := by simpa using hj
    have h4 : j = 0 ∨ j = 1 ∨ j = 2 ∨ j = 3 ∨ j = 4 ∨ j = 5 ∨ j = 6 ∨ j = 7 ∨ j = 8 ∨ j = 9 ∨ j = 10 ∨ j = 11 ∨ j = 12 ∨ j = 13 ∨ j = 14 ∨ j = 15 := by omega
    have hs : ∀ a : ByteArray, (Op.equalIn (d + 2) 9 (.string a) (.string a)).run Tryz.prog w = .ok true w := fun a => by rw [run_equalIn_string w (d + 1) _ _ _ (by rfl)]; simp
    have hn : ∀ a : Int, (Op.equalIn (d + 2) 3 (.int .i64 a) (.int .i64 a)).run Tryz.prog w = .ok true w := fun a => by rw [run_equalIn_int w (d + 1) _ _ .i64 _ _ (by rfl)]; simp
    have hb : ∀ a : Bool, (Op.equalIn (d + 2) 4 (.bool a) (.bool a)).run Tryz.prog w = .ok true w := fun a => by rw [run_equalIn_bool' w (d + 1) _ _ _ (by rfl)]; simp
    rcases h4 with rfl | rfl | rfl | rfl | rfl | rfl | rfl | rfl | rfl | rfl | rfl | rfl | rfl | rfl | rfl | rfl
    · obtain ⟨i, h1, h2⟩ := comparable_any 3 (by simp)
      exact ⟨_, part_plain w hu rfl rfl, equalIn_iface w (d + 2) hu h1 h2 (hn _)⟩
    · obtain ⟨i, h1, h2⟩ := comparable_any 9 (by simp)
      exact ⟨_, part_plain w hu rfl rfl, equalIn_iface w (d + 2) hu h1 h2 (hs _)⟩
    · obtain ⟨i, h1, h2⟩ := comparable_any 4 (by simp)
      exact ⟨_, part_plain w hu rfl rfl, equalIn_iface w (d + 2) hu h1 h2 (hb _)⟩
    · obtain ⟨i, h1, h2⟩ := comparable_any 9 (by simp)
      exact ⟨_, part_plain w hu rfl rfl, equalIn_iface w (d + 2) hu h1 h2 (hs _)⟩
    · obtain ⟨i, h1, h2⟩ := comparable_any 3 (by simp)
      exact ⟨_, part_plain w hu rfl rfl, equalIn_iface w (d + 2) hu h1 h2 (hn _)⟩
    · obtain ⟨i, h1, h2⟩ := comparable_any 3 (by simp)
      exact ⟨_, part_plain w hu rfl rfl, equalIn_iface w (d + 2) hu h1 h2 (hn _)⟩
    · obtain ⟨i, h1, h2⟩ := comparable_any 3 (by simp)
      exact ⟨_, part_plain w hu rfl rfl, equalIn_iface w (d + 2) hu h1 h2 (hn _)⟩
    · obtain ⟨i, h1, h2⟩ := comparable_any 3 (by simp)
      exact ⟨_, part_plain w hu rfl rfl, equalIn_iface w (d + 2) hu h1 h2 (hn _)⟩
    · obtain ⟨i, h1, h2⟩ := comparable_any 4 (by simp)
      exact ⟨_, part_plain w hu rfl rfl, equalIn_iface w (d + 2) hu h1 h2 (hb _)⟩
    · obtain ⟨i, h1, h2⟩ := comparable_any 129 (by simp)
      exact ⟨_, part_plain w hu rfl rfl, equalIn_iface w (d + 2) hu h1 h2 (equal_strs3 d _ _ _ w)⟩
    · obtain ⟨i, h1, h2⟩ := comparable_any 130 (by simp)
      exact ⟨_, part_plain w hu rfl rfl, equalIn_iface w (d + 2) hu h1 h2 (equal_bools2 d _ _ w)⟩
    · obtain ⟨i, h1, h2⟩ := comparable_any 131 (by simp)
      exact ⟨_, part_plain w hu rfl rfl, equalIn_iface w (d + 2) hu h1 h2 (equal_strs2 d _ _ w)⟩
    · obtain ⟨i, h1, h2⟩ := comparable_any 4 (by simp)
      exact ⟨_, part_plain w hu rfl rfl, equalIn_iface w (d + 2) hu h1 h2 (hb _)⟩
    · obtain ⟨i, h1, h2⟩ := comparable_any 3 (by simp)
      exact ⟨_, part_plain w hu rfl rfl, equalIn_iface w (d + 2) hu h1 h2 (hn _)⟩
    · obtain ⟨i, h1, h2⟩ := comparable_any 3 (by simp)
      exact ⟨_, part_plain w hu rfl rfl, equalIn_iface w (d + 2) hu h1 h2 (hn _)⟩
    · obtain ⟨i, h1, h2⟩ := comparable_any 131 (by simp)
      exact ⟨_, part_plain w hu rfl rfl, equalIn_iface w (d + 2) hu h1 h2 (equal_strs2 d _ _ w)⟩
  exact key 9996
end Go.Proofs.YtaojidcneocelaaGreatDoor

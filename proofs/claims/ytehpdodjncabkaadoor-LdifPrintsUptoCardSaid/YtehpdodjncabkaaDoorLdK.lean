/- ldif.kindWord: what it returns. -/
import Derived.Test.YtehpdodjncabkaaDoorLdR
namespace Go.Proofs.YtehpdodjncabkaaDoor
open Go.RowKit Go.Lib

set_option maxRecDepth 100000 in
theorem kindWord_any (n : Int) (w : World) (h : 0 ≤ n ∧ n ≤ 3) :
    Calls Tryd.prog 22 #[.int .i64 n] w fun e w' => e = .returned (.string ⟨(kindW n).toArray⟩) ∧ w = w' := by
  have hn : n = 0 ∨ n = 1 ∨ n = 2 ∨ n = 3 := by omega
  rcases hn with rfl | rfl | rfl | rfl
  · have hix : (Instr.index 98 (.agg #[.string ⟨#[97, 100, 100]⟩, .string ⟨#[100, 101, 108, 101, 116, 101]⟩, .string ⟨#[109, 111, 100, 105, 102, 121]⟩, .string ⟨#[109, 111, 100, 114, 100, 110]⟩]) (.int .i64 0)).run Tryd.prog w = .ok (.string ⟨#[97, 100, 100]⟩) w := by kernel_rfl
    go_enter Tryd.func22, Tryd.ntmps22
    go_wp2
    go_ret
    exact ⟨rfl, rfl⟩
  · have hix : (Instr.index 98 (.agg #[.string ⟨#[97, 100, 100]⟩, .string ⟨#[100, 101, 108, 101, 116, 101]⟩, .string ⟨#[109, 111, 100, 105, 102, 121]⟩, .string ⟨#[109, 111, 100, 114, 100, 110]⟩]) (.int .i64 1)).run Tryd.prog w = .ok (.string ⟨#[100, 101, 108, 101, 116, 101]⟩) w := by kernel_rfl
    go_enter Tryd.func22, Tryd.ntmps22
    go_wp2
    go_ret
    exact ⟨rfl, rfl⟩
  · have hix : (Instr.index 98 (.agg #[.string ⟨#[97, 100, 100]⟩, .string ⟨#[100, 101, 108, 101, 116, 101]⟩, .string ⟨#[109, 111, 100, 105, 102, 121]⟩, .string ⟨#[109, 111, 100, 114, 100, 110]⟩]) (.int .i64 2)).run Tryd.prog w = .ok (.string ⟨#[109, 111, 100, 105, 102, 121]⟩) w := by kernel_rfl
    go_enter Tryd.func22, Tryd.ntmps22
    go_wp2
    go_ret
    exact ⟨rfl, rfl⟩
  · have hix : (Instr.index 98 (.agg #[.string ⟨#[97, 100, 100]⟩, .string ⟨#[100, 101, 108, 101, 116, 101]⟩, .string ⟨#[109, 111, 100, 105, 102, 121]⟩, .string ⟨#[109, 111, 100, 114, 100, 110]⟩]) (.int .i64 3)).run Tryd.prog w = .ok (.string ⟨#[109, 111, 100, 114, 100, 110]⟩) w := by kernel_rfl
    go_enter Tryd.func22, Tryd.ntmps22
    go_wp2
    go_ret
    exact ⟨rfl, rfl⟩
end Go.Proofs.YtehpdodjncabkaaDoor

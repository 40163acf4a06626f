/- Chapter 4, plain: the document's way through a whole name is the reader's. -/
import Derived.Test.YtegigcneimjimaaGreatDoorDnN
import Derived.Test.YtegigcneimjimaaGreatDoorPlainRf4
namespace Go.Proofs.YtegigcneimjimaaGreatDoor
open Go.Lib

theorem rName_fuel : ∀ (f g : Nat) (r : List UInt8) (o : List (List Av)), r.length < f → r.length < g → rName f r o = rName g r o
  | 0, _, r, _, h, _ => by omega
  | _, 0, r, _, _, h => by omega
  | f + 1, g + 1, r, o, h1, h2 => by
    rw [rName_step, rName_step]
    cases hp : rPart (r.length + 1) r [] with
    | none => rfl
    | some p =>
      obtain ⟨a, u⟩ := p
      have hl := rPart_len _ _ _ _ _ hp
      simp only
      unfold rNameK
      split
      · simp at hl; exact rName_fuel f g _ _ (by omega) (by omega)
      · rfl
      · rfl
def refName : Nat → List UInt8 → List Av → List (List Av) → Option (List (List Av))
  | 0, _, _, _ => none
  | f + 1, r, part, out =>
    match refPair r with
    | none => none
    | some (x, u) =>
      match u with
      | 43 :: u' => refName f u' (part ++ [x]) out
      | [] => some (out ++ [part ++ [x]])
      | 44 :: u' => refName f u' [] (out ++ [part ++ [x]])
      | _ => none
theorem rPartK_other (f : Nat) (u : List UInt8) (o : List Av) (h : ∀ u', u = 43 :: u' → False) : rPartK f u o = some (o, u) := by
  unfold rPartK
  split
  · exact absurd rfl (h _)
  · rfl
theorem rNameK_other (f : Nat) (u : List UInt8) (o : List (List Av)) (h : ∀ u', u = 44 :: u' → False) (h0 : u = [] → False) : rNameK f u o = none := by
  unfold rNameK
  split
  · exact absurd rfl (h _)
  · exact absurd rfl h0
  · rfl
theorem refName_rName : ∀ (F : Nat) (r : List UInt8) (part : List Av) (out : List (List Av)), r.length < F →
    refName F r part out = match rPart F r part with | none => none | some (p, u) => rNameK F u (out ++ [p])
  | 0, r, _, _, h => by omega
  | F + 1, r, part, out, h => by
    rw [refName, rPart_step]
    rcases refPair_rPair r with hp | ⟨hp, a, u, h2, c, t, rfl, hc1, hc2⟩
    · rw [hp]
      cases hq : rPair r with
      | none => rfl
      | some p =>
        obtain ⟨x, u⟩ := p
        have hl := rPair_len hq
        simp only
        unfold rPartK
        split
        · rename_i u'
          simp at hl
          rw [refName_rName F u' _ _ (by omega)]
          simp only
          cases hr : rPart F u' (part ++ [x]) with
          | none => rfl
          | some p =>
            obtain ⟨p, z⟩ := p
            have hz := rPart_len _ _ _ _ _ hr
            simp only
            unfold rNameK
            split
            · simp at hz; exact rName_fuel _ _ _ _ (by omega) (by omega)
            · rfl
            · rfl
        · rfl
        · rename_i u'
          simp at hl
          rw [refName_rName F u' _ _ (by omega)]
          show _ = rName (F + 1) u' (out ++ [part ++ [x]])
          rw [rName_step, rPart_fuel F (u'.length + 1) u' [] (by omega) (by omega)]
          cases rPart (u'.length + 1) u' [] with
          | none => rfl
          | some p => rfl
        · rename_i h43 hnil h44
          have e := rPartK_other F u (part ++ [x]) (fun u' e => h43 u' e)
          have e2 := rNameK_other (F + 1) u (out ++ [part ++ [x]]) (fun u' e => h44 u' e) (fun e => hnil e)
          unfold rPartK at e
          rw [e]
          exact e2.symm
    · rw [hp, h2]
      simp only
      split
      · rename_i heq; cases heq; exact absurd rfl hc1
      · rename_i heq; cases heq
      · rename_i heq; cases heq; exact absurd rfl hc2
      · rfl
end Go.Proofs.YtegigcneimjimaaGreatDoor

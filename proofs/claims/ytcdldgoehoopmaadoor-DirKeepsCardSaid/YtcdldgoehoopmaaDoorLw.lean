/- From the contract of a law to the call that its row asks for. -/
import Derived.Test.YtcdldgoehoopmaaDoorHh
import Derived.Below
set_option linter.unusedVariables false
namespace Gab
open Go
def kn0 : Kn := ⟨fun _ => none, fun _ => []⟩
def stE : St := ⟨0, fun _ => none⟩
/-- The tables that the text lays, in a world. -/
def Laid (w : World) : Prop := ∀ (g : Nat) (cs : Array Value), globT g = some cs → ∃ e fz, w.heap[g]? = some (.cells cs e fz)
theorem rel_nil {w : World} (hg : Laid w) : Rel [] stE w := ⟨⟨rfl, fun b o h => (by cases h), fun b b' l l' o o' _ h => (by cases h)⟩, ⟨hg, fun b o l h => (by cases h)⟩⟩
theorem hp_nil : Hp kn0 [] stE := ⟨⟨fun b o h => (by cases h), fun _ _ h => (by cases h)⟩, fun _ _ h => (by cases h), List.Pairwise.nil⟩
theorem law_callsQ {P : Program} {f : FuncId} {args : List AV} {st : St} {Q : AV → St → Prop} {ρ : Loc.Map} {w : World} {cargs : List Value} (h : ASpec P f args st Q) (hq : ∀ v s, Q v s → v = .bool true) (hro : ∀ b o, st.get b = some o → o.rw = false) (hr : Rel ρ st w) (ha : RVs ρ args cargs) :
    Calls P f ⟨cargs⟩ w fun e w' => e = .returned (.bool true) ∧ Go.RowKit.Below w.heap.size w w' :=
  (h.2 ρ w cargs hr ha).mono fun e w' ⟨c, v, ρ', st', he, hv, hrv, _, hs⟩ => by
    obtain rfl := hq _ _ hv
    have hc : c = .bool true := hrv
    subst hc
    exact ⟨he, hs.below hro⟩
theorem law_calls {P : Program} {f : FuncId} {args : List AV} {st : St} {B : Kn} {L : Own} {ρ : Loc.Map} {w : World} {cargs : List Value} (h : ASpec P f args st (CS B L fun v => v = .bool true)) (hro : ∀ b o, st.get b = some o → o.rw = false) (hr : Rel ρ st w) (ha : RVs ρ args cargs) :
    Calls P f ⟨cargs⟩ w fun e w' => e = .returned (.bool true) ∧ Go.RowKit.Below w.heap.size w w' :=
  law_callsQ h (fun v s ⟨_, hv⟩ => hv) hro hr ha
end Gab

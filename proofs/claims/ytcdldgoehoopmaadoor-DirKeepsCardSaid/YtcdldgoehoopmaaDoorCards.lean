/-
  DERIVED. GIVEN WITH THE SEED: THE CARDS: each row of YtcdldgoehoopmaaDoorRows.lean that lists a variable, with what it lists TIED to the program's text (the seventh form; the later family's looks); each row that meets fmt, with fmt's text TOLD by the authors' own Lean function (tested against real Go, not proved from fmt's source: count such statements apart). THE CARD IS WHAT COUNTS. Prove the row's statement (the work); the ties are given (YtcdldgoehoopmaaDoorTie.lean); close each card by the builder's one call (the guide's Derived/Test/ToyasCard.lean, 'card_holds'). Laid BY PROGRAM, IN A SANDBOX (cutbox-door.mjs). By AI agents, Wed Nov 11 2026. No macro, syntax, notation, axiom, sorry.
-/
import Derived.Test.YtcdldgoehoopmaaDoorRows
import GoSem.ClaimSeven
namespace Go.Proofs.YtcdldgoehoopmaaDoor
namespace Rows

/-- THE TIED CARD OF 'gabionlaw17.DirKeeps'. -/
def dirKeepsCard : Claim7 := { stood := { row := dirKeepsRow, standIns := [], harness := (true, "272d162330562ecc3c327d6b45aeabbd199c6742275ad586ee4b4220f12167cb"), looks := true }, kinds := [], alts := [], laidByText := true, laidKinds := [.data, .data, .data], laidTests := true, laidLooks := .later }
def DirKeepsCardSaid : Prop := Claim7.holds Tryd.pinned (.plain (OpenSpec.ofChange dirKeepsSpec)) dirKeepsCard

/-- THE TIED CARD OF 'gabionlaw17.DirOrder'. -/
def dirOrderCard : Claim7 := { stood := { row := dirOrderRow, standIns := [], harness := (true, "272d162330562ecc3c327d6b45aeabbd199c6742275ad586ee4b4220f12167cb"), looks := true }, kinds := [], alts := [], laidByText := true, laidKinds := [.data, .data, .data], laidTests := true, laidLooks := .later }
def DirOrderCardSaid : Prop := Claim7.holds Tryd.pinned (.plain (OpenSpec.ofChange dirOrderSpec)) dirOrderCard

/-- THE TIED CARD OF 'gabionlaw17.DirPlays'. -/
def dirPlaysCard : Claim7 := { stood := { row := dirPlaysRow, standIns := [], harness := (true, "272d162330562ecc3c327d6b45aeabbd199c6742275ad586ee4b4220f12167cb"), looks := true }, kinds := [], alts := [], laidByText := true, laidKinds := [.data, .data, .data], laidTests := true, laidLooks := .later }
def DirPlaysCardSaid : Prop := Claim7.holds Tryd.pinned (.plain (OpenSpec.ofChange dirPlaysSpec)) dirPlaysCard

/-- THE TIED CARD OF 'gabionlaw17.DirNames'. -/
def dirNamesCard : Claim7 := { stood := { row := dirNamesRow, standIns := [], harness := (true, "272d162330562ecc3c327d6b45aeabbd199c6742275ad586ee4b4220f12167cb"), looks := true }, kinds := [], alts := [], laidByText := true, laidKinds := [.data, .data, .data], laidTests := true, laidLooks := .later }
def DirNamesCardSaid : Prop := Claim7.holds Tryd.pinned (.plain (OpenSpec.ofChange dirNamesSpec)) dirNamesCard

/-- THE SECOND FORM's CARD OF 'gabionlaw17.DirKeeps'. -/
def dirKeepsUptoCard : Claim7 := { stood := { row := dirKeepsUptoRow, standIns := [], harness := (true, "272d162330562ecc3c327d6b45aeabbd199c6742275ad586ee4b4220f12167cb"), looks := true }, kinds := [], alts := [], laidByText := true, laidKinds := [.data, .data, .data], laidTests := true, laidLooks := .later }
def DirKeepsUptoCardSaid : Prop := Claim7.holds Tryd.pinned (.plain (OpenSpec.upto dirKeepsSpec)) dirKeepsUptoCard

/-- THE SECOND FORM's CARD OF 'gabionlaw17.DirOrder'. -/
def dirOrderUptoCard : Claim7 := { stood := { row := dirOrderUptoRow, standIns := [], harness := (true, "272d162330562ecc3c327d6b45aeabbd199c6742275ad586ee4b4220f12167cb"), looks := true }, kinds := [], alts := [], laidByText := true, laidKinds := [.data, .data, .data], laidTests := true, laidLooks := .later }
def DirOrderUptoCardSaid : Prop := Claim7.holds Tryd.pinned (.plain (OpenSpec.upto dirOrderSpec)) dirOrderUptoCard

/-- THE SECOND FORM's CARD OF 'gabionlaw17.DirPlays'. -/
def dirPlaysUptoCard : Claim7 := { stood := { row := dirPlaysUptoRow, standIns := [], harness := (true, "272d162330562ecc3c327d6b45aeabbd199c6742275ad586ee4b4220f12167cb"), looks := true }, kinds := [], alts := [], laidByText := true, laidKinds := [.data, .data, .data], laidTests := true, laidLooks := .later }
def DirPlaysUptoCardSaid : Prop := Claim7.holds Tryd.pinned (.plain (OpenSpec.upto dirPlaysSpec)) dirPlaysUptoCard

/-- THE SECOND FORM's CARD OF 'gabionlaw17.DirNames'. -/
def dirNamesUptoCard : Claim7 := { stood := { row := dirNamesUptoRow, standIns := [], harness := (true, "272d162330562ecc3c327d6b45aeabbd199c6742275ad586ee4b4220f12167cb"), looks := true }, kinds := [], alts := [], laidByText := true, laidKinds := [.data, .data, .data], laidTests := true, laidLooks := .later }
def DirNamesUptoCardSaid : Prop := Claim7.holds Tryd.pinned (.plain (OpenSpec.upto dirNamesSpec)) dirNamesUptoCard
end Rows
end Go.Proofs.YtcdldgoehoopmaaDoor

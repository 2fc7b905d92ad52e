/-
  DERIVED. GIVEN WITH THE SEED: THE CARDS: each row of YthjhbhgfckaklaaDoorRows.lean that lists a variable, with what it lists TIED to the program's text (the seventh form; the later family's looks); each row that meets fmt, with fmt's text TOLD by the authors' own Lean function (tested against real Go, not proved from fmt's source: count such statements apart). THE CARD IS WHAT COUNTS. Prove the row's statement (the work); the ties are given (YthjhbhgfckaklaaDoorTie.lean); close each card by the builder's one call (the guide's Derived/Test/ToyasCard.lean, 'card_holds'). Laid BY PROGRAM, IN A SANDBOX (cutbox-door.mjs). By AI agents, Wed Nov 11 2026. No macro, syntax, notation, axiom, sorry.
-/
import Derived.Test.YthjhbhgfckaklaaDoorRows
import GoSem.ClaimSeven
namespace Go.Proofs.YthjhbhgfckaklaaDoor
namespace Rows

/-- THE TIED CARD OF 'abatislaw15.CspPolicies'. -/
def cspPoliciesCard : Claim7 := { stood := { row := cspPoliciesRow, standIns := [], harness := (true, "b474d26df70f9bac921d47fc187245203245ee9f91cf46adfdedc24152550076"), looks := false }, kinds := [], alts := [], laidByText := true, laidKinds := [.data, .pinned], laidTests := true, laidLooks := .later }
def CspPoliciesCardSaid : Prop := Claim7.holds Tryd.pinned (.plain (OpenSpec.ofChange cspPoliciesSpec)) cspPoliciesCard

/-- THE TIED CARD OF 'abatislaw15.CspAdds'. -/
def cspAddsCard : Claim7 := { stood := { row := cspAddsRow, standIns := [], harness := (true, "b474d26df70f9bac921d47fc187245203245ee9f91cf46adfdedc24152550076"), looks := false }, kinds := [], alts := [], laidByText := true, laidKinds := [.data, .pinned], laidTests := true, laidLooks := .later }
def CspAddsCardSaid : Prop := Claim7.holds Tryd.pinned (.plain (OpenSpec.ofChange cspAddsSpec)) cspAddsCard

/-- THE TIED CARD OF 'abatislaw17.PreflightAsks'. -/
def preflightAsksCard : Claim7 := { stood := { row := preflightAsksRow, standIns := [], harness := (true, "b474d26df70f9bac921d47fc187245203245ee9f91cf46adfdedc24152550076"), looks := false }, kinds := [], alts := [], laidByText := true, laidKinds := [.data, .data, .data], laidTests := true, laidLooks := .later }
def PreflightAsksCardSaid : Prop := Claim7.holds Tryd.pinned (.plain (OpenSpec.ofChange preflightAsksSpec)) preflightAsksCard

/-- THE TIED CARD OF 'abatislaw17.PreflightAges'. -/
def preflightAgesCard : Claim7 := { stood := { row := preflightAgesRow, standIns := [], harness := (true, "b474d26df70f9bac921d47fc187245203245ee9f91cf46adfdedc24152550076"), looks := false }, kinds := [], alts := [], laidByText := true, laidKinds := [.data, .data, .data], laidTests := true, laidLooks := .later }
def PreflightAgesCardSaid : Prop := Claim7.holds Tryd.pinned (.plain (OpenSpec.ofChange preflightAgesSpec)) preflightAgesCard

/-- THE TIED CARD OF 'abatislaw14.HeadEnds'. -/
def headEndsCard : Claim7 := { stood := { row := headEndsRow, standIns := [], harness := (true, "b474d26df70f9bac921d47fc187245203245ee9f91cf46adfdedc24152550076"), looks := false }, kinds := [], alts := [], laidByText := true, laidKinds := [.data, .pinned], laidTests := true, laidLooks := .later }
def HeadEndsCardSaid : Prop := Claim7.holds Tryd.pinned (.plain (OpenSpec.ofChange headEndsSpec)) headEndsCard

/-- THE SECOND FORM's CARD OF 'abatislaw15.CspPolicies'. -/
def cspPoliciesUptoCard : Claim7 := { stood := { row := cspPoliciesUptoRow, standIns := [], harness := (true, "b474d26df70f9bac921d47fc187245203245ee9f91cf46adfdedc24152550076"), looks := false }, kinds := [], alts := [], laidByText := true, laidKinds := [.data, .pinned], laidTests := true, laidLooks := .later }
def CspPoliciesUptoCardSaid : Prop := Claim7.holds Tryd.pinned (.plain (OpenSpec.upto cspPoliciesSpec)) cspPoliciesUptoCard

/-- THE SECOND FORM's CARD OF 'abatislaw15.CspAdds'. -/
def cspAddsUptoCard : Claim7 := { stood := { row := cspAddsUptoRow, standIns := [], harness := (true, "b474d26df70f9bac921d47fc187245203245ee9f91cf46adfdedc24152550076"), looks := false }, kinds := [], alts := [], laidByText := true, laidKinds := [.data, .pinned], laidTests := true, laidLooks := .later }
def CspAddsUptoCardSaid : Prop := Claim7.holds Tryd.pinned (.plain (OpenSpec.upto cspAddsSpec)) cspAddsUptoCard

/-- THE SECOND FORM's CARD OF 'abatislaw17.PreflightAsks'. -/
def preflightAsksUptoCard : Claim7 := { stood := { row := preflightAsksUptoRow, standIns := [], harness := (true, "b474d26df70f9bac921d47fc187245203245ee9f91cf46adfdedc24152550076"), looks := false }, kinds := [], alts := [], laidByText := true, laidKinds := [.data, .data, .data], laidTests := true, laidLooks := .later }
def PreflightAsksUptoCardSaid : Prop := Claim7.holds Tryd.pinned (.plain (OpenSpec.upto preflightAsksSpec)) preflightAsksUptoCard

/-- THE SECOND FORM's CARD OF 'abatislaw17.PreflightAges'. -/
def preflightAgesUptoCard : Claim7 := { stood := { row := preflightAgesUptoRow, standIns := [], harness := (true, "b474d26df70f9bac921d47fc187245203245ee9f91cf46adfdedc24152550076"), looks := false }, kinds := [], alts := [], laidByText := true, laidKinds := [.data, .data, .data], laidTests := true, laidLooks := .later }
def PreflightAgesUptoCardSaid : Prop := Claim7.holds Tryd.pinned (.plain (OpenSpec.upto preflightAgesSpec)) preflightAgesUptoCard

/-- THE SECOND FORM's CARD OF 'abatislaw14.HeadEnds'. -/
def headEndsUptoCard : Claim7 := { stood := { row := headEndsUptoRow, standIns := [], harness := (true, "b474d26df70f9bac921d47fc187245203245ee9f91cf46adfdedc24152550076"), looks := false }, kinds := [], alts := [], laidByText := true, laidKinds := [.data, .pinned], laidTests := true, laidLooks := .later }
def HeadEndsUptoCardSaid : Prop := Claim7.holds Tryd.pinned (.plain (OpenSpec.upto headEndsSpec)) headEndsUptoCard
end Rows
end Go.Proofs.YthjhbhgfckaklaaDoor

/-
  NARROWER THAN 'FOR EVERY INPUT', by the rows' own cells (each row's printed sentence says how): DiskKeeps: laid · WalAgain: laid · WalPower: laid · WalPlays: laid.
  DERIVED. THE GIVEN ROWS OF THIS SEAT. 4 by the template 'for every input the law returns true; each argument reads behind the call as it read before'; 0 by the template 'total and deterministic' (their statements: YtcolhmddhaabnaaDoorTotals.lean).
  GIVEN WITH THE SEED: the statements are not yours to turn. If you find one false, say at which input.
  Laid BY PROGRAM, IN A SANDBOX (cutbox-rows.mjs): the forced cells as the released guide's own fill.sh prints them over the translation b4428f619cf10e60… (all of the seat's roots in one cut). By AI agents, Wed Nov 11 2026. No macro, syntax, notation, axiom, sorry.
-/
import Derived.Test.YtcolhmddhaabnaaDoorChecked
import GoSem.Claim
import GoSem.ClaimJoined
import GoSem.ClaimMapViews
import Derived.JoinedTies
import Derived.KernelRfl
namespace Go.Proofs.YtcolhmddhaabnaaDoor
/- THE CELL 'sum', in the pinned program and in every row, IS THE sha256 OF THE DUMP (.gsa) THAT YtcolhmddhaabnaaDoorProg.lean LOADS. Nothing in Lean hashes anything: it is a label: what it is worth is what the hold of that sum in a sandbox is worth. -/
noncomputable def Tryd.pinned : Pinned := { name := "ytcolhmddhaabnaadoor", sum := "b4428f619cf10e600b6767d309d8fcfe61cfd423fcf35e6caa240f9039322d97", checked := Tryd.checked }
namespace Rows
def none {H : Type} : Left H := { results := [], args := [] }

/- WHAT THE LISTED PACKAGE-LEVEL VARIABLES READ AS WHEN THE CALL BEGINS. Each datum BY PROGRAM (the guide's laid-datum.mjs) off the statement by which the dump's own 'gosem.cut.vars' lays the variable. In a bare row this is a premise. The card (YtcolhmddhaabnaaDoorCards.lean) ties it to the program's text. -/
def laid_bulla_api_ErrRange {H : Type} : DataW H := .iface "*errors.errorString" (.ptr (.agg [.lit (.string [97, 32, 110, 117, 109, 98, 101, 114, 32, 105, 115, 32, 111, 117, 116, 32, 111, 102, 32, 105, 116, 115, 32, 114, 97, 110, 103, 101])]))
def laid_bulla_api_ErrDown {H : Type} : DataW H := .iface "*errors.errorString" (.ptr (.agg [.lit (.string [116, 104, 101, 32, 112, 111, 119, 101, 114, 32, 105, 115, 32, 103, 111, 110, 101])]))
def laid_bulla_api_ErrFull {H : Type} : DataW H := .iface "*errors.errorString" (.ptr (.agg [.lit (.string [116, 104, 101, 114, 101, 32, 105, 115, 32, 110, 111, 32, 114, 111, 111, 109])]))
def laid_bulla_api_ErrLong {H : Type} : DataW H := .iface "*errors.errorString" (.ptr (.agg [.lit (.string [116, 104, 101, 114, 101, 32, 105, 115, 32, 109, 111, 114, 101, 32, 116, 104, 97, 110, 32, 109, 97, 121, 32, 98, 101])]))
def laid_bulla_api_ErrForm {H : Type} : DataW H := .iface "*errors.errorString" (.ptr (.agg [.lit (.string [105, 116, 32, 105, 115, 32, 110, 111, 116, 32, 111, 102, 32, 105, 116, 115, 32, 102, 111, 114, 109])]))
def laid_bulla_sha_constants {H : Type} : DataW H := .agg [.lit (.int .u32 1116352408), .lit (.int .u32 1899447441), .lit (.int .u32 3049323471), .lit (.int .u32 3921009573), .lit (.int .u32 961987163), .lit (.int .u32 1508970993), .lit (.int .u32 2453635748), .lit (.int .u32 2870763221), .lit (.int .u32 3624381080), .lit (.int .u32 310598401), .lit (.int .u32 607225278), .lit (.int .u32 1426881987), .lit (.int .u32 1925078388), .lit (.int .u32 2162078206), .lit (.int .u32 2614888103), .lit (.int .u32 3248222580), .lit (.int .u32 3835390401), .lit (.int .u32 4022224774), .lit (.int .u32 264347078), .lit (.int .u32 604807628), .lit (.int .u32 770255983), .lit (.int .u32 1249150122), .lit (.int .u32 1555081692), .lit (.int .u32 1996064986), .lit (.int .u32 2554220882), .lit (.int .u32 2821834349), .lit (.int .u32 2952996808), .lit (.int .u32 3210313671), .lit (.int .u32 3336571891), .lit (.int .u32 3584528711), .lit (.int .u32 113926993), .lit (.int .u32 338241895), .lit (.int .u32 666307205), .lit (.int .u32 773529912), .lit (.int .u32 1294757372), .lit (.int .u32 1396182291), .lit (.int .u32 1695183700), .lit (.int .u32 1986661051), .lit (.int .u32 2177026350), .lit (.int .u32 2456956037), .lit (.int .u32 2730485921), .lit (.int .u32 2820302411), .lit (.int .u32 3259730800), .lit (.int .u32 3345764771), .lit (.int .u32 3516065817), .lit (.int .u32 3600352804), .lit (.int .u32 4094571909), .lit (.int .u32 275423344), .lit (.int .u32 430227734), .lit (.int .u32 506948616), .lit (.int .u32 659060556), .lit (.int .u32 883997877), .lit (.int .u32 958139571), .lit (.int .u32 1322822218), .lit (.int .u32 1537002063), .lit (.int .u32 1747873779), .lit (.int .u32 1955562222), .lit (.int .u32 2024104815), .lit (.int .u32 2227730452), .lit (.int .u32 2361852424), .lit (.int .u32 2428436474), .lit (.int .u32 2756734187), .lit (.int .u32 3204031479), .lit (.int .u32 3329325298)]
def laid_bulla_sha_first {H : Type} : DataW H := .agg [.lit (.int .u32 1779033703), .lit (.int .u32 3144134277), .lit (.int .u32 1013904242), .lit (.int .u32 2773480762), .lit (.int .u32 1359893119), .lit (.int .u32 2600822924), .lit (.int .u32 528734635), .lit (.int .u32 1541459225)]
def laid_bulla_api_ErrShort {H : Type} : DataW H := .iface "*errors.errorString" (.ptr (.agg [.lit (.string [98, 121, 116, 101, 115, 32, 97, 114, 101, 32, 109, 105, 115, 115, 105, 110, 103])]))
def laid_bulla_api_ErrTag {H : Type} : DataW H := .iface "*errors.errorString" (.ptr (.agg [.lit (.string [97, 110, 111, 116, 104, 101, 114, 32, 116, 97, 103, 32, 105, 115, 32, 119, 97, 110, 116, 101, 100])]))
def laid_bulla_api_ErrDepth {H : Type} : DataW H := .iface "*errors.errorString" (.ptr (.agg [.lit (.string [105, 116, 32, 105, 115, 32, 110, 101, 115, 116, 101, 100, 32, 116, 111, 111, 32, 100, 101, 101, 112])]))
def laid_bulla_api_ErrOrder {H : Type} : DataW H := .iface "*errors.errorString" (.ptr (.agg [.lit (.string [105, 116, 32, 105, 115, 32, 110, 111, 116, 32, 105, 110, 32, 111, 114, 100, 101, 114])]))
def laid_bulla_api_ErrText {H : Type} : DataW H := .iface "*errors.errorString" (.ptr (.agg [.lit (.string [97, 32, 116, 101, 120, 116, 32, 105, 115, 32, 110, 111, 116, 32, 111, 102, 32, 105, 116, 115, 32, 102, 111, 114, 109])]))
def laid_bulla_api_ErrName {H : Type} : DataW H := .iface "*errors.errorString" (.ptr (.agg [.lit (.string [97, 32, 110, 97, 109, 101, 32, 105, 115, 32, 110, 111, 116, 32, 111, 102, 32, 105, 116, 115, 32, 102, 111, 114, 109])]))
def laid_bulla_api_ErrKey {H : Type} : DataW H := .iface "*errors.errorString" (.ptr (.agg [.lit (.string [116, 104, 101, 114, 101, 32, 105, 115, 32, 110, 111, 32, 115, 117, 99, 104, 32, 107, 101, 121])]))
def laid_bulla_api_ErrProof {H : Type} : DataW H := .iface "*errors.errorString" (.ptr (.agg [.lit (.string [105, 116, 32, 100, 111, 101, 115, 32, 110, 111, 116, 32, 112, 114, 111, 118, 101, 32, 119, 104, 97, 116, 32, 105, 116, 32, 99, 108, 97, 105, 109, 115])]))
def laid_bulla_api_ErrSign {H : Type} : DataW H := .iface "*errors.errorString" (.ptr (.agg [.lit (.string [116, 104, 101, 32, 115, 105, 103, 110, 97, 116, 117, 114, 101, 32, 105, 115, 32, 110, 111, 116, 32, 114, 105, 103, 104, 116])]))
def laid_bulla_api_ErrExpired {H : Type} : DataW H := .iface "*errors.errorString" (.ptr (.agg [.lit (.string [105, 116, 32, 105, 115, 32, 110, 111, 116, 32, 118, 97, 108, 105, 100, 32, 97, 110, 121, 32, 109, 111, 114, 101])]))
def laid_bulla_api_ErrEarly {H : Type} : DataW H := .iface "*errors.errorString" (.ptr (.agg [.lit (.string [105, 116, 32, 105, 115, 32, 110, 111, 116, 32, 118, 97, 108, 105, 100, 32, 121, 101, 116])]))
def laid_bulla_api_ErrUsage {H : Type} : DataW H := .iface "*errors.errorString" (.ptr (.agg [.lit (.string [105, 116, 32, 105, 115, 32, 110, 111, 116, 32, 102, 111, 114, 32, 116, 104, 97, 116, 32, 117, 115, 101])]))
def laid_bulla_api_ErrIssuer {H : Type} : DataW H := .iface "*errors.errorString" (.ptr (.agg [.lit (.string [105, 116, 115, 32, 105, 115, 115, 117, 101, 114, 32, 105, 115, 32, 110, 111, 116, 32, 116, 114, 117, 115, 116, 101, 100])]))
def laid_bulla_api_ErrRevoked {H : Type} : DataW H := .iface "*errors.errorString" (.ptr (.agg [.lit (.string [105, 116, 32, 105, 115, 32, 114, 101, 118, 111, 107, 101, 100])]))
def laid_bulla_api_ErrNone {H : Type} : DataW H := .iface "*errors.errorString" (.ptr (.agg [.lit (.string [116, 104, 101, 114, 101, 32, 105, 115, 32, 110, 111, 110, 101])]))
def laid_bulla_api_ErrExists {H : Type} : DataW H := .iface "*errors.errorString" (.ptr (.agg [.lit (.string [116, 104, 101, 114, 101, 32, 105, 115, 32, 111, 110, 101, 32, 97, 108, 114, 101, 97, 100, 121])]))
def laid_bulla_api_ErrStale {H : Type} : DataW H := .iface "*errors.errorString" (.ptr (.agg [.lit (.string [105, 116, 32, 119, 97, 115, 32, 99, 104, 97, 110, 103, 101, 100, 32, 109, 101, 97, 110, 119, 104, 105, 108, 101])]))
def laid_bulla_api_ErrQuota {H : Type} : DataW H := .iface "*errors.errorString" (.ptr (.agg [.lit (.string [116, 104, 101, 114, 101, 32, 97, 114, 101, 32, 116, 111, 111, 32, 109, 97, 110, 121])]))
def laid_bulla_api_ErrDenied {H : Type} : DataW H := .iface "*errors.errorString" (.ptr (.agg [.lit (.string [105, 116, 32, 105, 115, 32, 110, 111, 116, 32, 97, 108, 108, 111, 119, 101, 100])]))
def laid_bulla_api_ErrAuth {H : Type} : DataW H := .iface "*errors.errorString" (.ptr (.agg [.lit (.string [119, 104, 111, 32, 97, 115, 107, 115, 32, 105, 115, 32, 110, 111, 116, 32, 107, 110, 111, 119, 110])]))
def laid_bulla_api_ErrState {H : Type} : DataW H := .iface "*errors.errorString" (.ptr (.agg [.lit (.string [105, 116, 32, 99, 97, 110, 32, 110, 111, 116, 32, 98, 101, 32, 100, 111, 110, 101, 32, 110, 111, 119])]))
def laid_bulla_api_ErrCorrupt {H : Type} : DataW H := .iface "*errors.errorString" (.ptr (.agg [.lit (.string [119, 104, 97, 116, 32, 105, 115, 32, 107, 101, 112, 116, 32, 105, 115, 32, 110, 111, 116, 32, 114, 105, 103, 104, 116])]))
def laid_bulla_api_ErrBusy {H : Type} : DataW H := .iface "*errors.errorString" (.ptr (.agg [.lit (.string [105, 116, 32, 105, 115, 32, 117, 110, 100, 101, 114, 32, 119, 97, 121])]))

/-- 'bullalaw17.DiskKeeps': WHATEVER THE INPUT: true; the input reads as it did. -/
def diskKeepsSpec : ChangeSpec := { name := "diskKeeps", fn := fun _ => fun
  | [d1, d2] => { results := [.lit (.bool true)], args := [d1, d2] }
  | _ => none }
def diskKeepsRow : OpenClaim := { program := "ytcolhmddhaabnaadoor", sum := "b4428f619cf10e600b6767d309d8fcfe61cfd423fcf35e6caa240f9039322d97", func := "bulla/bullalaw17.DiskKeeps", spec := "diskKeeps", named := ["bulla/api.ErrRange", "bulla/api.ErrFull", "bulla/api.ErrDown"], apart := false, laid := [("bulla/api.ErrRange", laid_bulla_api_ErrRange), ("bulla/api.ErrDown", laid_bulla_api_ErrDown), ("bulla/api.ErrFull", laid_bulla_api_ErrFull)] }
def DiskKeepsSaid : Prop := diskKeepsRow.holds Tryd.pinned (OpenSpec.ofChange diskKeepsSpec)

/-- ITS FALSE NEIGHBOUR: 'it returns false'. Refute it at one input. -/
def diskKeepsWrong : ChangeSpec := { name := "diskKeeps", fn := fun _ => fun
  | [d1, d2] => { results := [.lit (.bool false)], args := [d1, d2] }
  | _ => none }
def DiskKeepsWrongFalsely : Prop := diskKeepsRow.holds Tryd.pinned (OpenSpec.ofChange diskKeepsWrong)

/-- 'bullalaw18.WalAgain': WHATEVER THE INPUT: true; the input reads as it did. -/
def walAgainSpec : ChangeSpec := { name := "walAgain", fn := fun _ => fun
  | [d1, d2] => { results := [.lit (.bool true)], args := [d1, d2] }
  | _ => none }
def walAgainRow : OpenClaim := { program := "ytcolhmddhaabnaadoor", sum := "b4428f619cf10e600b6767d309d8fcfe61cfd423fcf35e6caa240f9039322d97", func := "bulla/bullalaw18.WalAgain", spec := "walAgain", named := ["bulla/api.ErrRange", "bulla/api.ErrForm", "bulla/api.ErrDown", "bulla/sha.first", "bulla/sha.constants", "bulla/api.ErrLong", "bulla/api.ErrFull"], apart := false, laid := [("bulla/api.ErrRange", laid_bulla_api_ErrRange), ("bulla/api.ErrLong", laid_bulla_api_ErrLong), ("bulla/api.ErrForm", laid_bulla_api_ErrForm), ("bulla/api.ErrDown", laid_bulla_api_ErrDown), ("bulla/api.ErrFull", laid_bulla_api_ErrFull), ("bulla/sha.constants", laid_bulla_sha_constants), ("bulla/sha.first", laid_bulla_sha_first)] }
def WalAgainSaid : Prop := walAgainRow.holds Tryd.pinned (OpenSpec.ofChange walAgainSpec)

/-- ITS FALSE NEIGHBOUR: 'it returns false'. Refute it at one input. -/
def walAgainWrong : ChangeSpec := { name := "walAgain", fn := fun _ => fun
  | [d1, d2] => { results := [.lit (.bool false)], args := [d1, d2] }
  | _ => none }
def WalAgainWrongFalsely : Prop := walAgainRow.holds Tryd.pinned (OpenSpec.ofChange walAgainWrong)

/-- 'bullalaw18.WalPower': WHATEVER THE INPUT: true; the input reads as it did. -/
def walPowerSpec : ChangeSpec := { name := "walPower", fn := fun _ => fun
  | [d1, d2, d3] => { results := [.lit (.bool true)], args := [d1, d2, d3] }
  | _ => none }
def walPowerRow : OpenClaim := { program := "ytcolhmddhaabnaadoor", sum := "b4428f619cf10e600b6767d309d8fcfe61cfd423fcf35e6caa240f9039322d97", func := "bulla/bullalaw18.WalPower", spec := "walPower", inPlace := ["internal/reflectlite.TypeOf"], unfollowed := true, recurses := true, named := ["bulla/api.ErrRange", "bulla/api.ErrForm", "bulla/api.ErrDown", "bulla/sha.first", "bulla/sha.constants", "bulla/api.ErrLong", "bulla/api.ErrFull", "bulla/api.ErrShort", "bulla/api.ErrTag", "bulla/api.ErrDepth", "bulla/api.ErrOrder", "bulla/api.ErrText", "bulla/api.ErrName", "bulla/api.ErrKey", "bulla/api.ErrProof", "bulla/api.ErrSign", "bulla/api.ErrExpired", "bulla/api.ErrEarly", "bulla/api.ErrUsage", "bulla/api.ErrIssuer", "bulla/api.ErrRevoked", "bulla/api.ErrNone", "bulla/api.ErrExists", "bulla/api.ErrStale", "bulla/api.ErrQuota", "bulla/api.ErrDenied", "bulla/api.ErrAuth", "bulla/api.ErrState", "bulla/api.ErrCorrupt", "bulla/api.ErrBusy"], apart := false, laid := [("bulla/api.ErrRange", laid_bulla_api_ErrRange), ("bulla/api.ErrShort", laid_bulla_api_ErrShort), ("bulla/api.ErrLong", laid_bulla_api_ErrLong), ("bulla/api.ErrForm", laid_bulla_api_ErrForm), ("bulla/api.ErrTag", laid_bulla_api_ErrTag), ("bulla/api.ErrDepth", laid_bulla_api_ErrDepth), ("bulla/api.ErrOrder", laid_bulla_api_ErrOrder), ("bulla/api.ErrText", laid_bulla_api_ErrText), ("bulla/api.ErrName", laid_bulla_api_ErrName), ("bulla/api.ErrKey", laid_bulla_api_ErrKey), ("bulla/api.ErrProof", laid_bulla_api_ErrProof), ("bulla/api.ErrSign", laid_bulla_api_ErrSign), ("bulla/api.ErrExpired", laid_bulla_api_ErrExpired), ("bulla/api.ErrEarly", laid_bulla_api_ErrEarly), ("bulla/api.ErrUsage", laid_bulla_api_ErrUsage), ("bulla/api.ErrIssuer", laid_bulla_api_ErrIssuer), ("bulla/api.ErrRevoked", laid_bulla_api_ErrRevoked), ("bulla/api.ErrNone", laid_bulla_api_ErrNone), ("bulla/api.ErrExists", laid_bulla_api_ErrExists), ("bulla/api.ErrStale", laid_bulla_api_ErrStale), ("bulla/api.ErrQuota", laid_bulla_api_ErrQuota), ("bulla/api.ErrDenied", laid_bulla_api_ErrDenied), ("bulla/api.ErrAuth", laid_bulla_api_ErrAuth), ("bulla/api.ErrState", laid_bulla_api_ErrState), ("bulla/api.ErrDown", laid_bulla_api_ErrDown), ("bulla/api.ErrFull", laid_bulla_api_ErrFull), ("bulla/api.ErrCorrupt", laid_bulla_api_ErrCorrupt), ("bulla/api.ErrBusy", laid_bulla_api_ErrBusy), ("bulla/sha.constants", laid_bulla_sha_constants), ("bulla/sha.first", laid_bulla_sha_first)] }
def WalPowerSaid : Prop := walPowerRow.holds Tryd.pinned (OpenSpec.ofChange walPowerSpec)

/-- ITS FALSE NEIGHBOUR: 'it returns false'. Refute it at one input. -/
def walPowerWrong : ChangeSpec := { name := "walPower", fn := fun _ => fun
  | [d1, d2, d3] => { results := [.lit (.bool false)], args := [d1, d2, d3] }
  | _ => none }
def WalPowerWrongFalsely : Prop := walPowerRow.holds Tryd.pinned (OpenSpec.ofChange walPowerWrong)

/-- 'bullalaw18.WalPlays': WHATEVER THE INPUT: true; the input reads as it did. -/
def walPlaysSpec : ChangeSpec := { name := "walPlays", fn := fun _ => fun
  | [d1, d2] => { results := [.lit (.bool true)], args := [d1, d2] }
  | _ => none }
def walPlaysRow : OpenClaim := { program := "ytcolhmddhaabnaadoor", sum := "b4428f619cf10e600b6767d309d8fcfe61cfd423fcf35e6caa240f9039322d97", func := "bulla/bullalaw18.WalPlays", spec := "walPlays", inPlace := ["internal/reflectlite.TypeOf"], unfollowed := true, recurses := true, named := ["bulla/api.ErrRange", "bulla/api.ErrForm", "bulla/api.ErrDown", "bulla/sha.first", "bulla/sha.constants", "bulla/api.ErrLong", "bulla/api.ErrFull", "bulla/api.ErrShort", "bulla/api.ErrTag", "bulla/api.ErrDepth", "bulla/api.ErrOrder", "bulla/api.ErrText", "bulla/api.ErrName", "bulla/api.ErrKey", "bulla/api.ErrProof", "bulla/api.ErrSign", "bulla/api.ErrExpired", "bulla/api.ErrEarly", "bulla/api.ErrUsage", "bulla/api.ErrIssuer", "bulla/api.ErrRevoked", "bulla/api.ErrNone", "bulla/api.ErrExists", "bulla/api.ErrStale", "bulla/api.ErrQuota", "bulla/api.ErrDenied", "bulla/api.ErrAuth", "bulla/api.ErrState", "bulla/api.ErrCorrupt", "bulla/api.ErrBusy"], apart := false, laid := [("bulla/api.ErrRange", laid_bulla_api_ErrRange), ("bulla/api.ErrShort", laid_bulla_api_ErrShort), ("bulla/api.ErrLong", laid_bulla_api_ErrLong), ("bulla/api.ErrForm", laid_bulla_api_ErrForm), ("bulla/api.ErrTag", laid_bulla_api_ErrTag), ("bulla/api.ErrDepth", laid_bulla_api_ErrDepth), ("bulla/api.ErrOrder", laid_bulla_api_ErrOrder), ("bulla/api.ErrText", laid_bulla_api_ErrText), ("bulla/api.ErrName", laid_bulla_api_ErrName), ("bulla/api.ErrKey", laid_bulla_api_ErrKey), ("bulla/api.ErrProof", laid_bulla_api_ErrProof), ("bulla/api.ErrSign", laid_bulla_api_ErrSign), ("bulla/api.ErrExpired", laid_bulla_api_ErrExpired), ("bulla/api.ErrEarly", laid_bulla_api_ErrEarly), ("bulla/api.ErrUsage", laid_bulla_api_ErrUsage), ("bulla/api.ErrIssuer", laid_bulla_api_ErrIssuer), ("bulla/api.ErrRevoked", laid_bulla_api_ErrRevoked), ("bulla/api.ErrNone", laid_bulla_api_ErrNone), ("bulla/api.ErrExists", laid_bulla_api_ErrExists), ("bulla/api.ErrStale", laid_bulla_api_ErrStale), ("bulla/api.ErrQuota", laid_bulla_api_ErrQuota), ("bulla/api.ErrDenied", laid_bulla_api_ErrDenied), ("bulla/api.ErrAuth", laid_bulla_api_ErrAuth), ("bulla/api.ErrState", laid_bulla_api_ErrState), ("bulla/api.ErrDown", laid_bulla_api_ErrDown), ("bulla/api.ErrFull", laid_bulla_api_ErrFull), ("bulla/api.ErrCorrupt", laid_bulla_api_ErrCorrupt), ("bulla/api.ErrBusy", laid_bulla_api_ErrBusy), ("bulla/sha.constants", laid_bulla_sha_constants), ("bulla/sha.first", laid_bulla_sha_first)] }
def WalPlaysSaid : Prop := walPlaysRow.holds Tryd.pinned (OpenSpec.ofChange walPlaysSpec)

/-- ITS FALSE NEIGHBOUR: 'it returns false'. Refute it at one input. -/
def walPlaysWrong : ChangeSpec := { name := "walPlays", fn := fun _ => fun
  | [d1, d2] => { results := [.lit (.bool false)], args := [d1, d2] }
  | _ => none }
def WalPlaysWrongFalsely : Prop := walPlaysRow.holds Tryd.pinned (OpenSpec.ofChange walPlaysWrong)

/- THE SECOND FORM. 'bulk': how many values and letters a reading holds, each counted each time it is reached (what is shared counts as often as it is met; a slice's spare places count too). A statement '..UptoSaid' is the law's where the arguments, and the package variables that the reading takes, are together of bulk at most 1048576: NARROWER than '..Said'. Prove '..Said' where nothing that the law and all that it calls make is longer than what came in: it says more and counts as full. Else prove '..UptoSaid'. A law counts once. -/
mutual
def uptoBulk {H : Type} : DataW H → Nat
  | .lit (.string bytes) => bytes.length + 1
  | .lit _ => 1
  | .nil => 1
  | .ptr d => uptoBulk d + 1
  | .slice elems spare => uptoBulkAll elems + uptoBulkAll spare + 1
  | .agg parts => uptoBulkAll parts + 1
  | .iface _ d => uptoBulk d + 1
  | .map entries => uptoBulkEntries entries + 1
  | .held _ => 1
def uptoBulkAll {H : Type} : List (DataW H) → Nat
  | [] => 0
  | d :: r => uptoBulk d + uptoBulkAll r
def uptoBulkEntries {H : Type} : List (Lit × DataW H) → Nat
  | [] => 0
  | x :: r => uptoBulkEntry x + uptoBulkEntries r
def uptoBulkEntry {H : Type} : Lit × DataW H → Nat
  | (.string bytes, d) => bytes.length + uptoBulk d + 1
  | (_, d) => uptoBulk d + 1
 end
def uptoSmall : (H : Type) → List (DataW H) → Bool := fun _ ds => decide (uptoBulkAll ds ≤ 1048576)
def OpenSpec.upto (s : _root_.Go.ChangeSpec) : _root_.Go.OpenSpec := { _root_.Go.OpenSpec.ofChange s with cond := some uptoSmall }

/-- 'bullalaw17.DiskKeeps', WHERE WHAT IT READS IS OF BULK AT MOST 1048576: true; the input reads as it did. -/
def diskKeepsUptoRow : OpenClaim := { program := "ytcolhmddhaabnaadoor", sum := "b4428f619cf10e600b6767d309d8fcfe61cfd423fcf35e6caa240f9039322d97", func := "bulla/bullalaw17.DiskKeeps", spec := "diskKeeps", named := ["bulla/api.ErrRange", "bulla/api.ErrFull", "bulla/api.ErrDown"], apart := false, laid := [("bulla/api.ErrRange", laid_bulla_api_ErrRange), ("bulla/api.ErrDown", laid_bulla_api_ErrDown), ("bulla/api.ErrFull", laid_bulla_api_ErrFull)], narrowed := true }
def DiskKeepsUptoSaid : Prop := diskKeepsUptoRow.holds Tryd.pinned (OpenSpec.upto diskKeepsSpec)

/-- 'bullalaw18.WalAgain', WHERE WHAT IT READS IS OF BULK AT MOST 1048576: true; the input reads as it did. -/
def walAgainUptoRow : OpenClaim := { program := "ytcolhmddhaabnaadoor", sum := "b4428f619cf10e600b6767d309d8fcfe61cfd423fcf35e6caa240f9039322d97", func := "bulla/bullalaw18.WalAgain", spec := "walAgain", named := ["bulla/api.ErrRange", "bulla/api.ErrForm", "bulla/api.ErrDown", "bulla/sha.first", "bulla/sha.constants", "bulla/api.ErrLong", "bulla/api.ErrFull"], apart := false, laid := [("bulla/api.ErrRange", laid_bulla_api_ErrRange), ("bulla/api.ErrLong", laid_bulla_api_ErrLong), ("bulla/api.ErrForm", laid_bulla_api_ErrForm), ("bulla/api.ErrDown", laid_bulla_api_ErrDown), ("bulla/api.ErrFull", laid_bulla_api_ErrFull), ("bulla/sha.constants", laid_bulla_sha_constants), ("bulla/sha.first", laid_bulla_sha_first)], narrowed := true }
def WalAgainUptoSaid : Prop := walAgainUptoRow.holds Tryd.pinned (OpenSpec.upto walAgainSpec)

/-- 'bullalaw18.WalPower', WHERE WHAT IT READS IS OF BULK AT MOST 1048576: true; the input reads as it did. -/
def walPowerUptoRow : OpenClaim := { program := "ytcolhmddhaabnaadoor", sum := "b4428f619cf10e600b6767d309d8fcfe61cfd423fcf35e6caa240f9039322d97", func := "bulla/bullalaw18.WalPower", spec := "walPower", inPlace := ["internal/reflectlite.TypeOf"], unfollowed := true, recurses := true, named := ["bulla/api.ErrRange", "bulla/api.ErrForm", "bulla/api.ErrDown", "bulla/sha.first", "bulla/sha.constants", "bulla/api.ErrLong", "bulla/api.ErrFull", "bulla/api.ErrShort", "bulla/api.ErrTag", "bulla/api.ErrDepth", "bulla/api.ErrOrder", "bulla/api.ErrText", "bulla/api.ErrName", "bulla/api.ErrKey", "bulla/api.ErrProof", "bulla/api.ErrSign", "bulla/api.ErrExpired", "bulla/api.ErrEarly", "bulla/api.ErrUsage", "bulla/api.ErrIssuer", "bulla/api.ErrRevoked", "bulla/api.ErrNone", "bulla/api.ErrExists", "bulla/api.ErrStale", "bulla/api.ErrQuota", "bulla/api.ErrDenied", "bulla/api.ErrAuth", "bulla/api.ErrState", "bulla/api.ErrCorrupt", "bulla/api.ErrBusy"], apart := false, laid := [("bulla/api.ErrRange", laid_bulla_api_ErrRange), ("bulla/api.ErrShort", laid_bulla_api_ErrShort), ("bulla/api.ErrLong", laid_bulla_api_ErrLong), ("bulla/api.ErrForm", laid_bulla_api_ErrForm), ("bulla/api.ErrTag", laid_bulla_api_ErrTag), ("bulla/api.ErrDepth", laid_bulla_api_ErrDepth), ("bulla/api.ErrOrder", laid_bulla_api_ErrOrder), ("bulla/api.ErrText", laid_bulla_api_ErrText), ("bulla/api.ErrName", laid_bulla_api_ErrName), ("bulla/api.ErrKey", laid_bulla_api_ErrKey), ("bulla/api.ErrProof", laid_bulla_api_ErrProof), ("bulla/api.ErrSign", laid_bulla_api_ErrSign), ("bulla/api.ErrExpired", laid_bulla_api_ErrExpired), ("bulla/api.ErrEarly", laid_bulla_api_ErrEarly), ("bulla/api.ErrUsage", laid_bulla_api_ErrUsage), ("bulla/api.ErrIssuer", laid_bulla_api_ErrIssuer), ("bulla/api.ErrRevoked", laid_bulla_api_ErrRevoked), ("bulla/api.ErrNone", laid_bulla_api_ErrNone), ("bulla/api.ErrExists", laid_bulla_api_ErrExists), ("bulla/api.ErrStale", laid_bulla_api_ErrStale), ("bulla/api.ErrQuota", laid_bulla_api_ErrQuota), ("bulla/api.ErrDenied", laid_bulla_api_ErrDenied), ("bulla/api.ErrAuth", laid_bulla_api_ErrAuth), ("bulla/api.ErrState", laid_bulla_api_ErrState), ("bulla/api.ErrDown", laid_bulla_api_ErrDown), ("bulla/api.ErrFull", laid_bulla_api_ErrFull), ("bulla/api.ErrCorrupt", laid_bulla_api_ErrCorrupt), ("bulla/api.ErrBusy", laid_bulla_api_ErrBusy), ("bulla/sha.constants", laid_bulla_sha_constants), ("bulla/sha.first", laid_bulla_sha_first)], narrowed := true }
def WalPowerUptoSaid : Prop := walPowerUptoRow.holds Tryd.pinned (OpenSpec.upto walPowerSpec)

/-- 'bullalaw18.WalPlays', WHERE WHAT IT READS IS OF BULK AT MOST 1048576: true; the input reads as it did. -/
def walPlaysUptoRow : OpenClaim := { program := "ytcolhmddhaabnaadoor", sum := "b4428f619cf10e600b6767d309d8fcfe61cfd423fcf35e6caa240f9039322d97", func := "bulla/bullalaw18.WalPlays", spec := "walPlays", inPlace := ["internal/reflectlite.TypeOf"], unfollowed := true, recurses := true, named := ["bulla/api.ErrRange", "bulla/api.ErrForm", "bulla/api.ErrDown", "bulla/sha.first", "bulla/sha.constants", "bulla/api.ErrLong", "bulla/api.ErrFull", "bulla/api.ErrShort", "bulla/api.ErrTag", "bulla/api.ErrDepth", "bulla/api.ErrOrder", "bulla/api.ErrText", "bulla/api.ErrName", "bulla/api.ErrKey", "bulla/api.ErrProof", "bulla/api.ErrSign", "bulla/api.ErrExpired", "bulla/api.ErrEarly", "bulla/api.ErrUsage", "bulla/api.ErrIssuer", "bulla/api.ErrRevoked", "bulla/api.ErrNone", "bulla/api.ErrExists", "bulla/api.ErrStale", "bulla/api.ErrQuota", "bulla/api.ErrDenied", "bulla/api.ErrAuth", "bulla/api.ErrState", "bulla/api.ErrCorrupt", "bulla/api.ErrBusy"], apart := false, laid := [("bulla/api.ErrRange", laid_bulla_api_ErrRange), ("bulla/api.ErrShort", laid_bulla_api_ErrShort), ("bulla/api.ErrLong", laid_bulla_api_ErrLong), ("bulla/api.ErrForm", laid_bulla_api_ErrForm), ("bulla/api.ErrTag", laid_bulla_api_ErrTag), ("bulla/api.ErrDepth", laid_bulla_api_ErrDepth), ("bulla/api.ErrOrder", laid_bulla_api_ErrOrder), ("bulla/api.ErrText", laid_bulla_api_ErrText), ("bulla/api.ErrName", laid_bulla_api_ErrName), ("bulla/api.ErrKey", laid_bulla_api_ErrKey), ("bulla/api.ErrProof", laid_bulla_api_ErrProof), ("bulla/api.ErrSign", laid_bulla_api_ErrSign), ("bulla/api.ErrExpired", laid_bulla_api_ErrExpired), ("bulla/api.ErrEarly", laid_bulla_api_ErrEarly), ("bulla/api.ErrUsage", laid_bulla_api_ErrUsage), ("bulla/api.ErrIssuer", laid_bulla_api_ErrIssuer), ("bulla/api.ErrRevoked", laid_bulla_api_ErrRevoked), ("bulla/api.ErrNone", laid_bulla_api_ErrNone), ("bulla/api.ErrExists", laid_bulla_api_ErrExists), ("bulla/api.ErrStale", laid_bulla_api_ErrStale), ("bulla/api.ErrQuota", laid_bulla_api_ErrQuota), ("bulla/api.ErrDenied", laid_bulla_api_ErrDenied), ("bulla/api.ErrAuth", laid_bulla_api_ErrAuth), ("bulla/api.ErrState", laid_bulla_api_ErrState), ("bulla/api.ErrDown", laid_bulla_api_ErrDown), ("bulla/api.ErrFull", laid_bulla_api_ErrFull), ("bulla/api.ErrCorrupt", laid_bulla_api_ErrCorrupt), ("bulla/api.ErrBusy", laid_bulla_api_ErrBusy), ("bulla/sha.constants", laid_bulla_sha_constants), ("bulla/sha.first", laid_bulla_sha_first)], narrowed := true }
def WalPlaysUptoSaid : Prop := walPlaysUptoRow.holds Tryd.pinned (OpenSpec.upto walPlaysSpec)

end Rows
end Go.Proofs.YtcolhmddhaabnaaDoor

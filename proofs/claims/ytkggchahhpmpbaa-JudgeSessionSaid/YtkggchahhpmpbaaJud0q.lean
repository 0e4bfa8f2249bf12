/- Lemmas towards the law: what of the text Jud0 it needs. -/
import Derived.Test.YtkggchahhpmpbaaSlXq
import Derived.Test.YtkggchahhpmpbaaOpq
import Derived.Outline
namespace Go.Proofs.Ytkggchahhpmpbaa.Jud
open Go.RowKit Go.Proofs.YtkggchahhpmpbaaW.PrintWords Go.Proofs.Ytkggchahhpmpbaa.Sl
set_option linter.unusedVariables false
set_option linter.unusedSimpArgs false
def noText : ByteArray := ⟨#[]⟩
/-- a client's frame -/
structure Frm where
  kind : Int
  text : ByteArray
  deriving Inhabited
def Frm.enc (f : Frm) : List Value := [.int .u8 f.kind, .string f.text]
theorem Frm.len (f : Frm) : f.enc.length = 2 := rfl
theorem Frm.one (f : Frm) : f.enc.all (·.oneCell') = true := rfl
/-- a reply -/
structure Rep where
  kind : Int
  node : Int
  text : ByteArray
  deriving Inhabited
def Rep.enc (r : Rep) : List Value := [.int .i64 r.kind, .int .i64 r.node, .string r.text]
theorem Rep.len (r : Rep) : r.enc.length = 3 := rfl
theorem Rep.one (r : Rep) : r.enc.all (·.oneCell') = true := rfl
def strs (s : ByteArray) : List Value := [.string s]
theorem strs_len (s : ByteArray) : (strs s).length = 1 := rfl
theorem strs_one (s : ByteArray) : (strs s).all (·.oneCell') = true := rfl
def frmS : Sh := .st (.cons (.int .u8) (.cons .str .nil))
def frmsS : Sh := .slice 63 frmS
def strsS : Sh := .slice 9 .str
def toFrm (x : frmS.D) : Frm := ⟨x.1, x.2.1⟩
theorem frmS_K {w : World} (x : frmS.D) (cs : List Value) (h : frmS.kd.K w x cs) : cs = (toFrm x).enc := by
  obtain ⟨_, _, rfl, rfl, _, _, rfl, rfl, rfl⟩ := h
  rfl
theorem strS_K {w : World} (x : ByteArray) (cs : List Value) (h : (Sh.str).kd.K w x cs) : cs = strs x := h
end Go.Proofs.Ytkggchahhpmpbaa.Jud

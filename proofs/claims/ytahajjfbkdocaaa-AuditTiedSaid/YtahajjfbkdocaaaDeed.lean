/- Layer 4: a deed as a value; its fields. -/
import Derived.Test.YtahajjfbkdocaaaKitb
import Derived.ChangeKeysEq
namespace Go.Proofs.Ytahajjfbkdocaaa
open Go.RowKit
structure Deed where
  kind : Int
  key : ByteArray
  val : ByteArray
  ver : Int
  ses : Int
  num : Int
/-- a deed as a value -/
def EV (d : Deed) : Array Value := #[.int .i64 d.kind, .string d.key, .string d.val, .int .i64 d.ver, .int .i64 d.ses, .int .i64 d.num]
section
variable (d : Deed)
theorem EV_size : (EV d).size = 6 := rfl
theorem EV_piece : piece (EV d) 0 6 = EV d := piece_all _ _ rfl
theorem EV_one : allOne (EV d) = true := by simp [allOne, EV, Value.oneCell']
theorem EV_0 : (EV d)[0]? = some (.int .i64 d.kind) := rfl
theorem EV_1 : (EV d)[1]? = some (.string d.key) := rfl
theorem EV_2 : (EV d)[2]? = some (.string d.val) := rfl
theorem EV_3 : (EV d)[3]? = some (.int .i64 d.ver) := rfl
theorem EV_4 : (EV d)[4]? = some (.int .i64 d.ses) := rfl
theorem EV_5 : (EV d)[5]? = some (.int .i64 d.num) := rfl
theorem EV_set_ses (n : Int) : (EV d).setIfInBounds 4 (.int .i64 n) = EV { d with ses := n } := rfl
end
theorem load_deed0 (v : Value) : Instr.loadAt 32 v = loadSem 32 v := rfl
theorem store_deed0 (v u : Value) : Instr.storeAt 32 v u = storeSem 32 v u := rfl
theorem load_deed (w : World) (v : Value) : (loadSem 32 v).run Try.prog w = loadVal Try.prog 32 6 w v :=
  load_val Try.underlying32 rfl (by kernel_rfl) w v
theorem store_deed (w : World) (v u : Value) : (storeSem 32 v u).run Try.prog w = storeVal Try.prog 32 6 w v u :=
  store_val (by kernel_rfl) w v u
end Go.Proofs.Ytahajjfbkdocaaa

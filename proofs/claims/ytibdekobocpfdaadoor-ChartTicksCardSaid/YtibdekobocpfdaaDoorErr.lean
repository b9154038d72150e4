/- Errors as they are handed back. Own work. -/
import Derived.Test.YtibdekobocpfdaaDoorTc
set_option linter.all false
namespace Go.AM
def errV (n : Int) : AV := .iface t_api_Errno (.int .i64 n)
def intV (n : Int) : AV := .int .i64 n
/-- What an error is told as. -/
def ErrIs (x : AV) (n : Int) : Prop := (x = .nili ∧ n = 0) ∨ x = errV n
end Go.AM

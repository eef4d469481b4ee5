/- Small rules of the walk that the kit's set lacks: the complement of an unsigned number. -/
import Derived.Test.YtejpdpjklncfnaaProg
import Derived.WalkKit
namespace Go.Proofs.YtejpdpjklncfnaaX
theorem unary_xor_u16 (n : Int) : Op.unary .xor (.int .u16 n) = Op.intBits .xor .u16 65535 n := rfl
theorem unary_xor_u8 (n : Int) : Op.unary .xor (.int .u8 n) = Op.intBits .xor .u8 255 n := rfl
end Go.Proofs.YtejpdpjklncfnaaX

/- The walk's law on '^x' of the unsigned kinds, spelt with the number itself. -/
import Derived.WalkKit
namespace Go.Proofs.Ytpjgaacdohiomaa.NotLaw
theorem not_u64 (n : Int) : Op.unary .xor (.int .u64 n) = Op.intBits .xor .u64 18446744073709551615 n := rfl
theorem not_u32 (n : Int) : Op.unary .xor (.int .u32 n) = Op.intBits .xor .u32 4294967295 n := rfl
theorem not_u16 (n : Int) : Op.unary .xor (.int .u16 n) = Op.intBits .xor .u16 65535 n := rfl
theorem not_u8 (n : Int) : Op.unary .xor (.int .u8 n) = Op.intBits .xor .u8 255 n := rfl
end Go.Proofs.Ytpjgaacdohiomaa.NotLaw

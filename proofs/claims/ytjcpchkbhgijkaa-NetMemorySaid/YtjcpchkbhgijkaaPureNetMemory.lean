/- For every input NetMemory answers true. -/
import Derived.Test.YtjcpchkbhgijkaaKNetMemoryx1
namespace Go.Proofs.Ytjcpchkbhgijkaa.Pure
theorem NetMemory : Go.Proofs.Ytjcpchkbhgijkaa.KNetMemory.rilllaw12_NetMemory.Pure := by
  unfold Go.Proofs.Ytjcpchkbhgijkaa.KNetMemory.rilllaw12_NetMemory.Pure
  intros
  trivial
end Go.Proofs.Ytjcpchkbhgijkaa.Pure

/- For every input NetCounts answers true. -/
import Derived.Test.YtjcpchkbhgijkaaKNetCountsx1
namespace Go.Proofs.Ytjcpchkbhgijkaa.Pure
theorem NetCounts : Go.Proofs.Ytjcpchkbhgijkaa.KNetCounts.rilllaw12_NetCounts.Pure := by
  unfold Go.Proofs.Ytjcpchkbhgijkaa.KNetCounts.rilllaw12_NetCounts.Pure
  intros
  trivial
end Go.Proofs.Ytjcpchkbhgijkaa.Pure
